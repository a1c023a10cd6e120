/- Where package-level variables hold errors: the plain heap that a call begins with, and what a row's list of them gives. -/
import Derived.Test.YtceildmghmigaaaDoorSim19
import Derived.LaidLaws
namespace Go.Proofs.YtceildmghmigaaaDoor.Sim
open Go Go.RowKit Go.ChangeShapes Go.WideShapes Go.Deep
set_option linter.unusedVariables false
set_option linter.unusedSimpArgs false
/-- An error, by its place. -/
def Err (i : Nat) : Value := .iface et (.pointer (some ⟨gl.length + i, 0, none⟩))
def errs (on : Nat → Bool) (tg tp : Nat → TypeId) (s : Nat → ByteArray) : Heap :=
  (List.range gl.length).map (fun i => if on i = true then some (⟨false, tg i, [Err i]⟩ : Blk) else none) ++ (List.range gl.length).map (fun i => if on i = true then some (⟨false, tp i, [.string (s i)]⟩ : Blk) else none)
theorem errs_len (on : Nat → Bool) (tg tp : Nat → TypeId) (s : Nat → ByteArray) : (errs on tg tp s).length = 2 * gl.length := by simp [errs]; omega
theorem errs_get {on : Nat → Bool} {tg tp : Nat → TypeId} {s : Nat → ByteArray} {i : Nat} {b : Blk} (h : (errs on tg tp s)[i]? = some (some b)) :
    (i < gl.length ∧ on i = true ∧ b = ⟨false, tg i, [Err i]⟩) ∨ (gl.length ≤ i ∧ i - gl.length < gl.length ∧ on (i - gl.length) = true ∧ b = ⟨false, tp (i - gl.length), [.string (s (i - gl.length))]⟩) := by
  unfold errs at h
  rcases Nat.lt_or_ge i gl.length with g | g
  · rw [List.getElem?_append_left (by simpa using g), List.getElem?_map, List.getElem?_range g] at h
    simp only [Option.map_some, Option.some.injEq] at h
    split at h
    · rename_i ho; simp only [Option.some.injEq] at h; exact .inl ⟨g, ho, h.symm⟩
    · cases h
  · rw [List.getElem?_append_right (by simpa using g)] at h
    simp only [List.length_map, List.length_range] at h
    rcases Nat.lt_or_ge (i - gl.length) gl.length with g2 | g2
    · rw [List.getElem?_map, List.getElem?_range g2] at h
      simp only [Option.map_some, Option.some.injEq] at h
      split at h
      · rename_i ho; simp only [Option.some.injEq] at h; exact .inr ⟨g, g2, ho, h.symm⟩
      · cases h
    · rw [List.getElem?_eq_none (by simpa using g2)] at h; cases h
theorem errs_live {on : Nat → Bool} {tg tp : Nat → TypeId} {s : Nat → ByteArray} {i : Nat} (hi : i < gl.length) (ho : on i = true) : live (errs on tg tp s) i = some ⟨false, tg i, [Err i]⟩ := by
  unfold live errs
  rw [List.getElem?_append_left (by simpa using hi), List.getElem?_map, List.getElem?_range hi]
  simp [ho]
theorem Ins.begin {w : World} (on : Nat → Bool) (a : Nat → Addr) (s : Nat → ByteArray) {i0 : Nat} (h0 : i0 < gl.length ∧ on i0 = true)
    (hg : ∀ i g, gl[i]? = some g → on i = true → w.cell? ⟨g, 0, none⟩ = some (.iface et (.pointer (some (a i)))))
    (hp : ∀ i, i < gl.length → on i = true → w.cell? (a i) = some (.string (s i)))
    (hz : ∀ i, i < gl.length → on i = true → ∃ c ty, w.heap[(a i).block]? = some (.cells c ty (0, 0)))
    (hd : ∀ i j, i < gl.length → j < gl.length → on i = true → on j = true → (a i).block = (a j).block → (a i).off = (a j).off → i = j) :
    ∃ φ tg tp, Ins φ (errs on tg tp s) w := by
  have add0 : ∀ ad : Addr, ad.add 0 = ad := fun ad => rfl
  obtain ⟨fg, hfg⟩ := choose_lt (α := List Value × TypeId × (Nat × Nat)) (n := gl.length) (p := fun i x => on i = true → w.heap[gl.getD i 0]? = some (.cells ⟨[.iface et (.pointer (some (a i)))] ++ x.1⟩ x.2.1 x.2.2)) (fun i hi => by
    by_cases ho : on i = true
    · have hgi : gl[i]? = some (gl.getD i 0) := by rw [List.getD_eq_getElem?_getD, List.getElem?_eq_getElem hi]; rfl
      obtain ⟨_, pre, rest, ty, fz, h1, h2⟩ := row_of_cells (w := w) (ad := ⟨gl.getD i 0, 0, none⟩) (n := 1) (f := fun _ => .iface et (.pointer (some (a i)))) (by omega) (fun j hj => by
        have : j = 0 := by omega
        subst this; rw [add0]; exact hg i _ hgi ho)
      have hpre : pre = [] := List.eq_nil_of_length_eq_zero h2
      subst hpre
      exact ⟨(rest, ty, fz), fun _ => by simpa using h1⟩
    · exact ⟨([], 0, (0, 0)), fun h => absurd h ho⟩)
  obtain ⟨fp, hfp⟩ := choose_lt (α := (List Value × List Value) × TypeId × (Nat × Nat)) (n := gl.length) (p := fun i x => on i = true → (a i).spot = none ∧ w.heap[(a i).block]? = some (.cells ⟨x.1.1 ++ ([.string (s i)] ++ x.1.2)⟩ x.2.1 x.2.2) ∧ x.1.1.length = (a i).off) (fun i hi => by
    by_cases ho : on i = true
    · obtain ⟨hs, pre, rest, ty, fz, h1, h2⟩ := row_of_cells (w := w) (ad := a i) (n := 1) (f := fun _ => .string (s i)) (by omega) (fun j hj => by
        have : j = 0 := by omega
        subst this; rw [add0]; exact hp i hi ho)
      exact ⟨((pre, rest), ty, fz), fun _ => ⟨hs, by simpa using h1, h2⟩⟩
    · exact ⟨(([], []), 0, (0, 0)), fun h => absurd h ho⟩)
  obtain ⟨M, hM⟩ : ∃ M, ∀ i, i < gl.length → (a i).off ≤ M := by
    have : ∀ n, ∃ M, ∀ i, i < n → (a i).off ≤ M := by
      intro n
      induction n with
      | zero => exact ⟨0, fun i hi => by omega⟩
      | succ n ih =>
        obtain ⟨M, hM⟩ := ih
        refine ⟨max M (a n).off, fun i hi => ?_⟩
        by_cases h : i = n
        · subst h; exact Nat.le_max_right _ _
        · exact Nat.le_trans (hM i (by omega)) (Nat.le_max_left _ _)
    exact this _
  let φ : Loc := fun i => if i < gl.length then some (gl.getD i 0, 1 + (fg i).1.length, 0) else if i < 2 * gl.length then (if on (i - gl.length) = true then some ((a (i - gl.length)).block, 1 + (fp (i - gl.length)).1.2.length, (a (i - gl.length)).off) else some ((a i0).block, 0, M + 1 + i)) else none
  have φg : ∀ i, i < gl.length → φ i = some (gl.getD i 0, 1 + (fg i).1.length, 0) := fun i hi => if_pos hi
  have φp : ∀ i, i < gl.length → on i = true → φ (gl.length + i) = some ((a i).block, 1 + (fp i).1.2.length, (a i).off) := fun i hi ho => by
    show (if gl.length + i < gl.length then _ else _) = _
    rw [if_neg (by omega), if_pos (by omega), Nat.add_sub_cancel_left, if_pos ho]
  have φq : ∀ i, i < gl.length → ¬ on i = true → φ (gl.length + i) = some ((a i0).block, 0, M + 1 + (gl.length + i)) := fun i hi ho => by
    show (if gl.length + i < gl.length then _ else _) = _
    rw [if_neg (by omega), if_pos (by omega), Nat.add_sub_cancel_left, if_neg ho]
  have φn : ∀ i, 2 * gl.length ≤ i → φ i = none := fun i hi => by
    show (if i < gl.length then _ else _) = _
    rw [if_neg (by omega), if_neg (by omega)]
  have hsl : Seal φ w := by
    refine ⟨fun i g h => ?_, fun i h => ?_, fun i j k l hi hj ek el h1 h2 => ?_⟩
    · have hi : i < gl.length := by
        rcases Nat.lt_or_ge i gl.length with q | q
        · exact q
        · rw [List.getElem?_eq_none q] at h; cases h
      have : gl.getD i 0 = g := by rw [List.getD_eq_getElem?_getD, h]; rfl
      exact ⟨_, by rw [φg i hi, this]⟩
    · by_cases ho : on i = true
      · obtain ⟨c, ty, e⟩ := hz i h ho
        exact ⟨_, c, ty, φp i h ho, e⟩
      · obtain ⟨c, ty, e⟩ := hz i0 h0.1 h0.2
        exact ⟨_, c, ty, φq i h ho, e⟩
    · by_cases hoi : on i = true <;> by_cases hoj : on j = true
      · rw [φp i hi hoi] at ek; rw [φp j hj hoj] at el; cases ek; cases el
        exact hd i j hi hj hoi hoj h1 h2
      · rw [φp i hi hoi] at ek; rw [φq j hj hoj] at el; cases ek; cases el
        have := hM i hi
        simp only at h2; omega
      · rw [φq i hi hoi] at ek; rw [φp j hj hoj] at el; cases ek; cases el
        have := hM j hj
        simp only at h2; omega
      · rw [φq i hi hoi] at ek; rw [φq j hj hoj] at el; cases ek; cases el
        simp only at h2; omega
  have hro : ∀ (i : Nat) (b : Blk), (errs on (fun i => (fg i).2.1) (fun i => (fp i).2.1) s)[i]? = some (some b) → b.own = false := by
    intro i b h
    rcases errs_get h with ⟨_, _, rfl⟩ | ⟨_, _, _, rfl⟩ <;> rfl
  refine ⟨φ, fun i => (fg i).2.1, fun i => (fp i).2.1, ⟨fun lim => ⟨fun i hi _ => φn i (by rw [errs_len] at hi; exact hi), fun i b h => ?_, fun i j b c k l h o => ?_, hsl⟩, hro⟩⟩
  · rcases errs_get h with ⟨hi, ho, rfl⟩ | ⟨hi, hi2, ho, rfl⟩
    · refine ⟨_, φg i hi, [], [.iface et (.pointer (some (a i)))], (fg i).1, (fg i).2.2, by simpa using hfg i hi ho, (fun h => by cases h), .cons (.iface et ?_) .nil, by simp; omega, rfl⟩
      have h3 := (hfp i hi ho).1
      have h4 := VR.ptr (φ := φ) (off := 0) (φp i hi ho)
      have h5 : (⟨(a i).block, (a i).off + 0, none⟩ : Addr) = a i := by
        rw [Nat.add_zero]
        generalize a i = x at h3
        obtain ⟨x1, x2, x3⟩ := x
        simp only at h3
        subst h3; rfl
      rw [h5] at h4
      exact h4
    · have e : i = gl.length + (i - gl.length) := by omega
      obtain ⟨h3, h4, h5⟩ := hfp _ hi2 ho
      exact ⟨_, by rw [e]; simpa using φp _ hi2 ho, _, [.string (s (i - gl.length))], (fp (i - gl.length)).1.2, _, h4, (fun h => by cases h), .cons (.string _) .nil, by simp; omega, h5⟩
  · rw [hro i b h] at o; cases o
section
variable {P : Program} {W : World}
/-- A row's list of variables, by their numbers. -/
def SentOk (P : Program) (ti : TypeId) (nm : String) : List (String × DataW Unit) → List Nat → Prop
  | [], [] => True
  | (n, d) :: r, g :: gs => P.globalNamed n = some g ∧ (P.globals[g]?).map (·.type) = some ti ∧ (∃ text, d = .iface nm (.ptr (.agg [.lit (.string text)]))) ∧ SentOk P ti nm r gs
  | _, _ => False
theorem sents_of {ti tp te ts : TypeId} {ms : Array (String × TypeId)} {nm : String} {f : Field}
    (hi : P.underlying ti = some (.interface ms)) (hrow : ∀ u, P.typeName? 3 u = some nm → u = tp)
    (hp : P.underlying tp = some (.pointer te)) (he : P.underlying te = some (.struct #[f])) (hft : f.type = ts) (hfo : f.offset = 0) (hs : P.underlying ts = some .string) (hc : P.cellsOf te = 1) (hcs : P.cellsOf ts = 1) :
    ∀ (L : List (String × DataW Unit)) (gs : List Nat) (ps : List MemPlace), SentOk P ti nm L gs → DataW.LaidVars P W L ps → ps.Nodup →
      (∀ b off, MemPlace.cell b off ∈ ps → (∃ c t, W.heap[b]? = some (.cells c t (0, 0))) ∧ ∀ u v, W.cell? ⟨b, off, none⟩ = some (.iface u v) → Value.okWide P W .any 0 u v) →
      ∃ l : List (Addr × ByteArray), l.length = gs.length ∧ (∀ (i : Nat) (g : Nat) (x : Addr × ByteArray), gs[i]? = some g → l[i]? = some x → W.cell? ⟨g, 0, none⟩ = some (.iface tp (.pointer (some x.1))) ∧ W.cell? x.1 = some (.string x.2) ∧ MemPlace.cell x.1.block x.1.off ∈ ps) ∧
        (l.map fun x => (x.1.block, x.1.off)).Nodup
  | [], [], ps, _, _, _, _ => ⟨[], rfl, fun i g x h => by simp at h, by simp⟩
  | [], _ :: _, ps, h, _, _, _ => h.elim
  | _ :: _, [], ps, h, _, _, _ => by cases h
  | (n, d) :: r, g :: gs, ps, h, hL, hnd, hrows => by
    obtain ⟨hg, ht, ⟨text, rfl⟩, hr⟩ := h
    obtain ⟨g0, t0, cs0, f0, p0, q0, hg0, ht0, hv0, hd0, hq, e0⟩ := hL
    obtain rfl := Option.some.inj (hg.symm.trans hg0)
    obtain rfl := Option.some.inj (ht.symm.trans ht0)
    subst e0
    obtain ⟨l0⟩ := cs0
    have ok0 : ∀ u v, l0 = [.iface u v] → Value.okWide P W .any 0 u v := fun u v e => by
      subst e
      exact (hrows g 0 (by simp [MemPlace.row])).2 u v (by simpa using World.var?_cell hg0 hv0 0)
    obtain ⟨a0, s0, rfl, hc0, _, _, rfl⟩ := errorString_of_trod hi hrow hp he hft hfo hs hc hcs hd0 ok0
    have hnd2 := (List.nodup_append.1 hnd)
    obtain ⟨l, hl, hx, hn⟩ := sents_of hi hrow hp he hft hfo hs hc hcs r gs q0 hr hq hnd2.2.1 (fun b off hm => hrows b off (List.mem_append_right _ hm))
    have ha : MemPlace.cell a0.block a0.off ∈ MemPlace.row ⟨g, 0, none⟩ 1 ++ MemPlace.row a0 1 := by simp [MemPlace.row]
    refine ⟨(a0, s0) :: l, by simp [hl], ?_, ?_⟩
    · intro i g' x hgi hxi
      cases i with
      | zero =>
        simp at hgi hxi
        subst hgi; subst hxi
        refine ⟨by simpa using World.var?_cell hg0 hv0 0, hc0, List.mem_append_left _ ha⟩
      | succ i =>
        simp at hgi hxi
        obtain ⟨h1, h2, h3⟩ := hx i g' x hgi hxi
        exact ⟨h1, h2, List.mem_append_right _ h3⟩
    · rw [List.map_cons, List.nodup_cons]
      refine ⟨?_, hn⟩
      intro hm
      obtain ⟨x, hxm, hxe⟩ := List.mem_map.1 hm
      obtain ⟨i, hxi⟩ := List.getElem?_of_mem hxm
      have hil : i < gs.length := by
        rw [← hl]
        rcases Nat.lt_or_ge i l.length with q | q
        · exact q
        · rw [List.getElem?_eq_none q] at hxi; cases hxi
      obtain ⟨_, _, h3⟩ := hx i _ x (List.getElem?_eq_getElem hil) hxi
      simp only [Prod.mk.injEq] at hxe
      rw [hxe.1, hxe.2] at h3
      exact hnd2.2.2 _ ha _ h3 rfl
/-- What a row's list gives: the plain heap that the call begins with. 'ix': the listed ones, by their places. -/
theorem begin_of_laid {ti te ts : TypeId} {ms : Array (String × TypeId)} {nm : String} {f : Field}
    (hi : P.underlying ti = some (.interface ms)) (hrow : ∀ u, P.typeName? 3 u = some nm → u = et)
    (hp : P.underlying et = some (.pointer te)) (he : P.underlying te = some (.struct #[f])) (hft : f.type = ts) (hfo : f.offset = 0) (hs : P.underlying ts = some .string) (hc : P.cellsOf te = 1) (hcs : P.cellsOf ts = 1)
    {L : List (String × DataW Unit)} (ix : List Nat) (hix : ix.Nodup) (hne : ix ≠ []) (hlt : ∀ i ∈ ix, i < gl.length) (hok : SentOk P ti nm L (ix.map fun i => gl.getD i 0)) (h : laidMet P L W) :
    ∃ φ tg tp s, Ins φ (errs (fun i => ix.contains i) tg tp s) W := by
  obtain ⟨ps, hL, hnd, hrows⟩ := h
  obtain ⟨l, hl, hx, hn⟩ := sents_of hi hrow hp he hft hfo hs hc hcs L _ ps hok hL hnd hrows
  rw [List.length_map] at hl
  have key : ∀ i, ix.contains i = true → ∃ j, ix[j]? = some i ∧ ix.idxOf i = j ∧ j < l.length := by
    intro i hi
    have hm : i ∈ ix := by simpa using hi
    have := List.idxOf_lt_length_of_mem hm
    exact ⟨ix.idxOf i, by rw [List.getElem?_eq_getElem this, List.getElem_idxOf], rfl, by omega⟩
  obtain ⟨i0, r, hir⟩ : ∃ i0 r, ix = i0 :: r := by
    cases ix with
    | nil => exact absurd rfl hne
    | cons a b => exact ⟨a, b, rfl⟩
  have getl : ∀ j, j < l.length → l[j]? = some (l.getD j (⟨0, 0, none⟩, ByteArray.empty)) := fun j hj => by rw [List.getD_eq_getElem?_getD, List.getElem?_eq_getElem hj]; rfl
  have hfact : ∀ i, ix.contains i = true → W.cell? ⟨gl.getD i 0, 0, none⟩ = some (.iface et (.pointer (some (l.getD (ix.idxOf i) (⟨0, 0, none⟩, ByteArray.empty)).1))) ∧ W.cell? (l.getD (ix.idxOf i) (⟨0, 0, none⟩, ByteArray.empty)).1 = some (.string (l.getD (ix.idxOf i) (⟨0, 0, none⟩, ByteArray.empty)).2) ∧ MemPlace.cell (l.getD (ix.idxOf i) (⟨0, 0, none⟩, ByteArray.empty)).1.block (l.getD (ix.idxOf i) (⟨0, 0, none⟩, ByteArray.empty)).1.off ∈ ps := by
    intro i hi
    obtain ⟨j, h1, rfl, h3⟩ := key i hi
    exact hx _ _ _ (by rw [List.getElem?_map, h1]; rfl) (getl _ h3)
  obtain ⟨φ, tg, tp, hI⟩ := Ins.begin (w := W) (fun i => ix.contains i) (fun i => (l.getD (ix.idxOf i) (⟨0, 0, none⟩, ByteArray.empty)).1) (fun i => (l.getD (ix.idxOf i) (⟨0, 0, none⟩, ByteArray.empty)).2) (i0 := i0)
    ⟨hlt i0 (by rw [hir]; simp), by rw [hir]; simp⟩
    (fun i g hg ho => by
      have : gl.getD i 0 = g := by rw [List.getD_eq_getElem?_getD, hg]; rfl
      rw [← this]; exact (hfact i ho).1)
    (fun i _ ho => (hfact i ho).2.1) (fun i _ ho => (hrows _ _ (hfact i ho).2.2).1)
    (fun i j _ _ hoi hoj h1 h2 => by
      obtain ⟨p, a1, rfl, a3⟩ := key i hoi
      obtain ⟨q, b1, rfl, b3⟩ := key j hoj
      have e1 : (l.map fun x => (x.1.block, x.1.off))[ix.idxOf i]? = (l.map fun x => (x.1.block, x.1.off))[ix.idxOf j]? := by
        rw [List.getElem?_map, List.getElem?_map, getl _ a3, getl _ b3]
        simp only [Option.map_some, h1, h2]
      have hpq : ix.idxOf i = ix.idxOf j := (List.getElem?_inj (by simpa using a3) hn).1 e1
      rw [hpq, b1] at a1
      exact (Option.some.inj a1).symm)
  exact ⟨φ, tg, tp, _, hI⟩
end
end Go.Proofs.YtceildmghmigaaaDoor.Sim
