/- Each operation does in the model what it does over the plain heap. -/
import Derived.Test.YtoknmodbdlfdmaaSim2
import Derived.Laws.CopyRow
namespace Go.Proofs.Ytoknmodbdlfdmaa.Sim
open Go Go.RowKit
set_option linter.unusedVariables false
set_option linter.unusedSimpArgs false
def Out (P : Program) (s : Sem Next) (lim : Nat) (φ : Loc) (H : Heap) (w : World) (v : Value) (H' : Heap) : Prop :=
  ∃ n v' w' φ', s.run P w = .ok n w' ∧ (n = .value v' ∨ n = .skip ∧ v' = undef) ∧ VR φ' v v' ∧ Rel lim φ' H' w' ∧ Keeps φ H w φ' H' w'
variable {P : Program} {lim : Nat} {φ : Loc} {H : Heap} {w : World} {v : Value} {H' : Heap} {ρ : Fr} {a : Act}
theorem Out.still {s : Sem Next} {v' : Value} (hR : Rel lim φ H w) (h : s.run P w = .ok (.value v') w) (hv : VR φ v v') : Out P s lim φ H w v H :=
  ⟨_, v', w, φ, h, .inl rfl, hv, hR, Keeps.refl _ _ _⟩
theorem run_isAgg {t : TypeId} {d : TypeDesc} (h : P.underlying t = some d) : (isAgg t).run P w = .ok (isAggB d) w := by
  simp only [isAgg, Sem.run_bind, run_underlying h, Result.andThen_ok]
  cases d <;> rfl
theorem run_size {t : TypeId} {i : TypeInfo} (h : P.info? t = some i) : (sizeOf t).run P w = .ok i.size w := by
  simp [sizeOf, typeInfo, h]
theorem run_info {t : TypeId} {i : TypeInfo} (h : P.info? t = some i) : (typeInfo t).run P w = .ok i w := by
  simp [typeInfo, h]
theorem run_zero {t : TypeId} {i : TypeInfo} {z : Value} (h : P.info? t = some i) (hz : i.zero = some z) : (zeroValue t).run P w = .ok z w := by
  simp [zeroValue, typeInfo, h, hz]
theorem add_off (b o n : Nat) : (⟨b, o, none⟩ : Addr).add n = ⟨b, o + n, none⟩ := by
  unfold Addr.add
  split
  · rename_i h; subst h; rfl
  · rfl
theorem live_iff {i : Nat} {b : Blk} : live H i = some b ↔ H[i]? = some (some b) ∧ b.mp.it = none := by
  unfold live
  cases e : H[i]? with
  | none => simp
  | some o => cases o with
    | none => simp
    | some c =>
      simp only [Option.join_some, Option.filter_some, Option.some.injEq]
      by_cases hc : c.mp.it = none
      · rw [hc]; simp only [Option.isNone_none, if_true, Option.some.injEq]
        constructor
        · rintro rfl; exact ⟨rfl, hc⟩
        · rintro ⟨rfl, _⟩; rfl
      · have : c.mp.it.isNone = false := by cases h : c.mp.it with
          | none => exact absurd h hc
          | some _ => rfl
        rw [this]; simp only [Bool.false_eq_true, if_false, reduceCtorEq, false_iff, not_and]
        rintro rfl h; exact hc h
theorem live_some {i : Nat} {b : Blk} (h : live H i = some b) : H[i]? = some (some b) := (live_iff.1 h).1
theorem live_mp {i : Nat} {b : Blk} (h : live H i = some b) : b.mp.it = none := (live_iff.1 h).2
theorem mlive_some {i : Nat} {p : MRep} (h : mlive H i = some p) : ∃ b : Blk, H[i]? = some (some b) ∧ b.mp.it = some p := by
  unfold mlive at h
  cases e : H[i]? with
  | none => rw [e] at h; cases h
  | some o => rw [e] at h; cases o with
    | none => cases h
    | some c => exact ⟨c, rfl, h⟩
/-- A block's cells, those that stand for the plain ones in front. -/
theorem Rel.block {φ : Loc} {H : Heap} {w : World} (r : Rel lim φ H w) {i : Nat} {b : Blk} {k : Nat × Nat × Nat} (h : H[i]? = some (some b)) (hmp : b.mp.it = none) (e : φ i = some k) :
    ∃ pre m rest fz, w.heap[k.1]? = some (.cells ⟨pre ++ (m ++ rest)⟩ b.ty fz) ∧ (b.own = true → fz = (0, 0) ∧ pre = []) ∧ VRs φ b.cells m ∧ k.2.1 = (m ++ rest).length ∧ pre.length = k.2.2 := by
  obtain ⟨k', e', g⟩ := r.blk i b h
  rw [e] at e'; cases e'
  rcases g with ⟨_, g⟩ | ⟨q, l, _, h0, _⟩
  · exact g
  · rw [hmp] at h0; cases h0
theorem ptr_inv {i off : Nat} {u : Value} (h : VR φ (.pointer (some ⟨i, off, none⟩)) u) : ∃ k, φ i = some k ∧ u = .pointer (some ⟨k.1, k.2.2 + off, none⟩) := by
  cases h with
  | ptr e => exact ⟨_, e, rfl⟩
theorem run_load1 (hR : Rel lim φ H w) {t : TypeId} {d : TypeDesc} (hu : P.underlying t = some d) (ha : isAggB d = false) {x u : Value} (hx : VR φ x u) (hs : loadV H x = some v) :
    ∃ v', (Instr.loadAt t u).run P w = .ok v' w ∧ VR φ v v' := by
  unfold loadV at hs
  split at hs
  · rename_i i off
    obtain ⟨k, e, rfl⟩ := ptr_inv hx
    cases hl : live H i with
    | none => rw [hl] at hs; simp at hs
    | some b =>
      rw [hl] at hs
      simp at hs
      obtain ⟨v', h1, h2⟩ := hR.load (live_some hl) (live_mp hl) hs e
      refine ⟨v', ?_, h2⟩
      simp [Instr.loadAt, Instr.sureAddr, loadVar, run_isAgg hu, ha, h1]
  · cases hs
theorem run_loadN (hR : Rel lim φ H w) {t : TypeId} {d : TypeDesc} {i : TypeInfo} (hu : P.underlying t = some d) (hi : P.info? t = some i) (ha : isAggB d = true) {x u : Value} (hx : VR φ x u) (hs : loadnV H i.size x = some v) :
    ∃ v', (Instr.loadAt t u).run P w = .ok v' w ∧ VR φ v v' := by
  unfold loadnV at hs
  split at hs
  · rename_i j off
    obtain ⟨k, e, rfl⟩ := ptr_inv hx
    cases hl : live H j with
    | none => rw [hl] at hs; simp at hs
    | some b =>
      rw [hl] at hs
      simp at hs
      obtain ⟨hlen, rfl⟩ := hs
      obtain ⟨pre, m, rest, fz, hw, _, hm, _, hpre⟩ := hR.block (live_some hl) (live_mp hl) e
      have hml := hm.length
      refine ⟨.agg ⟨(m.drop off).take i.size⟩, ?_, .agg ((hm.drop off).take i.size)⟩
      have hr := run_loadCells_list (P := P) w ⟨k.1, k.2.2 + off, none⟩ ((m.drop off).take i.size) (fun j v hj => by
        have hjl : j < i.size := by
          rcases Nat.lt_or_ge j i.size with g | g
          · exact g
          · rw [List.getElem?_take] at hj; split at hj <;> first | omega | cases hj
        rw [add_off, cell_of_row w k.1 _ _ _ _ hw]
        rw [List.getElem?_take, if_pos hjl, List.getElem?_drop] at hj
        simp only [List.getElem?_toArray]
        rw [List.getElem?_append_right (by omega), List.getElem?_append_left (by omega)]
        have : k.2.2 + off + j - pre.length = off + j := by omega
        rw [this]
        exact hj)
      have hl2 : ((m.drop off).take i.size).length = i.size := by simp; omega
      rw [hl2] at hr
      simp [Instr.loadAt, Instr.sureAddr, loadVar, run_isAgg hu, ha, run_size hi, hr]
  · cases hs
theorem run_storeN (hR : Rel lim φ H w) {t : TypeId} {i : TypeInfo} (hi : P.info? t = some i) {p x u y : Value} (hp : VR φ p u) (hx : VR φ x y) (hs : storeV H i.size p x = some H') :
    ∃ w', (Instr.storeAt t u y).run P w = .ok () w' ∧ Rel lim φ H' w' ∧ Keeps φ H w φ H' w' := by
  unfold storeV at hs
  split at hs
  · rename_i j off
    obtain ⟨k, e, rfl⟩ := ptr_inv hp
    cases hl : live H j with
    | none => rw [hl] at hs; simp at hs
    | some b =>
      rw [hl] at hs
      simp only [Option.bind_some] at hs
      split at hs
      · rename_i hc
        obtain ⟨ho, hlen, hoff, hone⟩ := hc
        simp only [Option.some.injEq] at hs
        obtain ⟨pre, m, rest, fz, hw, hfz, hm, hk2, hpre⟩ := hR.block (live_some hl) (live_mp hl) e
        obtain ⟨rfl, rfl⟩ := hfz ho
        have hk0 : k.2.2 = 0 := hpre.symm
        rw [hk0, Nat.zero_add]
        rw [List.nil_append] at hw
        have hml := hm.length
        have hxc := hx.cells
        have hxl := hxc.length
        have hst := run_storeCells_at P k.1 off b.ty y.cells.toList 0 ⟨m ++ rest⟩ w hw (by simp at *; omega) (hxc.one hone)
        have hsz : y.cells.size = i.size := by have : y.cells.size = y.cells.toList.length := by simp
                                               omega
        have hre : ((⟨m ++ rest⟩ : Array Value).toList.take (off + 0) ++ y.cells.toList ++ (⟨m ++ rest⟩ : Array Value).toList.drop (off + 0 + y.cells.toList.length)).toArray = ⟨(m.take off ++ y.cells.toList ++ m.drop (off + i.size)) ++ rest⟩ := by
          apply Array.ext'
          have h1 : off ≤ m.length := by omega
          have h2 : off + i.size ≤ m.length := by omega
          have h3 : y.cells.toList.length = i.size := by omega
          simp only [Nat.add_zero, h3]
          rw [List.take_append_of_le_length h1, List.drop_append_of_le_length h2]
          simp
        rw [hre] at hst
        refine ⟨w.setRow k.1 ⟨(m.take off ++ y.cells.toList ++ m.drop (off + i.size)) ++ rest⟩, ?_, ?_⟩
        · simp only [Instr.storeAt, Instr.sureAddr, storeVar, Sem.run_bind, Sem.run_pure, Result.andThen_ok, run_size hi, hsz, ne_eq, not_true_eq_false, if_false]
          simpa using hst
        · subst hs
          refine hR.write (l := b.cells.take off ++ x.cells.toList ++ b.cells.drop (off + i.size)) (m := m.take off ++ y.cells.toList ++ m.drop (off + i.size)) (rest := rest) (live_some hl) ho e (((hm.take off).append hxc).append (hm.drop _)) ?_ hk0 ?_ ?_ ?_ ?_ ?_ ?_
          · rw [hk2]; simp; omega
          · exact setRow_heap w k.1 _ _ b.ty _ hw
          · intro n hn; simp [World.setRow, Array.getElem?_modify, Ne.symm hn]
          · simp [World.setRow]
          · rfl
          · rfl
          · rfl
      · cases hs
  · cases hs
theorem run_alloc (hR : Rel lim φ H w) (hlim : H.length < lim) (ty : TypeId) {l m : List Value} (hl : VRs φ l m) :
    ∃ φ', (newRow ty ⟨m⟩).run P w = .ok ⟨w.heap.size, 0, none⟩ (w.alloc (.cells ⟨m⟩ ty)) ∧ VR φ' (.pointer (some ⟨H.length, 0, none⟩)) (.pointer (some ⟨w.heap.size, 0, none⟩)) ∧
      Rel lim φ' (H ++ [some ⟨true, ty, l⟩]) (w.alloc (.cells ⟨m⟩ ty)) ∧ Keeps φ H w φ' (H ++ [some ⟨true, ty, l⟩]) (w.alloc (.cells ⟨m⟩ ty)) ∧ φ' H.length = some (w.heap.size, m.length, 0) := by
  obtain ⟨h1, h2⟩ := hR.alloc hlim ty hl []
  simp only [List.append_nil] at h1 h2
  have e : (φ.add H.length (w.heap.size, m.length, 0)) H.length = some (w.heap.size, m.length, 0) := by unfold Loc.add; rw [if_pos rfl]
  exact ⟨_, by simp [newRow], .ptr (k := (w.heap.size, m.length, 0)) e, h1, h2, e⟩
theorem fold_mid : ∀ (xs : List Value) (off j : Nat) (pre mid post : List Value), pre.length = off + j → mid.length = xs.length →
    (xs.zipIdx j).foldl (fun (acc : List Value) p => acc.set (off + p.2) p.1) (pre ++ (mid ++ post)) = pre ++ (xs ++ post) := by
  intro xs
  induction xs with
  | nil => intro off j pre mid post h1 h2; have : mid = [] := List.eq_nil_of_length_eq_zero (by simpa using h2); subst this; simp
  | cons x xs ih =>
    intro off j pre mid post h1 h2
    cases mid with
    | nil => simp at h2
    | cons m mid =>
      simp only [List.zipIdx_cons, List.foldl_cons]
      have e : (pre ++ (m :: mid ++ post)).set (off + j) x = (pre ++ [x]) ++ (mid ++ post) := by
        rw [← h1, List.set_append_right _ _ (Nat.le_refl _)]
        simp
      rw [e, ih off (j + 1) (pre ++ [x]) mid post (by simp; omega) (by simpa using h2)]
      simp
theorem fold_cells (xs : List Value) (off : Nat) (l : List Value) (h : off + xs.length ≤ l.length) :
    (xs.zipIdx 0).foldl (fun (acc : List Value) p => acc.set (off + p.2) p.1) l = l.take off ++ xs ++ l.drop (off + xs.length) := by
  have e : l = l.take off ++ ((l.drop off).take xs.length ++ l.drop (off + xs.length)) := by
    have : l.drop (off + xs.length) = (l.drop off).drop xs.length := by rw [List.drop_drop]
    rw [this, List.take_append_drop, List.take_append_drop]
  have := fold_mid xs off 0 (l.take off) ((l.drop off).take xs.length) (l.drop (off + xs.length)) (by simp; omega) (by simp; omega)
  rw [← e] at this
  rw [this]
  simp
theorem fold_arr (xs : List (Value × Nat)) (off : Nat) : ∀ (acc : Array Value),
    (xs.foldl (fun (cs : Array Value) (p : Value × Nat) => cs.setIfInBounds (off + p.2) p.1) acc).toList = xs.foldl (fun (l : List Value) p => l.set (off + p.2) p.1) acc.toList := by
  induction xs with
  | nil => intro acc; rfl
  | cons x xs ih => intro acc; simp only [List.foldl_cons]; rw [ih]; simp
theorem fill_ok (place : Nat → Option (Nat × Nat)) : ∀ (ps : List (Nat × Operand)) (r : List (Nat × Nat × Operand)) (z z' : List Value) (l : List Value), partsOf P place ps = some r → VRs φ z z' → (∀ x, opOk x = true → VR φ (ev ρ x) (a.eval x)) →
    fillL z (r.map fun p => (p.1, p.2.1, ev ρ p.2.2)) = some l → ∃ m, Instr.fill place ⟨z'⟩ (ps.map fun p => (p.1, a.eval p.2)) = some ⟨m⟩ ∧ VRs φ l m := by
  intro ps
  induction ps with
  | nil =>
    intro r z z' l hr hz hF hf
    simp only [partsOf, Option.some.injEq] at hr
    subst hr
    simp only [List.map_nil, fillL, Option.some.injEq] at hf
    subst hf
    exact ⟨z', rfl, hz⟩
  | cons p ps ih =>
    intro r z z' l hr hz hF hf
    obtain ⟨i, x⟩ := p
    simp only [partsOf] at hr
    split at hr
    · rename_i off n r' h1 h2 h3
      simp only [Option.some.injEq] at hr
      subst hr
      simp only [List.map_cons, fillL] at hf
      split at hf
      · rename_i hc
        have hv := (hF x h2).cells
        have hvl := hv.length
        have hzl := hz.length
        obtain ⟨m, hm, hl⟩ := ih r' _ (z'.take off ++ (a.eval x).cells.toList ++ z'.drop (off + n)) l h3 (((hz.take off).append hv).append (hz.drop (off + n))) hF hf
        refine ⟨m, ?_, hl⟩
        have hsz : (a.eval x).cells.size = n := by have : (a.eval x).cells.size = (a.eval x).cells.toList.length := by simp
                                                   omega
        simp only [List.map_cons, Instr.fill, h1]
        rw [if_neg (by simp [hsz]; omega)]
        rw [← hm]
        congr 1
        apply Array.ext'
        rw [← Array.foldl_toList]
        rw [fold_arr (a.eval x).cells.zipIdx.toList off ⟨z'⟩]
        have hzi : (a.eval x).cells.zipIdx.toList = (a.eval x).cells.toList.zipIdx 0 := by simp
        rw [hzi, fold_cells _ off z' (by omega)]
        have : (a.eval x).cells.toList.length = n := by omega
        rw [this]
      · cases hf
    · cases hr
end Go.Proofs.Ytoknmodbdlfdmaa.Sim
