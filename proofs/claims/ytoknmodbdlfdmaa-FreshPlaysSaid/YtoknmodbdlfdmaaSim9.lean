/- Regions that draw their order, I: what an operation looks at, the trace in the text's order. -/
import Derived.Test.YtoknmodbdlfdmaaSim8
import Derived.Orders
namespace Go.Proofs.Ytoknmodbdlfdmaa.Sim
open Go Go.RowKit
set_option linter.unusedVariables false
set_option linter.unusedSimpArgs false
variable {P : Program} {lim N : Nat} {φ : Loc} {H : Heap} {w : World} {v : Value} {H' : Heap} {ρ ρ' : Fr} {a : Act} {C : CallSem}
def opTmp : Operand → List Nat
  | .tmp t => [t]
  | _ => []
def opTmps (l : List Operand) : List Nat := l.flatMap opTmp
def looksR : ROp → List Nat
  | .mv x | .box _ x | .load x | .loadn _ x | .nilCheck x | .un _ x | .conv _ x | .fieldA _ x | .part _ _ _ x | .len _ x | .extract x _ | .mkIface _ x | .tassert _ _ x => opTmps [x]
  | .pick c a b => opTmps [c, a, b]
  | .newv _ _ | .alen _ | .mkmap _ => []
  | .look _ _ x y => opTmps [x, y]
  | .mupd _ x y z => opTmps [x, y, z]
  | .build _ ps | .bslice _ _ _ _ ps => opTmps (ps.map fun p => p.2.2)
  | .store _ x y | .arith _ x y | .same _ _ x y | .idxS _ x y | .idxA _ _ x y | .idxV _ _ _ x y | .append _ _ _ x y | .sameI _ x y | .mkslice _ _ _ _ x y => opTmps [x, y]
  | .mnmx _ xs | .mkfn _ xs => opTmps xs
  | .sliceS _ x lo hi => opTmps (x :: (lo.toList ++ hi.toList))
def looks : SOp → List Nat
  | .plain r => looksR r
  | .call _ xs => opTmps xs
  | .callv x xs => opTmps (x :: xs)
theorem ev_congr {x : Operand} (h : ∀ t ∈ opTmp x, ρ t = ρ' t) : ev ρ x = ev ρ' x := by
  cases x <;> simp [opTmp] at h <;> simp [ev, h]
theorem evs_congr {xs : List Operand} (h : ∀ t ∈ opTmps xs, ρ t = ρ' t) : ∀ x ∈ xs, ev ρ x = ev ρ' x := fun x hx =>
  ev_congr fun t ht => h t (List.mem_flatMap.2 ⟨x, hx, ht⟩)
theorem stepOp_congr {r : ROp} (h : ∀ t ∈ looksR r, ρ t = ρ' t) : stepOp ρ H r = stepOp ρ' H r := by
  cases r
  case build z ps =>
    have := evs_congr h
    simp only [stepOp]
    congr 2
    apply List.map_congr_left
    intro p hp
    rw [this _ (List.mem_map.2 ⟨p, hp, rfl⟩)]
  case bslice ty e n z ps =>
    have := evs_congr h
    simp only [stepOp]
    congr 2
    apply List.map_congr_left
    intro p hp
    rw [this _ (List.mem_map.2 ⟨p, hp, rfl⟩)]
  case mnmx mx xs =>
    have := evs_congr h
    simp only [stepOp]
    rw [List.map_congr_left this]
  case mkfn f xs =>
    have := evs_congr h
    simp only [stepOp]
    rw [List.map_congr_left this]
  case sliceS e x lo hi =>
    have := evs_congr h
    simp only [stepOp]
    have h1 : lo.map (ev ρ) = lo.map (ev ρ') := by cases lo with
      | none => rfl
      | some y => simp; exact this y (by simp)
    have h2 : hi.map (ev ρ) = hi.map (ev ρ') := by cases hi with
      | none => rfl
      | some y => simp; exact this y (by simp)
    rw [h1, h2, this x (by simp)]
  case newv => rfl
  case alen => rfl
  case mkmap => rfl
  all_goals
    have hh := evs_congr h
    simp only [List.mem_cons, List.not_mem_nil, or_false, forall_eq_or_imp, forall_eq] at hh
    simp only [stepOp, hh]
theorem stepC_congr {r : SOp} (h : ∀ t ∈ looks r, ρ t = ρ' t) : stepC C ρ H r = stepC C ρ' H r := by
  cases r with
  | plain r => exact stepOp_congr h
  | call f xs => simp only [stepC]; rw [List.map_congr_left (evs_congr h)]
  | callv x xs =>
    have hh : ∀ y ∈ x :: xs, ev ρ y = ev ρ' y := evs_congr h
    simp only [stepC]; rw [List.map_congr_left (fun y hy => hh y (List.mem_cons_of_mem _ hy)), hh x (by simp)]
theorem loadAt_congr {r : SOp} (h : ∀ t ∈ looks r, ρ t = ρ' t) : loadAt ρ r = loadAt ρ' r := by
  cases r with
  | call f xs => rfl
  | callv x xs => rfl
  | plain r => cases r <;> first | rfl | (have hh := evs_congr h; simp only [loadAt]; rw [hh _ (by simp)])
/-- What does not touch memory does the same over every heap. -/
theorem pure_any {r : SOp} (hp : isPure r = true) (h : stepC C ρ H r = some (v, H')) (G : Heap) : H' = H ∧ stepC C ρ G r = some (v, G) := by
  have key : ∀ {α : Type} (o : Option α) (f : α → Value), (o.map fun x => (f x, H)) = some (v, H') → H' = H ∧ (o.map fun x => (f x, G)) = some (v, G) := by
    intro α o f h
    cases o with
    | none => cases h
    | some x => simp only [Option.map_some, Option.some.injEq, Prod.mk.injEq] at h ⊢; exact ⟨h.2.symm, h.1, trivial⟩
  have key2 : ∀ (u : Value), some (u, H) = some (v, H') → H' = H ∧ some (u, G) = some (v, G) := by
    intro u h
    simp only [Option.some.injEq, Prod.mk.injEq] at h ⊢; exact ⟨h.2.symm, h.1, trivial⟩
  cases r with
  | call f xs => cases hp
  | callv x xs => cases hp
  | plain r =>
    cases r <;> first | exact absurd hp Bool.false_ne_true | skip
    case mv => exact key2 _ h
    case alen => exact key2 _ h
    case mkfn => exact key2 _ h
    case mkIface => exact key2 _ h
    case pick c x y =>
      simp only [stepC, stepOp] at h ⊢
      split at h
      · exact key2 _ h
      · cases h
    case conv k x =>
      simp only [stepC, stepOp] at h ⊢
      split at h
      · exact key2 _ h
      · cases h
    all_goals exact key _ _ h
/-- A load looks at one block alone. -/
theorem load_any {r : SOp} (hp : isLoad r = true) {i : Nat} (hi : loadAt ρ r = some i) (h : stepC C ρ H r = some (v, H')) {G : Heap} (hg : live G i = live H i) : H' = H ∧ stepC C ρ G r = some (v, G) ∧ ∃ b, live H i = some b := by
  cases r with
  | call f xs => cases hp
  | callv x xs => cases hp
  | plain r =>
    cases r <;> simp only [isLoad, Bool.false_eq_true] at hp
    · simp only [stepC, stepOp, Option.map_eq_some_iff, Prod.mk.injEq] at h ⊢
      simp only [loadAt] at hi
      split at hi
      · rename_i j o he
        simp only [Option.some.injEq] at hi
        subst hi
        obtain ⟨x, h1, rfl, rfl⟩ := h
        rw [he] at h1
        rw [he]
        simp only [loadV] at h1 ⊢
        rw [hg]
        refine ⟨trivial, ⟨x, h1, rfl, trivial⟩, ?_⟩
        cases hl : live H j with
        | none => rw [hl] at h1; cases h1
        | some b => exact ⟨b, rfl⟩
      · cases hi
    · simp only [stepC, stepOp, Option.map_eq_some_iff, Prod.mk.injEq] at h ⊢
      simp only [loadAt] at hi
      split at hi
      · rename_i j o he
        simp only [Option.some.injEq] at hi
        subst hi
        obtain ⟨x, h1, rfl, rfl⟩ := h
        rw [he] at h1
        rw [he]
        simp only [loadnV] at h1 ⊢
        rw [hg]
        refine ⟨trivial, ⟨x, h1, rfl, trivial⟩, ?_⟩
        cases hl : live H j with
        | none => rw [hl] at h1; cases h1
        | some b => exact ⟨b, rfl⟩
      · cases hi
theorem guard_congr {g : Option (Nat × Bool)} (h : ∀ s b, g = some (s, b) → ρ s = ρ' s) : guardOn ρ g = guardOn ρ' g := by
  cases g with
  | none => rfl
  | some p => obtain ⟨s, b⟩ := p; simp only [guardOn]; rw [h s b rfl]
theorem runD_trace {H0 : Heap} : ∀ (l : List DO) (k : Nat) (st st' : DS), runD C H0 k l st = some st' → ∃ tr : Nat → DS, tr k = st ∧ tr (k + l.length) = st' ∧ ∀ i d, l[i]? = some d → stepD C H0 (k + i) d (tr (k + i)) = some (tr (k + i + 1)) := by
  intro l
  induction l with
  | nil => intro k st st' h; simp only [runD, Option.some.injEq] at h; exact ⟨fun _ => st, rfl, h, fun i d hi => by simp at hi⟩
  | cons d l ih =>
    intro k st st' h
    simp only [runD] at h
    cases hs : stepD C H0 k d st with
    | none => rw [hs] at h; cases h
    | some st1 =>
      rw [hs] at h
      obtain ⟨tr, h1, h2, h3⟩ := ih (k + 1) st1 st' h
      refine ⟨fun n => if n = k then st else tr n, if_pos rfl, ?_, fun i e hi => ?_⟩
      · show (if k + (l.length + 1) = k then st else tr (k + (l.length + 1))) = st'
        rw [if_neg (by omega), ← h2]; congr 1; omega
      · cases i with
        | zero =>
          simp only [List.getElem?_cons_zero, Option.some.injEq] at hi
          subst hi
          show stepD C H0 k d (if k = k then st else tr k) = some (if k + 1 = k then st else tr (k + 1))
          rw [if_pos rfl, if_neg (by omega), hs, h1]
        | succ i =>
          simp only [List.getElem?_cons_succ] at hi
          have := h3 i e hi
          show stepD C H0 (k + (i + 1)) e (if k + (i + 1) = k then st else tr (k + (i + 1))) = some (if k + (i + 1) + 1 = k then st else tr (k + (i + 1) + 1))
          rw [if_neg (by omega), if_neg (by omega)]
          have e1 : k + (i + 1) = k + 1 + i := by omega
          rw [e1]; exact this
/-- What one operation of a region that draws may be. -/
inductive Sort3 (C : CallSem) (H0 : Heap) (j : Nat) (d : DO) (st st' : DS) : Prop
  | off (hg : guardOn st.ρ d.guard = false) (h : st' = { st with ρ := put st.ρ d.dst undef })
  | pure (hg : guardOn st.ρ d.guard = true) (hp : isPure d.op = true) (v : Value) (hs : stepC C st.ρ (st.now H0) d.op = some (v, st.now H0)) (h : st' = { st with ρ := put st.ρ d.dst v })
  | load (hg : guardOn st.ρ d.guard = true) (hp : isLoad d.op = true) (i : Nat) (hi : loadAt st.ρ d.op = some i) (v : Value) (hs : stepC C st.ρ (st.now H0) d.op = some (v, st.now H0))
      (hc : (∀ e ∈ st.chain.map (·.1), e ∈ d.before) ∧ (st.chain = [] → live (maskOf H0 st.news d.before) i = live (st.now H0) i) ∨
            live (maskOf H0 st.news d.before) i = live (st.now H0) i ∧ (∀ p ∈ st.chain, live p.2 i = live (st.now H0) i)) (h : st' = { st with ρ := put st.ρ d.dst v, loads := (j, i) :: st.loads })
  | quiet (hg : guardOn st.ρ d.guard = true) (hch : st.chain = []) (v : Value) (X : Heap) (hs : stepC C st.ρ (maskOf H0 st.news d.before) d.op = some (v, maskOf H0 st.news d.before ++ X))
      (h : st' = { st with ρ := put st.ρ d.dst v, news := st.news ++ X.map (fun b => (j, b)), quiets := j :: st.quiets })
  | chain (hg : guardOn st.ρ d.guard = true) (hq : ∀ q ∈ st.quiets, q ∈ d.before) (hc : ∀ e ∈ st.chain.map (·.1), e ∈ d.before) (v : Value) (H2 : Heap) (hs : stepC C st.ρ (st.now H0) d.op = some (v, H2))
      (hl : ∀ p ∈ st.loads, p.1 ∈ d.before ∨ live (st.now H0) p.2 = live H2 p.2) (h : st' = { st with ρ := put st.ρ d.dst v, chain := (j, H2) :: st.chain })
theorem quietOf_some {M G X : Heap} (h : quietOf M G = some X) : G = M ++ X := by
  unfold quietOf at h
  split at h
  · rename_i e
    simp only [Option.some.injEq] at h
    subst h
    conv => lhs; rw [← List.take_append_drop M.length G, e]
  · cases h
theorem stepD_sort {H0 : Heap} {j : Nat} {d : DO} {st st' : DS} (h : stepD C H0 j d st = some st') : Sort3 C H0 j d st st' := by
  unfold stepD at h
  split at h
  · rename_i hg
    split at h
    · rename_i hp
      simp only [Option.map_eq_some_iff] at h
      obtain ⟨⟨v, G⟩, h1, rfl⟩ := h
      obtain ⟨rfl, h2⟩ := pure_any hp h1 (st.now H0)
      exact .pure hg hp v h2 rfl
    · split at h
      · rename_i hp
        simp only [Option.bind_eq_some_iff] at h
        obtain ⟨i, hi, h⟩ := h
        split at h
        · rename_i hc
          simp only [Option.map_eq_some_iff] at h
          obtain ⟨⟨v, G⟩, h1, rfl⟩ := h
          obtain ⟨rfl, h2, _⟩ := load_any hp hi h1 (G := st.now H0) rfl
          refine .load hg hp i hi v h2 ?_ rfl
          rcases hc with ⟨a, b⟩ | ⟨a, b⟩
          · left
            refine ⟨fun e he => ?_, b⟩
            have := List.all_eq_true.1 a e he
            simpa using this
          · exact .inr ⟨a, b⟩
        · cases h
      · split at h
        · simp only [Option.bind_eq_some_iff] at h
          obtain ⟨⟨v, H2⟩, h1, h⟩ := h
          split at h
          · rename_i hc
            simp only [Bool.and_eq_true] at hc
            simp only [Option.some.injEq] at h
            exact .chain hg (fun q hq => by simpa using List.all_eq_true.1 hc.1.1 q hq) (fun e he => by simpa using List.all_eq_true.1 hc.1.2 e he) v H2 h1 hc.2 h.symm
          · cases h
        · split at h
          · rename_i hch
            simp only [Option.bind_eq_some_iff, Option.map_eq_some_iff] at h
            obtain ⟨⟨v', G⟩, h2, X, h3, rfl⟩ := h
            have hG := quietOf_some h3
            simp only at hG
            subst hG
            exact .quiet hg hch v' X h2 rfl
          · cases h
  · rename_i hg
    simp only [Option.some.injEq] at h
    exact .off (by simpa using hg) h.symm
end Go.Proofs.Ytoknmodbdlfdmaa.Sim
