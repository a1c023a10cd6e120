/- Slots that a piece of code does not name as a target stay; blocks that came in stay. -/
import Derived.Test.YtoknmodbdlfdmaaSim22
namespace Go.Proofs.Ytoknmodbdlfdmaa.Sim
open Go
set_option linter.unusedVariables false
set_option linter.unusedSimpArgs false
variable {P : Program} {hs : Nat → Hints} {C : CallSem}
def wrC : RCode → Nat → Bool
  | .region ops, t => ops.any fun o => o.dst == some t
  | .draw ops, t => ops.any fun o => o.dst == some t
  | .seq a b, t => wrC a t || wrC b t
  | .cond _ a b, t => wrC a t || wrC b t
  | .block _ b, t => wrC b t
  | .loop b, t => wrC b t
  | .scope _ b rest, t => wrC b t || wrC rest t
  | _, _ => false
theorem put_keep {ρ : Fr} {d : Option Nat} {v : Value} {t : Nat} (h : (d == some t) = false) : put ρ d v t = ρ t := by
  cases d with
  | none => rfl
  | some d =>
    have : t ≠ d := by intro e; subst e; simp at h
    simp only [put, upd, if_neg this]
theorem runOps_keep {t : Nat} : ∀ (l : List RO) (ρ : Fr) (H : Heap) (ρ' : Fr) (H' : Heap), runOps C l ρ H = some (ρ', H') → (l.any fun o => o.dst == some t) = false → ρ' t = ρ t := by
  intro l
  induction l with
  | nil => intro ρ H ρ' H' h _; simp only [runOps, Option.some.injEq, Prod.mk.injEq] at h; rw [h.1]
  | cons o l ih =>
    intro ρ H ρ' H' h hw
    simp only [List.any_cons, Bool.or_eq_false_iff] at hw
    simp only [runOps] at h
    split at h
    · simp only [Option.bind_eq_some_iff] at h
      obtain ⟨q, _, h2⟩ := h
      rw [ih _ _ _ _ h2 hw.2, put_keep hw.1]
    · rw [ih _ _ _ _ h hw.2, put_keep hw.1]
theorem stepD_keep {H0 : Heap} {j : Nat} {d : DO} {st st' : DS} {t : Nat} (h : stepD C H0 j d st = some st') (hw : (d.dst == some t) = false) : st'.ρ t = st.ρ t := by
  unfold stepD at h
  split at h
  · split at h
    · simp only [Option.map_eq_some_iff] at h
      obtain ⟨q, _, rfl⟩ := h
      exact put_keep hw
    · split at h
      · simp only [Option.bind_eq_some_iff] at h
        obtain ⟨i, _, h⟩ := h
        split at h
        · simp only [Option.map_eq_some_iff] at h
          obtain ⟨q, _, rfl⟩ := h
          exact put_keep hw
        · cases h
      · split at h
        · simp only [Option.bind_eq_some_iff] at h
          obtain ⟨q, _, h⟩ := h
          split at h
          · simp only [Option.some.injEq] at h
            subst h
            exact put_keep hw
          · cases h
        · split at h
          · simp only [Option.bind_eq_some_iff, Option.map_eq_some_iff] at h
            obtain ⟨q, _, X, _, rfl⟩ := h
            exact put_keep hw
          · cases h
  · simp only [Option.some.injEq] at h
    subst h
    exact put_keep hw
theorem runD_keep {H0 : Heap} {t : Nat} : ∀ (l : List DO) (j : Nat) (st st' : DS), runD C H0 j l st = some st' → (l.any fun o => o.dst == some t) = false → st'.ρ t = st.ρ t := by
  intro l
  induction l with
  | nil => intro j st st' h _; simp only [runD, Option.some.injEq] at h; rw [h]
  | cons o l ih =>
    intro j st st' h hw
    simp only [List.any_cons, Bool.or_eq_false_iff] at hw
    simp only [runD, Option.bind_eq_some_iff] at h
    obtain ⟨q, h1, h2⟩ := h
    rw [ih _ _ _ h2 hw.2, stepD_keep h1 hw.1]
theorem evalC_keep {n : Nat} {t : Nat} : ∀ (c : RCode) (ρ : Fr) (H : Heap) (x : Ex) (ρ' : Fr) (H' : Heap), evalC C n c ρ H = some (x, ρ', H') → wrC c t = false → ρ' t = ρ t := by
  intro c
  induction c with
  | skip => intro ρ H x ρ' H' h _; simp only [evalC, Option.some.injEq, Prod.mk.injEq] at h; rw [h.2.1]
  | exit id => intro ρ H x ρ' H' h _; simp only [evalC, Option.some.injEq, Prod.mk.injEq] at h; rw [h.2.1]
  | ret => intro ρ H x ρ' H' h _; simp only [evalC, Option.some.injEq, Prod.mk.injEq] at h; rw [h.2.1]
  | label l => intro ρ H x ρ' H' h _; simp only [evalC, Option.some.injEq, Prod.mk.injEq] at h; rw [h.2.1]
  | goto l => intro ρ H x ρ' H' h _; simp only [evalC, Option.some.injEq, Prod.mk.injEq] at h; rw [h.2.1]
  | region ops =>
    intro ρ H x ρ' H' h hw
    simp only [evalC, Option.map_eq_some_iff, Prod.mk.injEq] at h
    obtain ⟨q, h1, _, h2, _⟩ := h
    rw [← h2]
    exact runOps_keep ops ρ H q.1 q.2 h1 hw
  | draw ops =>
    intro ρ H x ρ' H' h hw
    simp only [evalC, Option.map_eq_some_iff, Prod.mk.injEq] at h
    obtain ⟨q, h1, _, h2, _⟩ := h
    rw [← h2]
    exact runD_keep ops 0 _ q h1 hw
  | seq a b iha ihb =>
    intro ρ H x ρ' H' h hw
    simp only [wrC, Bool.or_eq_false_iff] at hw
    simp only [evalC] at h
    split at h
    · rename_i ρ1 H1 h1
      rw [ihb _ _ _ _ _ h hw.2, iha _ _ _ _ _ h1 hw.1]
    · exact iha _ _ _ _ _ h hw.1
  | cond c a b iha ihb =>
    intro ρ H x ρ' H' h hw
    simp only [wrC, Bool.or_eq_false_iff] at hw
    simp only [evalC] at h
    split at h
    · split at h
      · exact iha _ _ _ _ _ h hw.1
      · exact ihb _ _ _ _ _ h hw.2
    · cases h
  | block id b ih =>
    intro ρ H x ρ' H' h hw
    simp only [evalC] at h
    split at h
    · rename_i j ρ1 H1 h1
      split at h
      · simp only [Option.some.injEq, Prod.mk.injEq] at h
        rw [← h.2.1]; exact ih _ _ _ _ _ h1 hw
      · simp only [Option.some.injEq, Prod.mk.injEq] at h
        rw [← h.2.1]; exact ih _ _ _ _ _ h1 hw
    · exact ih _ _ _ _ _ h hw
  | loop b ih =>
    intro ρ H x ρ' H' h hw
    simp only [evalC] at h
    have key : ∀ m ρ H, iterC (evalC C n b) m ρ H = some (x, ρ', H') → ρ' t = ρ t := by
      intro m
      induction m with
      | zero => intro ρ H h; cases h
      | succ m ihm =>
        intro ρ H h
        simp only [iterC] at h
        split at h
        · rename_i ρ1 H1 h1
          rw [ihm _ _ h, ih _ _ _ _ _ h1 hw]
        · exact ih _ _ _ _ _ h hw
    exact key n ρ H h
  | scope l b rest ihb ihr =>
    intro ρ H x ρ' H' h hw
    simp only [wrC, Bool.or_eq_false_iff] at hw
    simp only [evalC] at h
    have key : ∀ m ρ H, iterJ l (evalC C n rest) m ρ H = some (x, ρ', H') → ρ' t = ρ t := by
      intro m
      induction m with
      | zero => intro ρ H h; cases h
      | succ m ihm =>
        intro ρ H h
        simp only [iterJ] at h
        unfold jmp at h
        split at h
        · rename_i j ρ1 H1 h1
          split at h
          · rw [ihm _ _ h, ihr _ _ _ _ _ h1 hw.2]
          · cases h
        · exact ihr _ _ _ _ _ h hw.2
    unfold jmp at h
    split at h
    · rename_i j ρ1 H1 h1
      split at h
      · rw [key _ _ _ h, ihb _ _ _ _ _ h1 hw.1]
      · cases h
    · exact ihb _ _ _ _ _ h hw.1
theorem E_keep {c : RCode} {ρ : Fr} {H : Heap} {x : Ex} {ρ' : Fr} {H' : Heap} (h : E P hs c ρ H = some (x, ρ', H')) {t : Nat} (hw : wrC c t = false) : ρ' t = ρ t := by
  obtain ⟨n, hn⟩ := E_iff.1 h
  exact evalC_keep c ρ H x ρ' H' hn hw
/-- A loop, its invariant only about what it turns. -/
theorem loop_keep {b : RCode} {id : Nat} (ρ0 : Fr) (I : Nat → Fr → Heap → Prop) (J : Fr → Heap → Prop) (N : Nat)
    (hstep : ∀ k ρ H, k < N → (∀ t, wrC b t = false → ρ t = ρ0 t) → I k ρ H → ∃ ρ' H', E P hs b ρ H = some (.normal, ρ', H') ∧ I (k + 1) ρ' H')
    (hlast : ∀ ρ H, (∀ t, wrC b t = false → ρ t = ρ0 t) → I N ρ H → ∃ ρ' H', E P hs b ρ H = some (.exit id, ρ', H') ∧ J ρ' H') (H : Heap) (h0 : I 0 ρ0 H) :
    ∃ ρ' H', E P hs (.loop b) ρ0 H = some (.exit id, ρ', H') ∧ (∀ t, wrC b t = false → ρ' t = ρ0 t) ∧ J ρ' H' := by
  obtain ⟨ρ', H', h1, h2⟩ := loop_inv (P := P) (hs := hs) (b := b) (id := id) (fun k ρ H => (∀ t, wrC b t = false → ρ t = ρ0 t) ∧ I k ρ H) J N
    (fun k ρ H hk ⟨hf, hi⟩ => by
      obtain ⟨ρ', H', e, hi'⟩ := hstep k ρ H hk hf hi
      exact ⟨ρ', H', e, fun t ht => (E_keep e ht).trans (hf t ht), hi'⟩)
    (fun ρ H ⟨hf, hi⟩ => hlast ρ H hf hi) ρ0 H ⟨fun _ _ => rfl, h0⟩
  exact ⟨ρ', H', h1, fun t ht => E_keep (c := .loop b) h1 ht, h2⟩
/-- An outcome known in part, as a rule for every heap. -/
theorem ex_rule {f : FuncId} {args : List Value} {v : Value} {Q : Heap → Prop} (h : ∀ F, Q F → ∃ X, D P hs f args F = some (v, F ++ X)) : ∃ Xs : Heap → Heap, ∀ F, Q F → D P hs f args F = some (v, F ++ Xs F) :=
  ⟨fun F => Classical.epsilon fun X => D P hs f args F = some (v, F ++ X), fun F hF => Classical.epsilon_spec (h F hF)⟩
end Go.Proofs.Ytoknmodbdlfdmaa.Sim
