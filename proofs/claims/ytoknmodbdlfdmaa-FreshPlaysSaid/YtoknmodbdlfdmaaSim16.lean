/- The run without a bound on its rounds: its equations, and that the model does what it says. -/
import Derived.Test.YtoknmodbdlfdmaaSim15
namespace Go.Proofs.Ytoknmodbdlfdmaa.Sim
open Go Go.RowKit
set_option linter.unusedVariables false
set_option linter.unusedSimpArgs false
open Classical in
noncomputable def D (P : Program) (hs : Nat → Hints) : CallSem := fun f args H => if h : ∃ r n, callN (progOf P hs) n f args H = some r then some h.choose else none
open Classical in
noncomputable def E (P : Program) (hs : Nat → Hints) (c : RCode) (ρ : Fr) (H : Heap) : Option (Ex × Fr × Heap) := if h : ∃ r n, evalC (callN (progOf P hs) n) n c ρ H = some r then some h.choose else none
variable {P : Program} {hs : Nat → Hints}
theorem D_iff {f : FuncId} {args : List Value} {H : Heap} {r : Value × Heap} : D P hs f args H = some r ↔ ∃ n, callN (progOf P hs) n f args H = some r := by
  unfold D
  constructor
  · intro h
    split at h
    · rename_i hx
      simp only [Option.some.injEq] at h
      subst h
      exact hx.choose_spec
    · cases h
  · rintro ⟨n, hn⟩
    have hx : ∃ r n, callN (progOf P hs) n f args H = some r := ⟨r, n, hn⟩
    rw [dif_pos hx]
    obtain ⟨m, hm⟩ := hx.choose_spec
    have h1 := callN_le (progOf P hs) n (max n m) (by omega) _ _ _ _ hn
    have h2 := callN_le (progOf P hs) m (max n m) (by omega) _ _ _ _ hm
    rw [h1] at h2
    exact h2.symm
theorem E_iff {c : RCode} {ρ : Fr} {H : Heap} {r : Ex × Fr × Heap} : E P hs c ρ H = some r ↔ ∃ n, evalC (callN (progOf P hs) n) n c ρ H = some r := by
  unfold E
  constructor
  · intro h
    split at h
    · rename_i hx
      simp only [Option.some.injEq] at h
      subst h
      exact hx.choose_spec
    · cases h
  · rintro ⟨n, hn⟩
    have hx : ∃ r n, evalC (callN (progOf P hs) n) n c ρ H = some r := ⟨r, n, hn⟩
    rw [dif_pos hx]
    obtain ⟨m, hm⟩ := hx.choose_spec
    have h1 := evalC_le (callN_le (progOf P hs) n (max n m) (by omega)) (show n ≤ max n m by omega) _ _ _ _ hn
    have h2 := evalC_le (callN_le (progOf P hs) m (max n m) (by omega)) (show m ≤ max n m by omega) _ _ _ _ hm
    rw [h1] at h2
    exact h2.symm
theorem opt_ext {α : Type} {a b : Option α} (h : ∀ r, a = some r ↔ b = some r) : a = b := by
  cases a with
  | none => cases b with
    | none => rfl
    | some y => exact (h y).2 rfl
  | some x => exact ((h x).1 rfl).symm
theorem callN_D (n : Nat) : CLe (callN (progOf P hs) n) (D P hs) := fun f args H r h => D_iff.2 ⟨n, h⟩
theorem stepC_D {ρ : Fr} {H : Heap} {o : SOp} {r : Value × Heap} (h : stepC (D P hs) ρ H o = some r) : ∃ n, stepC (callN (progOf P hs) n) ρ H o = some r := by
  cases o with
  | plain o => exact ⟨0, h⟩
  | call f xs => exact D_iff.1 h
  | callv x xs =>
    simp only [stepC, callVal] at h ⊢
    split at h
    · exact D_iff.1 h
    · cases h
theorem runOps_D : ∀ (l : List RO) (ρ : Fr) (H : Heap) (r : Fr × Heap), runOps (D P hs) l ρ H = some r → ∃ n, runOps (callN (progOf P hs) n) l ρ H = some r := by
  intro l
  induction l with
  | nil => intro ρ H r h; exact ⟨0, h⟩
  | cons o l ih =>
    intro ρ H r h
    simp only [runOps] at h ⊢
    split at h
    · rename_i hg
      simp only [Option.bind_eq_some_iff] at h
      obtain ⟨q, h1, h2⟩ := h
      obtain ⟨n, hn⟩ := stepC_D h1
      obtain ⟨m, hm⟩ := ih _ _ _ h2
      refine ⟨max n m, ?_⟩
      rw [if_pos hg]
      simp only [Option.bind_eq_some_iff]
      exact ⟨q, stepC_le (callN_le _ _ _ (by omega)) hn, runOps_le (callN_le _ _ _ (by omega)) _ _ _ _ hm⟩
    · rename_i hg
      obtain ⟨m, hm⟩ := ih _ _ _ h
      exact ⟨m, by rw [if_neg hg]; exact hm⟩
theorem stepD_D {H0 : Heap} {j : Nat} {d : DO} {st st' : DS} (hq0 : stepD (D P hs) H0 j d st = some st') : ∃ n, stepD (callN (progOf P hs) n) H0 j d st = some st' := by
  unfold stepD at hq0
  split at hq0
  · rename_i hg
    split at hq0
    · rename_i hp
      simp only [Option.map_eq_some_iff] at hq0
      obtain ⟨q, h1, h2⟩ := hq0
      obtain ⟨n, hn⟩ := stepC_D h1
      refine ⟨n, ?_⟩
      unfold stepD
      rw [if_pos hg, if_pos hp]
      simp only [Option.map_eq_some_iff]
      exact ⟨q, hn, h2⟩
    · rename_i hp
      split at hq0
      · rename_i hl
        simp only [Option.bind_eq_some_iff] at hq0
        obtain ⟨i, h1, h2⟩ := hq0
        split at h2
        · rename_i hc
          simp only [Option.map_eq_some_iff] at h2
          obtain ⟨q, h3, h4⟩ := h2
          obtain ⟨n, hn⟩ := stepC_D h3
          refine ⟨n, ?_⟩
          unfold stepD
          rw [if_pos hg, if_neg hp, if_pos hl]
          simp only [Option.bind_eq_some_iff]
          refine ⟨i, h1, ?_⟩
          rw [if_pos hc]
          simp only [Option.map_eq_some_iff]
          exact ⟨q, hn, h4⟩
        · cases h2
      · rename_i hl
        split at hq0
        · rename_i he
          simp only [Option.bind_eq_some_iff] at hq0
          obtain ⟨r, h1, h2⟩ := hq0
          obtain ⟨n, hn⟩ := stepC_D h1
          refine ⟨n, ?_⟩
          unfold stepD
          rw [if_pos hg, if_neg hp, if_neg hl, if_pos he]
          simp only [Option.bind_eq_some_iff]
          exact ⟨r, hn, h2⟩
        · rename_i he
          split at hq0
          · rename_i hch
            simp only [Option.bind_eq_some_iff] at hq0
            obtain ⟨q, h1, h2⟩ := hq0
            obtain ⟨n, hn⟩ := stepC_D h1
            refine ⟨n, ?_⟩
            unfold stepD
            rw [if_pos hg, if_neg hp, if_neg hl, if_neg he, if_pos hch]
            simp only [Option.bind_eq_some_iff]
            exact ⟨q, hn, h2⟩
          · cases hq0
  · rename_i hg
    refine ⟨0, ?_⟩
    unfold stepD
    rw [if_neg hg]
    exact hq0
theorem runD_D {H0 : Heap} : ∀ (l : List DO) (j : Nat) (st st' : DS), runD (D P hs) H0 j l st = some st' → ∃ n, runD (callN (progOf P hs) n) H0 j l st = some st' := by
  intro l
  induction l with
  | nil => intro j st st' h; exact ⟨0, h⟩
  | cons d l ih =>
    intro j st st' h
    simp only [runD, Option.bind_eq_some_iff] at h
    obtain ⟨q, h1, h2⟩ := h
    obtain ⟨n, hn⟩ := stepD_D h1
    obtain ⟨m, hm⟩ := ih _ _ _ h2
    refine ⟨max n m, ?_⟩
    simp only [runD, Option.bind_eq_some_iff]
    exact ⟨q, stepD_le (callN_le _ _ _ (by omega)) hn, runD_le (callN_le _ _ _ (by omega)) _ _ _ _ hm⟩
theorem E_const {c : RCode} {ρ : Fr} {H : Heap} {r : Ex × Fr × Heap} (h : ∀ C n, evalC C n c ρ H = some r) : E P hs c ρ H = some r := E_iff.2 ⟨0, h _ _⟩
theorem E_skip (ρ : Fr) (H : Heap) : E P hs .skip ρ H = some (.normal, ρ, H) := E_const fun _ _ => rfl
theorem E_exit (id : Nat) (ρ : Fr) (H : Heap) : E P hs (.exit id) ρ H = some (.exit id, ρ, H) := E_const fun _ _ => rfl
theorem E_ret (ρ : Fr) (H : Heap) : E P hs .ret ρ H = some (.ret, ρ, H) := E_const fun _ _ => rfl
theorem E_region (ops : List RO) (ρ : Fr) (H : Heap) : E P hs (.region ops) ρ H = (runOps (D P hs) ops ρ H).map fun s => (.normal, s.1, s.2) := by
  refine opt_ext fun r => ?_
  rw [E_iff]
  simp only [evalC, Option.map_eq_some_iff]
  constructor
  · rintro ⟨n, q, h1, h2⟩; exact ⟨q, runOps_le (callN_D n) _ _ _ _ h1, h2⟩
  · rintro ⟨q, h1, h2⟩
    obtain ⟨n, hn⟩ := runOps_D _ _ _ _ h1
    exact ⟨n, q, hn, h2⟩
theorem E_draw (ops : List DO) (ρ : Fr) (H : Heap) : E P hs (.draw ops) ρ H = (runD (D P hs) H 0 ops { ρ := ρ }).map fun st => (.normal, st.ρ, st.now H) := by
  refine opt_ext fun r => ?_
  rw [E_iff]
  simp only [evalC, Option.map_eq_some_iff]
  constructor
  · rintro ⟨n, q, h1, h2⟩; exact ⟨q, runD_le (callN_D n) _ _ _ _ h1, h2⟩
  · rintro ⟨q, h1, h2⟩
    obtain ⟨n, hn⟩ := runD_D _ _ _ _ h1
    exact ⟨n, q, hn, h2⟩
theorem E_le {n m : Nat} (h : n ≤ m) {c : RCode} {ρ : Fr} {H : Heap} {r : Ex × Fr × Heap} (hn : evalC (callN (progOf P hs) n) n c ρ H = some r) : evalC (callN (progOf P hs) m) m c ρ H = some r :=
  evalC_le (callN_le _ _ _ h) h _ _ _ _ hn
theorem E_seq (a b : RCode) (ρ : Fr) (H : Heap) : E P hs (.seq a b) ρ H = match E P hs a ρ H with | some (.normal, ρ', H') => E P hs b ρ' H' | r => r := by
  refine opt_ext fun r => ?_
  rw [E_iff]
  constructor
  · rintro ⟨n, h⟩
    simp only [evalC] at h
    cases ha : evalC (callN (progOf P hs) n) n a ρ H with
    | none => rw [ha] at h; cases h
    | some q =>
      rw [E_iff.2 ⟨n, ha⟩]
      rw [ha] at h
      obtain ⟨e, ρ1, H1⟩ := q
      cases e with
      | normal => exact E_iff.2 ⟨n, h⟩
      | exit id => exact h
      | ret => exact h
      | goto l => exact h
  · intro h
    cases ha : E P hs a ρ H with
    | none => rw [ha] at h; cases h
    | some q =>
      rw [ha] at h
      obtain ⟨n, hn⟩ := E_iff.1 ha
      obtain ⟨e, ρ1, H1⟩ := q
      cases e with
      | normal =>
        obtain ⟨m, hm⟩ := E_iff.1 h
        refine ⟨max n m, ?_⟩
        simp only [evalC]
        rw [E_le (show n ≤ max n m by omega) hn]
        exact E_le (show m ≤ max n m by omega) hm
      | exit id => exact ⟨n, by simp only [evalC]; rw [hn]; exact h⟩
      | ret => exact ⟨n, by simp only [evalC]; rw [hn]; exact h⟩
      | goto l => exact ⟨n, by simp only [evalC]; rw [hn]; exact h⟩
theorem E_cond (c : Operand) (a b : RCode) (ρ : Fr) (H : Heap) : E P hs (.cond c a b) ρ H = match ev ρ c with | .bool t => if t = true then E P hs a ρ H else E P hs b ρ H | _ => none := by
  refine opt_ext fun r => ?_
  rw [E_iff]
  simp only [evalC]
  generalize ev ρ c = q
  cases q
  case bool t => cases t <;> simp only [Bool.false_eq_true, if_false, if_true] <;> exact E_iff.symm
  all_goals simp
theorem E_block (id : Nat) (b : RCode) (ρ : Fr) (H : Heap) : E P hs (.block id b) ρ H = match E P hs b ρ H with | some (.exit j, ρ', H') => if j = id then some (.normal, ρ', H') else some (.exit j, ρ', H') | r => r := by
  refine opt_ext fun r => ?_
  rw [E_iff]
  constructor
  · rintro ⟨n, h⟩
    simp only [evalC] at h
    cases hb : evalC (callN (progOf P hs) n) n b ρ H with
    | none => rw [hb] at h; cases h
    | some q => rw [E_iff.2 ⟨n, hb⟩]; rw [hb] at h; exact h
  · intro h
    cases hb : E P hs b ρ H with
    | none => rw [hb] at h; cases h
    | some q =>
      rw [hb] at h
      obtain ⟨n, hn⟩ := E_iff.1 hb
      exact ⟨n, by simp only [evalC]; rw [hn]; exact h⟩
theorem E_loop (b : RCode) (ρ : Fr) (H : Heap) : E P hs (.loop b) ρ H = match E P hs b ρ H with | some (.normal, ρ', H') => E P hs (.loop b) ρ' H' | r => r := by
  refine opt_ext fun r => ?_
  rw [E_iff]
  constructor
  · rintro ⟨n, h⟩
    simp only [evalC] at h
    cases n with
    | zero => cases h
    | succ n =>
      simp only [iterC] at h
      cases hb : evalC (callN (progOf P hs) (n + 1)) (n + 1) b ρ H with
      | none => rw [hb] at h; cases h
      | some q =>
        rw [E_iff.2 ⟨n + 1, hb⟩]
        rw [hb] at h
        obtain ⟨e, ρ1, H1⟩ := q
        cases e with
        | normal => exact E_iff.2 ⟨n + 1, by simp only [evalC]; exact iterC_le (fun _ _ _ h => h) n (n + 1) (by omega) _ _ _ h⟩
        | exit id => exact h
        | ret => exact h
        | goto l => exact h
  · intro h
    cases hb : E P hs b ρ H with
    | none => rw [hb] at h; cases h
    | some q =>
      rw [hb] at h
      obtain ⟨n, hn⟩ := E_iff.1 hb
      obtain ⟨e, ρ1, H1⟩ := q
      cases e with
      | normal =>
        obtain ⟨m, hm⟩ := E_iff.1 h
        refine ⟨max n m + 1, ?_⟩
        simp only [evalC, iterC]
        rw [E_le (show n ≤ max n m + 1 by omega) hn]
        simp only [evalC] at hm
        exact iterC_le (fun _ _ _ h => E_le (show m ≤ max n m + 1 by omega) h) m (max n m) (by omega) _ _ _ hm
      | exit id => exact ⟨n + 1, by simp only [evalC, iterC]; rw [E_le (show n ≤ n + 1 by omega) hn]; exact h⟩
      | ret => exact ⟨n + 1, by simp only [evalC, iterC]; rw [E_le (show n ≤ n + 1 by omega) hn]; exact h⟩
      | goto l => exact ⟨n + 1, by simp only [evalC, iterC]; rw [E_le (show n ≤ n + 1 by omega) hn]; exact h⟩
theorem E_label (l : Nat) (ρ : Fr) (H : Heap) : E P hs (.label l) ρ H = some (.normal, ρ, H) := E_const fun _ _ => rfl
theorem E_goto (l : Nat) (ρ : Fr) (H : Heap) : E P hs (.goto l) ρ H = some (.goto l, ρ, H) := E_const fun _ _ => rfl
/-- A scope: its body; at a jump, from the label on, as a scope of what stands behind it. -/
theorem E_scope (l : Nat) (b rest : RCode) (ρ : Fr) (H : Heap) : E P hs (.scope l b rest) ρ H = jmp l (E P hs (.scope l rest rest)) (E P hs b ρ H) := by
  refine opt_ext fun r => ?_
  rw [E_iff]
  constructor
  · rintro ⟨n, h⟩
    simp only [evalC] at h
    refine jmp_le (fun ρ' H' r hr => ?_) (fun r hr => E_iff.2 ⟨n, hr⟩) h
    cases n with
    | zero => cases hr
    | succ n =>
      simp only [iterJ] at hr
      refine E_iff.2 ⟨n + 1, ?_⟩
      simp only [evalC]
      exact jmp_le (iterJ_le (fun _ _ _ h => h) n (n + 1) (by omega)) (fun _ h => h) hr
  · intro h
    cases hb : E P hs b ρ H with
    | none => rw [hb] at h; cases h
    | some q =>
      rw [hb] at h
      obtain ⟨n, hn⟩ := E_iff.1 hb
      obtain ⟨e, ρ1, H1⟩ := q
      cases e with
      | goto j =>
        simp only [jmp] at h
        split at h
        · rename_i hj
          obtain ⟨m, hm⟩ := E_iff.1 h
          refine ⟨max n m + 1, ?_⟩
          simp only [evalC]
          rw [E_le (show n ≤ max n m + 1 by omega) hn]
          simp only [jmp]
          rw [if_pos hj]
          simp only [iterJ]
          simp only [evalC] at hm
          exact jmp_le (iterJ_le (fun _ _ _ h => E_le (show m ≤ max n m + 1 by omega) h) m (max n m) (by omega)) (fun _ h => E_le (show m ≤ max n m + 1 by omega) h) hm
        · cases h
      | normal => exact ⟨n, by simp only [evalC]; rw [hn]; exact h⟩
      | exit id => exact ⟨n, by simp only [evalC]; rw [hn]; exact h⟩
      | ret => exact ⟨n, by simp only [evalC]; rw [hn]; exact h⟩
/-- What comes of a body. -/
def done (rs : List RRes) : Option (Ex × Fr × Heap) → Option (Value × Heap)
  | some (.exit _, _, _) => none
  | some (.goto _, _, _) => none
  | some (_, ρ, H) => (resVs ρ H rs).map fun vs => (tup vs, H)
  | none => none
theorem D_eq {f : FuncId} {rf : RFunc} (hf : progOf P hs f = some rf) (args : List Value) (H : Heap) (hl : args.length ≤ rf.ntmps) : D P hs f args H = done rf.res (E P hs rf.body (frame0 args) H) := by
  refine opt_ext fun r => ?_
  rw [D_iff]
  constructor
  · rintro ⟨n, h⟩
    cases n with
    | zero => cases h
    | succ n =>
      simp only [callN, hf, Option.bind_some, Option.isNone_some, Bool.false_eq_true, if_false] at h
      rw [if_pos hl] at h
      simp only [Option.bind_eq_some_iff] at h
      obtain ⟨q, h1, h2⟩ := h
      rw [E_iff.2 ⟨n, h1⟩]
      obtain ⟨e, ρ1, H1⟩ := q
      cases e <;> first | (cases h2; done) | exact h2
  · intro h
    cases he : E P hs rf.body (frame0 args) H with
    | none => rw [he] at h; cases h
    | some q =>
      rw [he] at h
      obtain ⟨n, hn⟩ := E_iff.1 he
      refine ⟨n + 1, ?_⟩
      simp only [callN, hf, Option.bind_some, Option.isNone_some, Bool.false_eq_true, if_false]
      rw [if_pos hl, hn]
      obtain ⟨e, ρ1, H1⟩ := q
      cases e <;> first | (cases h; done) | exact h
theorem D_ext {f : FuncId} (hf : progOf P hs f = none) (args : List Value) (H : Heap) : D P hs f args H = extSem f args H := by
  refine opt_ext fun r => ?_
  rw [D_iff]
  constructor
  · rintro ⟨n, h⟩
    cases n with
    | zero => cases h
    | succ n => simpa only [callN, hf, Option.isNone_none, if_true] using h
  · intro h
    exact ⟨1, by simpa only [callN, hf, Option.isNone_none, if_true] using h⟩
theorem D_sound [Known P] (hm : P.follows .mixedOrders = true) {f : FuncId} {args : List Value} {H : Heap} {v : Value} {H' : Heap} (h : D P hs f args H = some (v, H')) {φ : Loc} {w : World} {args' : List Value} (hR : Rel H'.length φ H w) (ha : VRs φ args args') :
    Calls P f ⟨args'⟩ w fun e w' => ∃ v' φ', e = .returned v' ∧ VR φ' v v' ∧ Rel H'.length φ' H' w' ∧ Keeps φ H w φ' H' w' := by
  obtain ⟨n, hn⟩ := D_iff.1 h
  exact (callN_sound hm hs n f args H v H' hn).2 H'.length φ w args' (Nat.le_refl _) hR ha
end Go.Proofs.Ytoknmodbdlfdmaa.Sim
