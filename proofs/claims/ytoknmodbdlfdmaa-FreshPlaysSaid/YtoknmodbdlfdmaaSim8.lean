/- Regions in order, branches, loops and calls do in the model what they do over the plain heap. -/
import Derived.Test.YtoknmodbdlfdmaaSim7
import Derived.LoopN
import Derived.Tactics
namespace Go.Proofs.Ytoknmodbdlfdmaa.Sim
open Go Go.RowKit
set_option linter.unusedVariables false
set_option linter.unusedSimpArgs false
variable {P : Program} {lim N : Nat} {φ : Loc} {H : Heap} {w : World} {v : Value} {H' : Heap} {ρ ρ' : Fr} {a : Act} {C : CallSem}
structure FR (N : Nat) (φ : Loc) (ρ : Fr) (a : Act) : Prop where
  size : a.tmps.size = N
  val : ∀ t, VR φ (ρ t) (a.tmps.getD t undef)
  glob : ∀ i g, gl[i]? = some g → ∃ n, φ i = some (g, n, 0)
def CLen (C : CallSem) : Prop := ∀ f args H v H', C f args H = some (v, H') → H.length ≤ H'.length
/-- A function that can be called. -/
def FnOk (P : Program) (f : FuncId) : Prop := ∃ fn, P.funcs[f]? = some fn ∧ (fn.name == "runtime.NumGoroutine") = false ∧ fn.body.isNone = false
def CSound (P : Program) (C : CallSem) : Prop := ∀ f args H v H', C f args H = some (v, H') → FnOk P f ∧ ∀ lim φ w args', H'.length ≤ lim → Rel lim φ H w → VRs φ args args' →
  Calls P f ⟨args'⟩ w fun e w' => ∃ v' φ', e = .returned v' ∧ VR φ' v v' ∧ Rel lim φ' H' w' ∧ Keeps φ H w φ' H' w'
theorem FR.eval (h : FR N φ ρ a) (x : Operand) (hx : opOk x = true) : VR φ (ev ρ x) (a.eval x) := by
  cases x with
  | tmp t => exact h.2 t
  | const v => exact VR.plain hx
  | global g =>
    have hg : g ∈ gl := by simpa [opOk] using hx
    have hi := List.idxOf_lt_length_of_mem hg
    obtain ⟨n, e⟩ := h.glob (gl.idxOf g) g (by rw [List.getElem?_eq_getElem hi, List.getElem_idxOf])
    exact VR.ptr (k := (g, n, 0)) (off := 0) e
  | func f => exact .func _ .nil
theorem FR.mono {φ' : Loc} (h : FR N φ ρ a) (hle : Loc.le φ φ') : FR N φ' ρ a := ⟨h.1, fun t => (h.2 t).mono hle, fun i g e => by obtain ⟨n, e'⟩ := h.glob i g e; exact ⟨n, hle _ _ e'⟩⟩
theorem FR.put (h : FR N φ ρ a) {d : Option Nat} {v v' : Value} (hd : d.all (· < N) = true) (hv : VR φ v v') : FR N φ (put ρ d v) (a.put d v') := by
  cases d with
  | none => exact h
  | some d =>
    simp only [Option.all_some, decide_eq_true_eq] at hd
    refine ⟨by simp [Act.put, h.1], fun t => ?_, h.glob⟩
    simp only [Sim.put, upd, Act.put]
    by_cases ht : t = d
    · subst ht
      rw [if_pos rfl]
      simp [Array.getD, h.1, hd]; exact hv
    · rw [if_neg ht]
      have : (a.tmps.setIfInBounds d v').getD t undef = a.tmps.getD t undef := by
        simp only [Array.getD_eq_getD_getElem?, Array.getElem?_setIfInBounds]
        rw [if_neg (by omega)]
      rw [this]; exact h.2 t
theorem defers_put (a : Act) (d : Option Nat) (v : Value) : (a.put d v).defers = a.defers := by cases d <;> rfl
theorem storeV_len {n : Nat} {p x : Value} (h : storeV H n p x = some H') : H'.length = H.length := by
  unfold storeV at h
  split at h
  · rename_i i off
    cases hl : live H i with
    | none => rw [hl] at h; cases h
    | some b =>
      rw [hl] at h
      simp only [Option.bind_some] at h
      split at h
      · simp only [Option.some.injEq] at h; subst h; simp
      · cases h
  · cases h
theorem appendV_len {ty : TypeId} {esz bytes : Nat} {s x : Value} (h : appendV ty esz bytes H s x = some (v, H')) : H.length ≤ H'.length := by
  unfold appendV at h
  cases hc : sliceCells H esz x with
  | none => rw [hc] at h; cases h
  | some new =>
    rw [hc] at h
    simp only [Option.bind_some] at h
    split at h
    · split at h
      · simp at h; rw [← h.2]; simp
      · split at h
        · simp at h; rw [← h.2]; simp
        · cases h
    · rename_i i n e
      split at h
      · simp at h; rw [← h.2]; simp
      · cases hl : live H i with
        | none => rw [hl] at h; cases h
        | some b =>
          rw [hl] at h
          simp only [Option.bind_some] at h
          split at h
          · simp at h; rw [← h.2]; simp
          · cases h
    · cases h
theorem mupdV_len {q : IntKind} {m x y : Value} (h : mupdV q H m x y = some H') : H'.length = H.length := by
  unfold mupdV at h
  split at h
  · simp only [Option.bind_eq_some_iff] at h
    obtain ⟨p, _, h⟩ := h
    split at h
    · simp only [Option.some.injEq] at h; subst h; simp
    · cases h
  · cases h
theorem stepOp_len {r : ROp} (h : stepOp ρ H r = some (v, H')) : H.length ≤ H'.length := by
  cases r
  case append => exact appendV_len h
  case mkslice ty e b z l c =>
    simp only [stepOp, mksliceV] at h
    split at h
    · split at h
      · simp only [Option.some.injEq, Prod.mk.injEq] at h; rw [← h.2]; simp
      · cases h
    · cases h
  case mupd q m x y =>
    simp only [stepOp, Option.map_eq_some_iff, Prod.mk.injEq] at h
    obtain ⟨H2, h1, _, rfl⟩ := h
    rw [mupdV_len h1]; exact Nat.le_refl _
  case store n p x =>
    simp only [stepOp] at h
    cases hs : storeV H n (ev ρ p) (ev ρ x) with
    | none => rw [hs] at h; cases h
    | some H2 => rw [hs] at h; simp at h; rw [← h.2, storeV_len hs]; simp
  all_goals
    simp only [stepOp] at h
    first
      | (cases h; done)
      | (simp only [Option.some.injEq, Prod.mk.injEq] at h; rw [← h.2]; simp; done)
      | (simp only [Option.map_eq_some_iff, Prod.mk.injEq] at h; obtain ⟨_, _, _, rfl⟩ := h; simp; done)
      | (split at h <;> simp only [Option.some.injEq, Prod.mk.injEq, reduceCtorEq] at h; rw [← h.2]; simp; done)
      | skip
theorem stepC_len (hC : CLen C) {r : SOp} (h : stepC C ρ H r = some (v, H')) : H.length ≤ H'.length := by
  cases r with
  | call f xs => exact hC _ _ _ _ _ h
  | callv x xs =>
    simp only [stepC, callVal] at h
    split at h
    · exact hC _ _ _ _ _ h
    · cases h
  | plain r => exact stepOp_len h
def resolveS (P : Program) (op : Op) : Option SOp :=
  match op with
  | .call ⟨.value (.func f), args, _⟩ => if args.toList.all opOk then match P.funcs[f]? with
      | some fn => if fn.name == "runtime.NumGoroutine" || fn.body.isNone then none else some (.call f args.toList)
      | none => none else none
  | .call ⟨.value (.tmp t), args, _⟩ => if args.toList.all opOk then some (.callv (.tmp t) args.toList) else none
  | op => (resolveOp P op).map .plain
theorem stepC_wp (hC : CSound P C) {o : Oper} {r : SOp} (hr : resolveS P o.op = some r) (hs : stepC C ρ H r = some (v, H')) (hlim : H'.length ≤ lim) (hR : Rel lim φ H w) (hF : FR N φ ρ a)
    {next : Act → World → Prop} {Q : Exit → Act → World → Prop} (h : ∀ v' w' φ', VR φ' v v' → Rel lim φ' H' w' → Keeps φ H w φ' H' w' → next (a.put o.dst v') w') : o.wp P a w next Q := by
  unfold resolveS at hr
  split at hr
  · rename_i g args at_ he
    obtain ⟨dst, op, type, pos, after, guard⟩ := o
    simp only at he
    subst he
    split at hr
    · rename_i hok
      split at hr
      · rename_i fn hfn
        split at hr
        · cases hr
        · rename_i hn
          simp only [Option.some.injEq] at hr
          subst hr
          obtain ⟨args⟩ := args
          have hargs := evalsR (a := a) hF.eval args (by simpa using hok)
          have hc := (hC _ _ _ _ _ hs).2 lim φ w _ hlim hR hargs
          simp only [Bool.or_eq_true, not_or, Bool.not_eq_true] at hn
          obtain ⟨hnm, hb⟩ := hn
          have hrun : (execOp a.eval ⟨dst, .call ⟨.value (.func g), ⟨args⟩, at_⟩, type, pos, after, guard⟩).run P w = .ok (.enter g ⟨args.map a.eval⟩) w := by
            simp only [execOp, resolve, Act.eval, Deferred.ofValue, invoke, callFunc, Sem.run_bind, Sem.run_pure, Result.andThen_ok, run_program, hfn]
            rw [if_neg (by simp [hnm]), if_neg (by simp [hb])]
            simp
          unfold Oper.wp
          rw [hrun, Oper.upon_enter]
          refine hc.mono fun e w' ⟨v', φ', he, h1, h2, h3⟩ => ?_
          subst he
          exact h v' w' φ' h1 h2 h3
      · cases hr
    · cases hr
  · rename_i t args at_ he
    obtain ⟨dst, op, type, pos, after, guard⟩ := o
    simp only at he
    subst he
    split at hr
    · rename_i hok
      simp only [Option.some.injEq] at hr
      subst hr
      obtain ⟨args⟩ := args
      have hargs := evalsR (a := a) hF.eval args (by simpa using hok)
      have hx := hF.eval (.tmp t) rfl
      simp only [stepC, callVal] at hs
      split at hs
      · rename_i g caps hev
        rw [hev] at hx
        obtain ⟨caps', hcv, hcaps⟩ : ∃ caps', a.eval (.tmp t) = .func (.func g) #[] ⟨caps'⟩ ∧ VRs φ caps caps' := by
          generalize a.eval (.tmp t) = q at hx
          cases hx with
          | func fn r => exact ⟨_, rfl, r⟩
        obtain ⟨⟨fn, hfn, hnm, hb⟩, hcc⟩ := hC _ _ _ _ _ hs
        have hc := hcc lim φ w _ hlim hR (hargs.append hcaps)
        have hrun : (execOp a.eval ⟨dst, .call ⟨.value (.tmp t), ⟨args⟩, at_⟩, type, pos, after, guard⟩).run P w = .ok (.enter g ⟨args.map a.eval ++ caps'⟩) w := by
          simp only [execOp, resolve, hcv, Deferred.ofValue, invoke, callFunc, Sem.run_bind, Sem.run_pure, Result.andThen_ok, run_program, hfn]
          simp [hnm, hb, callFunc, run_program, hfn]
        unfold Oper.wp
        rw [hrun, Oper.upon_enter]
        refine hc.mono fun e w' ⟨v', φ', he, h1, h2, h3⟩ => ?_
        subst he
        exact h v' w' φ' h1 h2 h3
      · cases hs
    · cases hr
  · cases ho : resolveOp P o.op with
    | none => rw [ho] at hr; cases hr
    | some q =>
      rw [ho] at hr
      simp only [Option.map_some, Option.some.injEq] at hr
      subst hr
      obtain ⟨n, v', w', φ', h1, h2, h3, h4, h5⟩ := step_ok ho hs hlim hR hF.eval
      unfold Oper.wp
      rw [h1]
      rcases h2 with rfl | ⟨rfl, rfl⟩
      · rw [Oper.upon_value]; exact h v' w' φ' h3 h4 h5
      · rw [Oper.upon_skip]; exact h undef w' φ' h3 h4 h5
def resolveRO (P : Program) (ops : Array Oper) (N : Nat) (o : Oper) : Option RO :=
  match resolveS P o.op with
  | some r =>
    if o.dst.all (· < N) then
      match o.guard with
      | none => some ⟨o.dst, r, none⟩
      | some (j, b) => match (ops[j]?).bind (·.dst) with
        | some g => some ⟨o.dst, r, some (g, b)⟩
        | none => none
    else none
  | none => none
def resolveL (P : Program) (ops : Array Oper) (N : Nat) : List Oper → Option (List RO)
  | [] => some []
  | o :: l => match resolveRO P ops N o, resolveL P ops N l with
    | some r, some rs => some (r :: rs)
    | _, _ => none
theorem wanted_ok {ops : Array Oper} {o : Oper} {r : RO} (hr : resolveRO P ops N o = some r) (hF : FR N φ ρ a) : Region.wanted o (yielded ops a.tmps) = guardOn ρ r.guard := by
  unfold resolveRO at hr
  split at hr
  · split at hr
    · split at hr
      · rename_i hg
        simp only [Option.some.injEq] at hr
        subst hr
        simp [Region.wanted, hg, guardOn]
      · rename_i j b hg
        split at hr
        · rename_i g hj
          simp only [Option.some.injEq] at hr
          subst hr
          have hv := hF.2 g
          simp only [Region.wanted, hg, yielded, hj, Option.bind_some, guardOn]
          have hget : a.tmps.getD g undef = (a.tmps[g]?).getD undef := by simp [Array.getD_eq_getD_getElem?]
          rw [hget] at hv
          cases ht : a.tmps[g]? with
          | none =>
            rw [ht] at hv
            simp only [Option.getD_none] at hv
            generalize ρ g = q at hv
            cases hv; rfl
          | some u =>
            rw [ht] at hv
            simp only [Option.getD_some] at hv
            generalize ρ g = q at hv
            cases hv <;> first | rfl | (cases b <;> rename_i c <;> cases c <;> rfl)
        · cases hr
    · cases hr
  · cases hr
theorem resolveRO_op {ops : Array Oper} {o : Oper} {r : RO} (hr : resolveRO P ops N o = some r) : resolveS P o.op = some r.op ∧ r.dst = o.dst ∧ o.dst.all (· < N) = true := by
  unfold resolveRO at hr
  split at hr
  · rename_i r' h1
    split at hr
    · rename_i h2
      split at hr
      · simp only [Option.some.injEq] at hr; subst hr; exact ⟨h1, rfl, h2⟩
      · split at hr
        · simp only [Option.some.injEq] at hr; subst hr; exact ⟨h1, rfl, h2⟩
        · cases hr
    · cases hr
  · cases hr
theorem runOps_len (hC : CLen C) : ∀ (rs : List RO) (ρ : Fr) (H : Heap) (ρ' : Fr) (H' : Heap), runOps C rs ρ H = some (ρ', H') → H.length ≤ H'.length := by
  intro rs
  induction rs with
  | nil => intro ρ H ρ' H' h; simp [runOps] at h; rw [h.2]; simp
  | cons r rs ih =>
    intro ρ H ρ' H' h
    simp only [runOps] at h
    split at h
    · cases hs : stepC C ρ H r.op with
      | none => rw [hs] at h; cases h
      | some p => rw [hs] at h; exact Nat.le_trans (stepC_len hC (v := p.1) (H' := p.2) hs) (ih _ _ _ _ h)
    · exact ih _ _ _ _ h
theorem list_wp (hC : CSound P C) (hL : CLen C) {ops : Array Oper} {Q : Exit → Act → World → Prop} : ∀ (l : List Oper) (rs : List RO), resolveL P ops N l = some rs → ∀ (ρ : Fr) (H : Heap) (φ : Loc) (a : Act) (w : World) (ρ' : Fr) (H' : Heap), runOps C rs ρ H = some (ρ', H') →
    H'.length ≤ lim → Rel lim φ H w → FR N φ ρ a → (∀ a' w' φ', a'.defers = a.defers → FR N φ' ρ' a' → Rel lim φ' H' w' → Keeps φ H w φ' H' w' → Q .normal a' w') → wpList P ops Q l a w := by
  intro l
  induction l with
  | nil =>
    intro rs hr ρ H φ a w ρ' H' hs hlim hR hF h
    simp only [resolveL, Option.some.injEq] at hr
    subst hr
    simp only [runOps, Option.some.injEq, Prod.mk.injEq] at hs
    obtain ⟨rfl, rfl⟩ := hs
    exact h a w φ rfl hF hR (Keeps.refl _ _ _)
  | cons o l ih =>
    intro rs hr ρ H φ a w ρ' H' hs hlim hR hF h
    simp only [resolveL] at hr
    split at hr
    · rename_i r rs' h1 h2
      simp only [Option.some.injEq] at hr
      subst hr
      obtain ⟨g1, g2, g3⟩ := resolveRO_op h1
      simp only [runOps] at hs
      simp only [wpList]
      rw [wanted_ok h1 hF]
      split at hs
      · rename_i hg
        rw [if_pos hg]
        left
        cases hst : stepC C ρ H r.op with
        | none => rw [hst] at hs; cases hs
        | some p =>
          rw [hst] at hs
          simp only [Option.bind_some] at hs
          have hl1 := runOps_len hL _ _ _ _ _ hs
          refine stepC_wp hC g1 (v := p.1) (H' := p.2) hst (by omega) hR hF fun v' w' φ' k1 k2 k3 => ?_
          refine ih rs' h2 _ _ φ' _ w' ρ' H' hs hlim k2 ?_ fun a' w'' φ'' e1 e2 e3 e4 => h a' w'' φ'' (e1.trans (defers_put _ _ _)) e2 e3 (k3.trans e4)
          rw [g2]
          exact (hF.mono k3.ext).put g3 k1
      · rename_i hg
        rw [if_neg hg]
        refine ih rs' h2 _ _ φ _ w ρ' H' hs hlim hR ?_ fun a' w'' φ'' e1 e2 e3 e4 => h a' w'' φ'' (e1.trans (defers_put _ _ _)) e2 e3 e4
        rw [g2]
        exact hF.put g3 (.tuple .nil)
    · cases hr
end Go.Proofs.Ytoknmodbdlfdmaa.Sim
