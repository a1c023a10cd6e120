/- Functions: what the plain heap's run says, the model does; the run without a bound on its rounds. -/
import Derived.Test.YtoknmodbdlfdmaaSim14
namespace Go.Proofs.Ytoknmodbdlfdmaa.Sim
open Go Go.RowKit
set_option linter.unusedVariables false
set_option linter.unusedSimpArgs false
def resolveR (P : Program) : ResultVar → Option RRes
  | .tmp t => some (.tmp t)
  | .cell t ty => match P.underlying ty, P.info? ty with
    | some d, some i => some (if isAggB d then .cells t i.size else .cell t)
    | _, _ => none
def resolveRs (P : Program) : List ResultVar → Option (List RRes)
  | [] => some []
  | r :: l => match resolveR P r, resolveRs P l with
    | some x, some xs => some (x :: xs)
    | _, _ => none
def resolveF (P : Program) (hs : Hints) (fn : Func) : Option RFunc :=
  match fn.body with
  | some c => if fn.name == "runtime.NumGoroutine" then none else match resolveC P fn.ntmps hs c, resolveRs P fn.results.toList with
    | some b, some r => some ⟨fn.ntmps, r, b⟩
    | _, _ => none
  | none => none
def progOf (P : Program) (h : Nat → Hints) (f : Nat) : Option RFunc := (P.funcs[f]?).bind (resolveF P (h f))
variable {P : Program} {N : Nat} {C : CallSem} {lim : Nat} {φ : Loc} {H : Heap} {w : World} {ρ : Fr} {a : Act}
def resS (a : Act) (r : ResultVar) : Sem Value := match r with | .tmp t => pure (a.tmps.getD t undef) | .cell b t => do loadVar t (← asAddr (a.tmps.getD b undef))
theorem res_ok (hR : Rel lim φ H w) (hF : FR N φ ρ a) {r : ResultVar} {x : RRes} (hr : resolveR P r = some x) {v : Value} (hv : resV ρ H x = some v) :
    ∃ v', (resS a r).run P w = .ok v' w ∧ VR φ v v' := by
  unfold resS
  cases r with
  | tmp t =>
    simp only [resolveR, Option.some.injEq] at hr
    subst hr
    simp only [resV, Option.some.injEq] at hv
    subst hv
    exact ⟨_, rfl, hF.2 t⟩
  | cell b t =>
    simp only [resolveR] at hr
    split at hr
    · rename_i d i hu hi
      simp only [Option.some.injEq] at hr
      subst hr
      have hx := hF.2 b
      have conv : ∀ (p : Addr), a.tmps.getD b undef = .pointer (some p) → (do loadVar t (← asAddr (a.tmps.getD b undef)) : Sem Value).run P w = (Instr.loadAt t (a.tmps.getD b undef)).run P w := by
        intro p hp
        rw [hp]
        simp [asAddr, Instr.loadAt, Instr.sureAddr]
      by_cases hd : isAggB d = true
      · rw [if_pos hd] at hv
        simp only [resV] at hv
        obtain ⟨v', h1, h2⟩ := run_loadN (P := P) hR hu hi hd hx hv
        have hp : ∃ p, a.tmps.getD b undef = .pointer (some p) := by
          unfold loadnV at hv
          split at hv
          · rename_i he; rw [he] at hx; obtain ⟨k, _, hk⟩ := ptr_inv hx; exact ⟨_, hk⟩
          · cases hv
        obtain ⟨p, hp⟩ := hp
        exact ⟨v', (conv p hp).trans h1, h2⟩
      · rw [if_neg hd] at hv
        simp only [resV] at hv
        obtain ⟨v', h1, h2⟩ := run_load1 (P := P) hR hu (by simpa using hd) hx hv
        have hp : ∃ p, a.tmps.getD b undef = .pointer (some p) := by
          unfold loadV at hv
          split at hv
          · rename_i he; rw [he] at hx; obtain ⟨k, _, hk⟩ := ptr_inv hx; exact ⟨_, hk⟩
          · cases hv
        obtain ⟨p, hp⟩ := hp
        exact ⟨v', (conv p hp).trans h1, h2⟩
    · cases hr
theorem results_ok (hR : Rel lim φ H w) (hF : FR N φ ρ a) {fn : Func} {rs : List RRes} (hr : resolveRs P fn.results.toList = some rs) {vs : List Value} (hv : resVs ρ H rs = some vs) :
    ∃ v', (results fn a.tmps).run P w = .ok v' w ∧ VR φ (tup vs) v' := by
  have key : ∀ (l : List ResultVar) (rs : List RRes) (vs : List Value), resolveRs P l = some rs → resVs ρ H rs = some vs →
      ∃ us, (l.mapM (resS a)).run P w = .ok us w ∧ VRs φ vs us := by
    intro l
    induction l with
    | nil =>
      intro rs vs h1 h2
      simp only [resolveRs, Option.some.injEq] at h1
      subst h1
      simp only [resVs, Option.some.injEq] at h2
      subst h2
      exact ⟨[], by simp, .nil⟩
    | cons r l ih =>
      intro rs vs h1 h2
      simp only [resolveRs] at h1
      split at h1
      · rename_i x xs g1 g2
        simp only [Option.some.injEq] at h1
        subst h1
        simp only [resVs, Option.bind_eq_some_iff, Option.map_eq_some_iff] at h2
        obtain ⟨v, g3, vs', g4, rfl⟩ := h2
        obtain ⟨v', g5, g6⟩ := res_ok hR hF g1 g3
        obtain ⟨us, g7, g8⟩ := ih xs vs' g2 g4
        refine ⟨v' :: us, ?_, .cons g6 g8⟩
        rw [List.mapM_cons]
        simp only [Sem.run_bind, g5, Result.andThen_ok, g7, Sem.run_pure]
      · cases h1
  obtain ⟨us, h1, h2⟩ := key _ _ _ hr hv
  have h3 : (fn.results.mapM (resS a)).run P w = .ok ⟨us⟩ w := by
    rw [Array.mapM_eq_mapM_toList]
    simp only [Sem.run_map, h1, Result.andThen_ok]
  have h4 : results fn a.tmps = (do let vs ← fn.results.mapM (resS a); pure (if h : vs.size = 1 then vs[0] else .tuple vs)) := by
    unfold results
    congr 1
  rw [h4]
  simp only [Sem.run_bind]
  rw [h3]
  simp only [Result.andThen_ok, Sem.run_pure]
  refine ⟨_, rfl, ?_⟩
  have hl := h2.length
  cases vs with
  | nil =>
    cases h2
    simp [tup]; exact .tuple .nil
  | cons v vs =>
    cases h2 with
    | cons g1 g2 =>
      rename_i u us
      cases vs with
      | nil => cases g2; simpa [tup] using g1
      | cons v2 vs =>
        cases g2 with
        | cons g3 g4 => simp [tup]; exact .tuple (.cons g1 (.cons g3 g4))
theorem extSem_len : CLen extSem := by
  intro f args H v H' h
  unfold extSem at h
  split at h
  · unfold tickV at h
    split at h
    · unfold tickB at h
      split at h
      · simp only [Option.bind_eq_some_iff] at h
        obtain ⟨p, _, h⟩ := h
        split at h
        · simp only [Option.some.injEq, Prod.mk.injEq] at h
          obtain ⟨_, rfl⟩ := h
          simp
        · cases h
      · cases h
    · cases h
  · cases h
/-- The contract holds. -/
class Known (P : Program) : Prop where
  snd : CSound P extSem
theorem callN_len (prog : Nat → Option RFunc) : ∀ n, CLen (callN prog n) := by
  intro n
  induction n with
  | zero => intro f args H v H' h; cases h
  | succ n ih =>
    intro f args H v H' h
    simp only [callN] at h
    split at h
    · exact extSem_len _ _ _ _ _ h
    simp only [Option.bind_eq_some_iff] at h
    obtain ⟨rf, _, h⟩ := h
    split at h
    · simp only [Option.bind_eq_some_iff] at h
      obtain ⟨⟨e, ρ', H1⟩, h1, h2⟩ := h
      have := evalC_len ih n _ _ _ _ _ _ h1
      split at h2
      · cases h2
      · cases h2
      · simp only [Option.map_eq_some_iff, Prod.mk.injEq] at h2
        obtain ⟨vs, _, _, rfl⟩ := h2
        exact this
    · cases h
theorem progOf_ok {h : Nat → Hints} {f : Nat} {rf : RFunc} (hf : progOf P h f = some rf) : FnOk P f := by
  simp only [progOf, Option.bind_eq_some_iff] at hf
  obtain ⟨fn, hfn, hf⟩ := hf
  unfold resolveF at hf
  split at hf
  · rename_i c hbody
    split at hf
    · cases hf
    · rename_i hn
      exact ⟨fn, hfn, by simpa using hn, by rw [hbody]; rfl⟩
  · cases hf
theorem callN_sound [Known P] (hm : P.follows .mixedOrders = true) (hs : Nat → Hints) : ∀ n, CSound P (callN (progOf P hs) n) := by
  intro n
  induction n with
  | zero => intro f args H v H' h; cases h
  | succ n ih =>
    intro f args H v H' h
    simp only [callN] at h
    split at h
    · exact Known.snd f args H v H' h
    simp only [Option.bind_eq_some_iff] at h
    obtain ⟨rf, hrf, h⟩ := h
    refine ⟨progOf_ok hrf, ?_⟩
    intro lim φ w args' hlim hR hargs
    split at h
    · rename_i hal
      simp only [Option.bind_eq_some_iff] at h
      obtain ⟨⟨e, ρ', H1⟩, h1, h2⟩ := h
      simp only [progOf, Option.bind_eq_some_iff] at hrf
      obtain ⟨fn, hfn, hrf⟩ := hrf
      unfold resolveF at hrf
      split at hrf
      · rename_i c hbody
        split at hrf
        · cases hrf
        split at hrf
        · rename_i b rs hb hrs
          simp only [Option.some.injEq] at hrf
          subst hrf
          simp only at hal h1 h2
          have hargl := hargs.length
          have hH : H1 = H' := by
            split at h2
            · cases h2
            · cases h2
            · simp only [Option.map_eq_some_iff, Prod.mk.injEq] at h2
              obtain ⟨_, _, _, e⟩ := h2; exact e
          subst hH
          refine calls_of_wp hfn hbody ?_
          refine code_ok ih (callN_len _ n) hm n _ c b hb _ _ e ρ' H1 φ _ w _ h1 hlim hR ?_ fun a' w' φ' hd hF' hR' hK' => ?_
          · refine ⟨by simp; omega, fun t => ?_, hR.sld.at_⟩
            simp only [frame0]
            have : ∀ (l m : List Value), VRs φ l m → ∀ (k t : Nat), VR φ (l.getD t undef) ((⟨m⟩ ++ Array.replicate k undef : Array Value).getD t undef) := by
              intro l m hlm k t
              simp only [List.getD_eq_getElem?_getD, Array.getD_eq_getD_getElem?]
              cases hl : l[t]? with
              | some x =>
                obtain ⟨y, hy, hxy⟩ := hlm.get hl
                have ht : t < m.length := by
                  rcases Nat.lt_or_ge t m.length with g | g
                  · exact g
                  · rw [List.getElem?_eq_none g] at hy; cases hy
                have : ((⟨m⟩ ++ Array.replicate k undef : Array Value))[t]? = some y := by
                  rw [Array.getElem?_append_left (by simpa using ht)]; simpa using hy
                rw [this]; exact hxy
              | none =>
                have ht : m.length ≤ t := by
                  rcases Nat.lt_or_ge t l.length with g | g
                  · rw [List.getElem?_eq_getElem g] at hl; cases hl
                  · rw [hlm.length]; exact g
                have : (((⟨m⟩ ++ Array.replicate k undef : Array Value))[t]?).getD undef = undef := by
                  rw [Array.getElem?_append_right (by simpa using ht), Array.getElem?_replicate]
                  split <;> rfl
                rw [this]; exact .tuple .nil
            exact this args args' hargs _ t
          · cases e with
            | exit id => cases h2
            | goto l => cases h2
            | normal =>
              simp only [Option.map_eq_some_iff, Prod.mk.injEq] at h2
              obtain ⟨vs, g1, rfl, _⟩ := h2
              obtain ⟨v', g2, g3⟩ := results_ok (P := P) hR' hF' hrs g1
              exact ⟨hd, v', g2, v', φ', rfl, g3, hR', hK'⟩
            | ret =>
              simp only [Option.map_eq_some_iff, Prod.mk.injEq] at h2
              obtain ⟨vs, g1, rfl, _⟩ := h2
              obtain ⟨v', g2, g3⟩ := results_ok (P := P) hR' hF' hrs g1
              exact ⟨hd, v', g2, v', φ', rfl, g3, hR', hK'⟩
        · cases hrf
      · cases hrf
    · cases h
/- The run without a bound. -/
def CLe (C C' : CallSem) : Prop := ∀ f args H r, C f args H = some r → C' f args H = some r
theorem stepC_le {C C' : CallSem} (h : CLe C C') {ρ : Fr} {H : Heap} {o : SOp} {r : Value × Heap} (hs : stepC C ρ H o = some r) : stepC C' ρ H o = some r := by
  cases o with
  | plain o => exact hs
  | call f xs => exact h _ _ _ _ hs
  | callv x xs =>
    simp only [stepC, callVal] at hs ⊢
    split at hs
    · exact h _ _ _ _ hs
    · cases hs
theorem runOps_le {C C' : CallSem} (h : CLe C C') : ∀ (l : List RO) (ρ : Fr) (H : Heap) (r : Fr × Heap), runOps C l ρ H = some r → runOps C' l ρ H = some r := by
  intro l
  induction l with
  | nil => intro ρ H r hr; exact hr
  | cons o l ih =>
    intro ρ H r hr
    simp only [runOps] at hr ⊢
    split at hr
    · rename_i hg
      rw [if_pos hg]
      simp only [Option.bind_eq_some_iff] at hr ⊢
      obtain ⟨q, h1, h2⟩ := hr
      exact ⟨q, stepC_le h h1, ih _ _ _ h2⟩
    · rename_i hg
      rw [if_neg hg]
      exact ih _ _ _ hr
theorem stepD_le {C C' : CallSem} (h : CLe C C') {H0 : Heap} {j : Nat} {d : DO} {st st' : DS} (hs : stepD C H0 j d st = some st') : stepD C' H0 j d st = some st' := by
  unfold stepD at hs ⊢
  split at hs
  · rename_i hg
    rw [if_pos hg]
    split at hs
    · rename_i hp
      rw [if_pos hp]
      simp only [Option.map_eq_some_iff] at hs ⊢
      obtain ⟨q, h1, h2⟩ := hs
      exact ⟨q, stepC_le h h1, h2⟩
    · rename_i hp
      rw [if_neg hp]
      split at hs
      · rename_i hl
        rw [if_pos hl]
        simp only [Option.bind_eq_some_iff] at hs ⊢
        obtain ⟨i, h1, h2⟩ := hs
        refine ⟨i, h1, ?_⟩
        split at h2
        · rename_i hc
          rw [if_pos hc]
          simp only [Option.map_eq_some_iff] at h2 ⊢
          obtain ⟨q, h3, h4⟩ := h2
          exact ⟨q, stepC_le h h3, h4⟩
        · cases h2
      · rename_i hl
        rw [if_neg hl]
        split at hs
        · rename_i he
          rw [if_pos he]
          simp only [Option.bind_eq_some_iff] at hs ⊢
          obtain ⟨r, h1, h2⟩ := hs
          exact ⟨r, stepC_le h h1, h2⟩
        · rename_i he
          rw [if_neg he]
          split at hs
          · rename_i hch
            rw [if_pos hch]
            simp only [Option.bind_eq_some_iff] at hs ⊢
            obtain ⟨q, h1, h2⟩ := hs
            exact ⟨q, stepC_le h h1, h2⟩
          · cases hs
  · rename_i hg
    rw [if_neg hg]
    exact hs
theorem runD_le {C C' : CallSem} (h : CLe C C') {H0 : Heap} : ∀ (l : List DO) (j : Nat) (st st' : DS), runD C H0 j l st = some st' → runD C' H0 j l st = some st' := by
  intro l
  induction l with
  | nil => intro j st st' hr; exact hr
  | cons d l ih =>
    intro j st st' hr
    simp only [runD, Option.bind_eq_some_iff] at hr ⊢
    obtain ⟨q, h1, h2⟩ := hr
    exact ⟨q, stepD_le h h1, ih _ _ _ h2⟩
theorem iterC_le {f g : Fr → Heap → Option (Ex × Fr × Heap)} (h : ∀ ρ H r, f ρ H = some r → g ρ H = some r) : ∀ (n m : Nat), n ≤ m → ∀ (ρ : Fr) (H : Heap) (r : Ex × Fr × Heap), iterC f n ρ H = some r → iterC g m ρ H = some r := by
  intro n
  induction n with
  | zero => intro m _ ρ H r hr; cases hr
  | succ n ih =>
    intro m hm ρ H r hr
    obtain ⟨m, rfl⟩ : ∃ k, m = k + 1 := ⟨m - 1, by omega⟩
    simp only [iterC] at hr ⊢
    cases hf : f ρ H with
    | none => rw [hf] at hr; cases hr
    | some q =>
      rw [h _ _ _ hf]
      rw [hf] at hr
      obtain ⟨e, ρ1, H1⟩ := q
      cases e with
      | normal => exact ih m (by omega) ρ1 H1 r hr
      | exit id => exact hr
      | ret => exact hr
      | goto l => exact hr
theorem jmp_le {l : Nat} {k k' : Fr → Heap → Option (Ex × Fr × Heap)} (hk : ∀ ρ H r, k ρ H = some r → k' ρ H = some r) {a b : Option (Ex × Fr × Heap)} (hab : ∀ r, a = some r → b = some r) {r : Ex × Fr × Heap} (h : jmp l k a = some r) : jmp l k' b = some r := by
  cases a with
  | none => cases h
  | some q =>
    rw [hab _ rfl]
    obtain ⟨e, ρ1, H1⟩ := q
    cases e with
    | goto j =>
      simp only [jmp] at h ⊢
      split at h
      · rename_i hj; rw [if_pos hj]; exact hk _ _ _ h
      · cases h
    | normal => exact h
    | exit id => exact h
    | ret => exact h
theorem iterJ_le {l : Nat} {f g : Fr → Heap → Option (Ex × Fr × Heap)} (h : ∀ ρ H r, f ρ H = some r → g ρ H = some r) : ∀ (n m : Nat), n ≤ m → ∀ (ρ : Fr) (H : Heap) (r : Ex × Fr × Heap), iterJ l f n ρ H = some r → iterJ l g m ρ H = some r := by
  intro n
  induction n with
  | zero => intro m _ ρ H r hr; cases hr
  | succ n ih =>
    intro m hm ρ H r hr
    obtain ⟨m, rfl⟩ : ∃ k, m = k + 1 := ⟨m - 1, by omega⟩
    simp only [iterJ] at hr ⊢
    exact jmp_le (ih m (by omega)) (h ρ H) hr
theorem evalC_le {C C' : CallSem} (h : CLe C C') {n m : Nat} (hnm : n ≤ m) : ∀ (c : RCode) (ρ : Fr) (H : Heap) (r : Ex × Fr × Heap), evalC C n c ρ H = some r → evalC C' m c ρ H = some r := by
  intro c
  induction c with
  | skip => intro ρ H r hr; exact hr
  | region ops => intro ρ H r hr; simp only [evalC, Option.map_eq_some_iff] at hr ⊢; obtain ⟨q, h1, h2⟩ := hr; exact ⟨q, runOps_le h _ _ _ _ h1, h2⟩
  | draw ops => intro ρ H r hr; simp only [evalC, Option.map_eq_some_iff] at hr ⊢; obtain ⟨q, h1, h2⟩ := hr; exact ⟨q, runD_le h _ _ _ _ h1, h2⟩
  | seq a b iha ihb =>
    intro ρ H r hr
    simp only [evalC] at hr ⊢
    cases ha : evalC C n a ρ H with
    | none => rw [ha] at hr; cases hr
    | some q =>
      rw [iha _ _ _ ha]
      rw [ha] at hr
      obtain ⟨e, ρ1, H1⟩ := q
      cases e with
      | normal => exact ihb _ _ _ hr
      | exit id => exact hr
      | ret => exact hr
      | goto l => exact hr
  | cond c a b iha ihb =>
    intro ρ H r hr
    simp only [evalC] at hr ⊢
    split at hr
    · split at hr
      · rename_i ht; rw [if_pos ht]; exact iha _ _ _ hr
      · rename_i ht; rw [if_neg ht]; exact ihb _ _ _ hr
    · cases hr
  | block id b ih =>
    intro ρ H r hr
    simp only [evalC] at hr ⊢
    cases hb : evalC C n b ρ H with
    | none => rw [hb] at hr; cases hr
    | some q => rw [ih _ _ _ hb]; rw [hb] at hr; exact hr
  | loop b ih => intro ρ H r hr; simp only [evalC] at hr ⊢; exact iterC_le ih _ _ hnm _ _ _ hr
  | exit id => intro ρ H r hr; exact hr
  | ret => intro ρ H r hr; exact hr
  | label l => intro ρ H r hr; exact hr
  | goto l => intro ρ H r hr; exact hr
  | scope l b rest ihb ihr => intro ρ H r hr; simp only [evalC] at hr ⊢; exact jmp_le (iterJ_le ihr n m hnm) (ihb ρ H) hr
theorem callN_le (prog : Nat → Option RFunc) : ∀ (n m : Nat), n ≤ m → CLe (callN prog n) (callN prog m) := by
  intro n
  induction n with
  | zero => intro m _ f args H r h; cases h
  | succ n ih =>
    intro m hm f args H r h
    obtain ⟨m, rfl⟩ : ∃ k, m = k + 1 := ⟨m - 1, by omega⟩
    simp only [callN] at h ⊢
    split at h
    · rename_i hn; rw [if_pos hn]; exact h
    rename_i hn
    rw [if_neg hn]
    simp only [Option.bind_eq_some_iff] at h ⊢
    obtain ⟨rf, h1, h2⟩ := h
    refine ⟨rf, h1, ?_⟩
    split at h2
    · rename_i hl
      rw [if_pos hl]
      simp only [Option.bind_eq_some_iff] at h2 ⊢
      obtain ⟨q, h3, h4⟩ := h2
      exact ⟨q, evalC_le (ih m (by omega)) (by omega) _ _ _ _ h3, h4⟩
    · cases h2
end Go.Proofs.Ytoknmodbdlfdmaa.Sim
