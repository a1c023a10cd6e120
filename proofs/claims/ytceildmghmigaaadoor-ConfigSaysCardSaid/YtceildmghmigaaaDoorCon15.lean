/- The document's CheckConfig: what comes behind the numbers. -/
import Derived.Test.YtceildmghmigaaaDoorCon14
import Derived.Test.YtceildmghmigaaaDoorSim21
namespace Go.Proofs.YtceildmghmigaaaDoor.Sim
open Go
set_option linter.unusedSimpArgs false
set_option linter.unusedVariables false
theorem first_or (P : Nat → Prop) (N : Nat) : (∀ j, 0 ≤ j → j < N → P j) ∨ ∃ j, j < N ∧ ¬ P j ∧ ∀ i, 0 ≤ i → i < j → P i := by
  induction N with
  | zero => exact .inl (fun j _ h => by omega)
  | succ N ih =>
    rcases ih with h | ⟨j, h1, h2, h3⟩
    · by_cases hp : P N
      · exact .inl (fun j h0 hj => by
          by_cases e : j = N
          · rw [e]; exact hp
          · exact h j h0 (by omega))
      · exact .inr ⟨N, by omega, hp, fun i _ hi => h i (Nat.zero_le _) hi⟩
    · exact .inr ⟨j, by omega, h2, h3⟩
def okB (x : Bd) : Prop := x.2.1 ≤ x.1 ∧ x.1 ≤ x.2.2
theorem fbk_at : ∀ (l : List Bd) (k j : Nat), j < l.length → ¬ okB (l.getD j (0, 0, 0)) → (∀ i, i < j → okB (l.getD i (0, 0, 0))) → fbk k l = some (k + j) := by
  intro l
  induction l with
  | nil => intro k j h; simp at h
  | cons x l ih =>
    intro k j h h1 h2
    unfold fbk
    cases j with
    | zero => rw [if_neg (show ¬ (x.2.1 ≤ x.1 ∧ x.1 ≤ x.2.2) from h1)]; rfl
    | succ j =>
      rw [if_pos (show x.2.1 ≤ x.1 ∧ x.1 ≤ x.2.2 from h2 0 (by omega))]
      have := ih (k + 1) j (by simpa using h) (by simpa using h1) (fun i hi => by simpa using h2 (i + 1) (by omega))
      rw [this]
      congr 1
      omega
def tC : RCode := (.seq (.seq (.region c14_24) (.cond (.tmp 161) (.seq (.region c14_25) .ret) .skip)) (.seq (.seq (.region c14_26) (.cond (.tmp 165) (.seq (.region c14_27) .ret) .skip)) (.seq (.seq (.region c14_28) (.block 6 (.loop l14_3))) (.seq (.region c14_34) .ret))))
def cC (c : Cf) (k : List Fd) : Int := if ¬ (c.imax ≤ c.margin ∧ c.margin ≤ 1073741824) then 26 else if (∀ x ∈ k, okF x) ∧ k.length ≤ 16 then 0 else 27
theorem tailC_f (c : Cf) (hk : c.ok) (k : List Fd) (hkl : k.length ≤ 1000) (H : Heap) (hfs : FS H c.f k) (p : Nat) (kp : live H p = some ⟨true, 26, c.L⟩) (ρ : Fr) (q1 : ρ 1 = .pointer (some ⟨p, 0, none⟩)) (q3 : ρ 3 = .int .i64 1073741824) : ∃ F, done [.tmp 2] (E Tryd.prog hints tC ρ H) = some (.int .i64 (cC c k), F) ∧ Ext H F := by
  have ip := live_ltG kp
  have c25 : c.L[25]? = some (.int .i64 c.margin) := rfl
  have c7 : c.L[7]? = some (.int .i64 c.imax) := rfl
  have c26 : c.L[26]? = some c.f := rfl
  have hf1 := hk.f1
  have lf := hfs.len
  have eb := fun F => bound_f2 c.margin c.imax 1073741824 F
  unfold cC
  by_cases c1 : c.imax ≤ c.margin ∧ c.margin ≤ 1073741824
  case neg =>
    rw [decide_eq_false c1] at eb
    rw [if_pos c1]
    refine ⟨H, ?_, Ext.refl H⟩
    simp (maxDischargeDepth := 8) only [tC, c14_24, c14_25, q1, q3, kp, ip, c25, c7, eb, RUN, Ed, knd, kndR, resV, binInt, mnmxV, mnmx2, fillL, unV, lenV, extractV, partV, loadAt, Nat.reduceAdd, Nat.reduceBEq, Nat.reduceEqDiff, Nat.reduceLT, Nat.reduceLeDiff, Nat.reduceMul, Nat.reduceSub, reduceIte, Int.reduceEq, Int.reduceNe, Int.reduceLT, Int.reduceLE, Int.reduceAdd, Int.reduceSub, Int.reduceMul, Int.reduceNeg, Int.reduceMod, Int.reduceDiv, Int.reduceTMod, Int.reduceTDiv, Int.reduceToNat, okChain_i, okLoads_nil, okLoads_in, okLoads_eq]
  rw [decide_eq_true c1] at eb
  rw [if_neg (fun h => h c1)]
  by_cases c2 : 16 < k.length
  · have d2 : (16 : Int) < (k.length : Int) := by omega
    rw [if_neg (fun h => by have := h.2; omega)]
    refine ⟨H, ?_, Ext.refl H⟩
    simp (maxDischargeDepth := 8) only [tC, c14_24, c14_25, c14_26, c14_27, q1, q3, kp, ip, c25, c7, c26, hf1, lf, d2, eb, RUN, Ed, knd, kndR, resV, binInt, mnmxV, mnmx2, fillL, unV, extractV, partV, loadAt, Nat.reduceAdd, Nat.reduceBEq, Nat.reduceEqDiff, Nat.reduceLT, Nat.reduceLeDiff, Nat.reduceMul, Nat.reduceSub, reduceIte, Int.reduceEq, Int.reduceNe, Int.reduceLT, Int.reduceLE, Int.reduceAdd, Int.reduceSub, Int.reduceMul, Int.reduceNeg, Int.reduceMod, Int.reduceDiv, Int.reduceTMod, Int.reduceTDiv, Int.reduceToNat, okChain_i, okLoads_nil, okLoads_in, okLoads_eq]
  have d2 : ¬ (16 : Int) < (k.length : Int) := by omega
  have key : ∀ ρ0, ρ0 1 = .pointer (some ⟨p, 0, none⟩) → ρ0 3 = .int .i64 1073741824 → ρ0 12 = .int .i64 (0 : Nat) → ∃ F, done [.tmp 2] (andThen (blk 6 (E Tryd.prog hints (.loop l14_3) ρ0 H)) (E Tryd.prog hints (.seq (.region c14_34) .ret))) = some (.int .i64 (if (∀ x ∈ k, okF x) ∧ k.length ≤ 16 then 0 else 27), F) ∧ Ext H F := by
    intro ρ0 r1 r3 r12
    obtain ⟨s1, s2⟩ := loop14d H c hf1 k hkl hfs p kp ρ0 r1 r3 r12
    rcases first_or (fun j => okF (k.getD j (0, 0, 0))) k.length with h | ⟨j, h1, h2, h3⟩
    · obtain ⟨ρ', F, e, hF⟩ := s1 h
      rw [e]
      have hall : ∀ x ∈ k, okF x := by
        intro x hx
        obtain ⟨j, hj, rfl⟩ := List.getElem_of_mem hx
        have := h j (Nat.zero_le _) hj
        rw [List.getD_eq_getElem?_getD, List.getElem?_eq_getElem hj] at this
        exact this
      rw [if_pos ⟨hall, by omega⟩]
      refine ⟨F, ?_, hF⟩
      simp (maxDischargeDepth := 8) only [c14_34, RUN, Ed, knd, kndR, resV, binInt, mnmxV, mnmx2, fillL, unV, lenV, extractV, partV, loadAt, Nat.reduceAdd, Nat.reduceBEq, Nat.reduceEqDiff, Nat.reduceLT, Nat.reduceLeDiff, Nat.reduceMul, Nat.reduceSub, reduceIte, Int.reduceEq, Int.reduceNe, Int.reduceLT, Int.reduceLE, Int.reduceAdd, Int.reduceSub, Int.reduceMul, Int.reduceNeg, Int.reduceMod, Int.reduceDiv, Int.reduceTMod, Int.reduceTDiv, Int.reduceToNat, okChain_i, okLoads_nil, okLoads_in, okLoads_eq]
    · obtain ⟨ρ', F, e, hF, a2⟩ := s2 j (Nat.zero_le _) h1 h2 h3
      rw [e]
      rw [if_neg (fun h => h2 (h.1 _ (by rw [List.getD_eq_getElem?_getD, List.getElem?_eq_getElem h1]; exact List.getElem_mem h1)))]
      refine ⟨F, ?_, hF⟩
      simp (maxDischargeDepth := 8) only [a2, RUN, Ed, knd, kndR, resV, binInt, mnmxV, mnmx2, fillL, unV, lenV, extractV, partV, loadAt, Nat.reduceAdd, Nat.reduceBEq, Nat.reduceEqDiff, Nat.reduceLT, Nat.reduceLeDiff, Nat.reduceMul, Nat.reduceSub, reduceIte, Int.reduceEq, Int.reduceNe, Int.reduceLT, Int.reduceLE, Int.reduceAdd, Int.reduceSub, Int.reduceMul, Int.reduceNeg, Int.reduceMod, Int.reduceDiv, Int.reduceTMod, Int.reduceTDiv, Int.reduceToNat, okChain_i, okLoads_nil, okLoads_in, okLoads_eq]
  simp (maxDischargeDepth := 8) only [tC, c14_24, c14_25, c14_26, c14_27, c14_28, q1, q3, kp, ip, c25, c7, c26, hf1, lf, d2, eb, RUN, Ed, knd, kndR, resV, binInt, mnmxV, mnmx2, fillL, unV, extractV, partV, loadAt, Nat.reduceAdd, Nat.reduceBEq, Nat.reduceEqDiff, Nat.reduceLT, Nat.reduceLeDiff, Nat.reduceMul, Nat.reduceSub, reduceIte, Int.reduceEq, Int.reduceNe, Int.reduceLT, Int.reduceLE, Int.reduceAdd, Int.reduceSub, Int.reduceMul, Int.reduceNeg, Int.reduceMod, Int.reduceDiv, Int.reduceTMod, Int.reduceTDiv, Int.reduceToNat, okChain_i, okLoads_nil, okLoads_in, okLoads_eq]
  refine key _ ?_ ?_ ?_
  all_goals first | (simp (maxDischargeDepth := 8) only [q1, q3, RUN, Ed, knd, kndR, resV, binInt, mnmxV, mnmx2, fillL, unV, lenV, extractV, partV, loadAt, Nat.reduceAdd, Nat.reduceBEq, Nat.reduceEqDiff, Nat.reduceLT, Nat.reduceLeDiff, Nat.reduceMul, Nat.reduceSub, reduceIte, Int.reduceEq, Int.reduceNe, Int.reduceLT, Int.reduceLE, Int.reduceAdd, Int.reduceSub, Int.reduceMul, Int.reduceNeg, Int.reduceMod, Int.reduceDiv, Int.reduceTMod, Int.reduceTDiv, Int.reduceToNat, okChain_i, okLoads_nil, okLoads_in, okLoads_eq]; done) | (simp (maxDischargeDepth := 8) only [q1, q3, RUN, Ed, knd, kndR, resV, binInt, mnmxV, mnmx2, fillL, unV, lenV, extractV, partV, loadAt, Nat.reduceAdd, Nat.reduceBEq, Nat.reduceEqDiff, Nat.reduceLT, Nat.reduceLeDiff, Nat.reduceMul, Nat.reduceSub, reduceIte, Int.reduceEq, Int.reduceNe, Int.reduceLT, Int.reduceLE, Int.reduceAdd, Int.reduceSub, Int.reduceMul, Int.reduceNeg, Int.reduceMod, Int.reduceDiv, Int.reduceTMod, Int.reduceTDiv, Int.reduceToNat, okChain_i, okLoads_nil, okLoads_in, okLoads_eq]; rfl)
def gens (c : Cf) : List Int := [c.gen, c.bat, c.ext, c.eland]
def tB2 : RCode := (.seq (.region c14_18) (.seq (.seq (.region c14_19) (.block 4 (.loop l14_2))) tC))
def eR (c : Cf) (k : List Fd) : Int := match fbk 0 (eds c) with
  | some j => (22 + j : Nat)
  | none => if (∀ z ∈ k, okF z) ∧ k.length ≤ 16 then 0 else 27
theorem tailB2_f (c : Cf) (hk : c.ok) (k : List Fd) (hkl : k.length ≤ 1000) (H : Heap) (hfs : FS H c.f k) (p : Nat) (kp : live H p = some ⟨true, 26, c.L⟩) (ρ : Fr) (q1 : ρ 1 = .pointer (some ⟨p, 0, none⟩)) (q3 : ρ 3 = .int .i64 1073741824) : ∃ F, done [.tmp 2] (E Tryd.prog hints tB2 ρ H) = some (.int .i64 (eR c k), F) ∧ Ext H F := by
  have ip := live_ltG kp
  have c21 : c.L[21]? = some (.int .i64 c.gen) := rfl
  have c22 : c.L[22]? = some (.int .i64 c.bat) := rfl
  have c23 : c.L[23]? = some (.int .i64 c.ext) := rfl
  have c24 : c.L[24]? = some (.int .i64 c.eland) := rfl
  obtain ⟨G, hG⟩ : ∃ G, G = H ++ [some ⟨true, 2, [.int .i64 c.gen, .int .i64 c.bat, .int .i64 c.ext, .int .i64 c.eland]⟩] := ⟨_, rfl⟩
  have yG : Ext H G := ⟨_, hG⟩
  have hT : TS G (.slice (some ⟨H.length, 0, none⟩) 4 1) (gens c) := ⟨H.length, 1, true, 2, rfl, by rw [hG]; exact (live_app_len _ _).trans rfl⟩
  have e4 : ∀ j, j < 4 → (eds c).getD j (0, 0, 0) = ((gens c).getD j 0, 0, 1073741824) := by
    intro j hj
    match j, hj with
    | 0, _ => rfl
    | 1, _ => rfl
    | 2, _ => rfl
    | 3, _ => rfl
  have key : ∀ ρ0, ρ0 1 = .pointer (some ⟨p, 0, none⟩) → ρ0 3 = .int .i64 1073741824 → ρ0 10 = .slice (some ⟨H.length, 0, none⟩) 4 1 → ρ0 11 = .int .i64 (0 : Nat) → ∃ F, done [.tmp 2] (andThen (blk 4 (E Tryd.prog hints (.loop l14_2) ρ0 G)) (E Tryd.prog hints tC)) = some (.int .i64 (eR c k), F) ∧ Ext H F := by
    intro ρ0 r1 r3 r10 r11
    obtain ⟨s1, s2⟩ := loop14c G _ (gens c) rfl hT ρ0 r3 r10 r11
    rcases first_or (ok4 (gens c)) 4 with h | ⟨j, h1, h2, h3⟩
    · obtain ⟨ρ', F, e, rfl⟩ := s1 h
      have a1 := (E_keep (t := 1) e rfl).trans r1
      have a3 := (E_keep (t := 3) e rfl).trans r3
      obtain ⟨F', e', y'⟩ := tailC_f c hk k hkl F (hfs.ext yG) p (yG.live kp) ρ' a1 a3
      rw [e, blk_x, if_pos rfl, andThen_n, e']
      refine ⟨F', ?_, yG.trans y'⟩
      congr 3
      unfold cC eR
      by_cases c1 : c.imax ≤ c.margin ∧ c.margin ≤ 1073741824
      · have hn : fbk 0 (eds c) = none := by
          apply fbk_none
          have h0 := h 0 (by omega) (by omega)
          have h1 := h 1 (by omega) (by omega)
          have h2 := h 2 (by omega) (by omega)
          have h3 := h 3 (by omega) (by omega)
          simp only [ok4, gens, List.getD_cons_zero, List.getD_cons_succ] at h0 h1 h2 h3
          simp only [eds, List.mem_cons, List.not_mem_nil, or_false, forall_eq_or_imp, forall_eq]
          omega
        rw [if_neg (fun h => h c1), hn]
      · have hn : fbk 0 (eds c) = some 4 := by
          have := fbk_at (eds c) 0 4 (show 4 < 5 by omega) c1 (fun i hi => by rw [e4 i hi]; exact h i (Nat.zero_le _) hi)
          simpa using this
        rw [if_pos c1, hn]
        rfl
    · obtain ⟨ρ', F, e, rfl, a2⟩ := s2 j (Nat.zero_le _) h1 h2 h3
      rw [e]
      have hn : fbk 0 (eds c) = some j := by
        have := fbk_at (eds c) 0 j (by show j < 5; omega) (by rw [e4 j h1]; exact h2) (fun i hi => by rw [e4 i (by omega)]; exact h3 i (Nat.zero_le _) hi)
        simpa using this
      refine ⟨F, ?_, yG⟩
      unfold eR
      rw [hn]
      simp (maxDischargeDepth := 8) only [a2, Nat.add_comm j 22, RUN, Ed, knd, kndR, resV, binInt, mnmxV, mnmx2, fillL, unV, lenV, extractV, partV, loadAt, Nat.reduceAdd, Nat.reduceBEq, Nat.reduceEqDiff, Nat.reduceLT, Nat.reduceLeDiff, Nat.reduceMul, Nat.reduceSub, reduceIte, Int.reduceEq, Int.reduceNe, Int.reduceLT, Int.reduceLE, Int.reduceAdd, Int.reduceSub, Int.reduceMul, Int.reduceNeg, Int.reduceMod, Int.reduceDiv, Int.reduceTMod, Int.reduceTDiv, Int.reduceToNat, okChain_i, okLoads_nil, okLoads_in, okLoads_eq]
  simp (maxDischargeDepth := 8) only [tB2, c14_18, c14_19, q1, q3, kp, ip, c21, c22, c23, c24, fillL, ← hG, RUN, Ed, knd, kndR, resV, binInt, mnmxV, mnmx2, fillL, unV, lenV, extractV, partV, loadAt, Nat.reduceAdd, Nat.reduceBEq, Nat.reduceEqDiff, Nat.reduceLT, Nat.reduceLeDiff, Nat.reduceMul, Nat.reduceSub, reduceIte, Int.reduceEq, Int.reduceNe, Int.reduceLT, Int.reduceLE, Int.reduceAdd, Int.reduceSub, Int.reduceMul, Int.reduceNeg, Int.reduceMod, Int.reduceDiv, Int.reduceTMod, Int.reduceTDiv, Int.reduceToNat, okChain_i, okLoads_nil, okLoads_in, okLoads_eq]
  refine key _ ?_ ?_ ?_ ?_
  all_goals first | (simp (maxDischargeDepth := 8) only [q1, q3, RUN, Ed, knd, kndR, resV, binInt, mnmxV, mnmx2, fillL, unV, lenV, extractV, partV, loadAt, Nat.reduceAdd, Nat.reduceBEq, Nat.reduceEqDiff, Nat.reduceLT, Nat.reduceLeDiff, Nat.reduceMul, Nat.reduceSub, reduceIte, Int.reduceEq, Int.reduceNe, Int.reduceLT, Int.reduceLE, Int.reduceAdd, Int.reduceSub, Int.reduceMul, Int.reduceNeg, Int.reduceMod, Int.reduceDiv, Int.reduceTMod, Int.reduceTDiv, Int.reduceToNat, okChain_i, okLoads_nil, okLoads_in, okLoads_eq]; done) | (simp (maxDischargeDepth := 8) only [q1, q3, RUN, Ed, knd, kndR, resV, binInt, mnmxV, mnmx2, fillL, unV, lenV, extractV, partV, loadAt, Nat.reduceAdd, Nat.reduceBEq, Nat.reduceEqDiff, Nat.reduceLT, Nat.reduceLeDiff, Nat.reduceMul, Nat.reduceSub, reduceIte, Int.reduceEq, Int.reduceNe, Int.reduceLT, Int.reduceLE, Int.reduceAdd, Int.reduceSub, Int.reduceMul, Int.reduceNeg, Int.reduceMod, Int.reduceDiv, Int.reduceTMod, Int.reduceTDiv, Int.reduceToNat, okChain_i, okLoads_nil, okLoads_in, okLoads_eq]; rfl)
end Go.Proofs.YtceildmghmigaaaDoor.Sim
