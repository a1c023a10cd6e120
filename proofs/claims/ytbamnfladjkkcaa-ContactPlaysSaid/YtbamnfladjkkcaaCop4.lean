/- ContactPlays over the plain heap: a cycle, and all of them. -/
import Derived.Test.YtbamnfladjkkcaaCop3
import Derived.Test.YtbamnfladjkkcaaSim21
namespace Go.Proofs.Ytbamnfladjkkcaa.Sim
open Go
set_option linter.unusedSimpArgs false
set_option linter.unusedVariables false
theorem cycB (H : Heap) (v u : Value) (A : List Do3) (hA : DoS H v A) (p q : Nat) (hpq : p ≠ q) (hpo : ∀ ty cells, live H p ≠ some ⟨false, ty, cells⟩) (hqo : ∀ ty cells, live H q ≠ some ⟨false, ty, cells⟩) (k : Nat) (hk : k ≤ 900) (a : Do3) (ha : A[k]? = some a) (seen : Bool) (x : CS) (ρ : Fr) (G : Heap) (hs : S3 v u p q k ρ) (hm : M3 H p q k seen x G) :
    ∃ ρ' G', E Try.prog hints pB ρ G = some (.normal, ρ', G') ∧ S3 v u p q k ρ' ∧ ∃ x', M3 H p q (k + 1) true x' G' := by
  obtain ⟨q2, q3, q9, q10, q11, q12⟩ := hs
  obtain ⟨i, e1, ty, cells, e2, e3, e4, e5⟩ := hA.idx ha
  obtain ⟨cmd, fresh, rd⟩ := a
  simp only [d3L] at e4 e5
  obtain ⟨ci, kp, kq, old⟩ := hm
  have hip : i ≠ p := by rintro rfl; exact hpo _ _ e2
  have hiq : i ≠ q := by rintro rfl; exact hqo _ _ e2
  have f0 := old i _ hip hiq e2
  have i0 := live_lt f0
  have ip := live_lt kp
  have iq := live_lt kq
  have eb := fun F => back_f cmd fresh rd F
  obtain ⟨X, hX⟩ : ∃ X : Heap, X = [some ⟨true, 34, [.bool cmd, .bool fresh, .bool rd]⟩, some ⟨true, 36, [.int .i64 (rv rd), .bool fresh]⟩, some ⟨true, 36, [.int .i64 (rv rd), .bool fresh]⟩] := ⟨_, rfl⟩
  have s1 := step_f_all p x k (by omega) ci cmd fresh rd (G ++ X) (live_more0 kp X)
  obtain ⟨G1, hG1⟩ : ∃ G1, G1 = (G ++ X).set p (some ⟨true, 80, (stp x cmd fresh rd).I⟩) ++ [some ⟨true, 36, [.int .i64 (rv rd), .bool fresh]⟩] := ⟨_, rfl⟩
  rw [← hG1] at s1
  have g1 : ∀ (j : Nat) (b : Blk), live G j = some b → j ≠ p → live G1 j = some b := fun j b h hj => by
    rw [hG1]; exact live_more0 (by rw [live_set_ne _ _ _ _ (by omega)]; exact live_more0 h X) _
  have kp1 : live G1 p = some ⟨true, 80, (stp x cmd fresh rd).I⟩ := by rw [hG1]; exact live_more0 (live_set_eq _ _ _ (live_lt (live_more0 kp X))) _
  have kq1 := g1 _ _ kq hpq.symm
  have f1 := g1 _ _ f0 hip
  have i1 := live_lt f1
  have iq1 := live_lt kq1
  have s2 := stepR_f_all q x k (by omega) ci seen cmd fresh rd (G1 ++ X) (live_more0 kq1 X)
  obtain ⟨G2, hG2⟩ : ∃ G2, G2 = (G1 ++ X).set q (some ⟨true, 31, (stp x cmd fresh rd).R true⟩) ++ [some ⟨true, 36, [.int .i64 (rv rd), .bool fresh]⟩] := ⟨_, rfl⟩
  rw [← hG2] at s2
  have g2 : ∀ (j : Nat) (b : Blk), live G1 j = some b → j ≠ q → live G2 j = some b := fun j b h hj => by
    rw [hG2]; exact live_more0 (by rw [live_set_ne _ _ _ _ (by omega)]; exact live_more0 h X) _
  have kp2 := g2 _ _ kp1 hpq
  have kq2 : live G2 q = some ⟨true, 31, (stp x cmd fresh rd).R true⟩ := by rw [hG2]; exact live_more0 (live_set_eq _ _ _ (live_lt (live_more0 kq1 X))) _
  have c2 := ci.stp cmd fresh rd
  have hM : M3 H p q (k + 1) true (stp x cmd fresh rd) G2 := ⟨c2, kp2, kq2, fun j b h1 h2 h => g2 _ _ (g1 _ _ (old j b h1 h2 h) h1) h2⟩
  have o1 := open_f p _ G2 kp2
  have o2 := openR_f q _ G2 kq2
  have o3 := closed_f p _ G2 kp2
  have o4 := closedR_f q _ G2 kq2
  have o5 := jam_f p _ G2 kp2
  have iq2 := live_lt kq2
  have bself : ∀ b : Bool, (b == b) = true := fun b => by simp
  obtain ⟨y, hy⟩ : ∃ y, y = stp x cmd fresh rd := ⟨_, rfl⟩
  rw [← hy] at o1 o2 o3 o4 o5 kq2 hM
  clear hG1 hG2 kp1 kp2 c2 hy
  have kq2' := kq2
  simp only [CS.R] at kq2'
  rw [hX] at s1 s2
  have oG1 := fun F : Heap => (rfl : F = F)
  refine ⟨?ρ1, G2, ?run1, ⟨?_, ?_, ?_, ?_, ?_, ?_⟩, y, hM⟩
  case run1 =>
    simp (maxDischargeDepth := 8) only [pB, c3_16, c3_17, c3_18, c3_19, q2, q3, q9, q10, q11, q12, e1, f0, i0, e3, e4, e5, eb, s1, f1, i1, s2, o1, o2, o3, o4, o5, kq2', iq2, bself, Nat.add_zero, RUN, Ed, knd, kndR, resV, binInt, mnmxV, mnmx2, fillL, unV, lenV, extractV, partV, loadAt, Nat.reduceAdd, Nat.reduceBEq, Nat.reduceEqDiff, Nat.reduceLT, Nat.reduceLeDiff, Nat.reduceMul, Nat.reduceSub, reduceIte, Int.reduceEq, Int.reduceNe, Int.reduceLT, Int.reduceLE, Int.reduceAdd, Int.reduceSub, Int.reduceMul, Int.reduceNeg, Int.reduceMod, Int.reduceDiv, Int.reduceTMod, Int.reduceTDiv, Int.reduceToNat, okChain_i, okLoads_nil, okLoads_in, okLoads_eq]
    rfl
  all_goals simp (maxDischargeDepth := 8) only [q2, q3, q9, q10, q11, q12, RUN, Ed, knd, kndR, resV, binInt, mnmxV, mnmx2, fillL, unV, lenV, extractV, partV, loadAt, Nat.reduceAdd, Nat.reduceBEq, Nat.reduceEqDiff, Nat.reduceLT, Nat.reduceLeDiff, Nat.reduceMul, Nat.reduceSub, reduceIte, Int.reduceEq, Int.reduceNe, Int.reduceLT, Int.reduceLE, Int.reduceAdd, Int.reduceSub, Int.reduceMul, Int.reduceNeg, Int.reduceMod, Int.reduceDiv, Int.reduceTMod, Int.reduceTDiv, Int.reduceToNat, okChain_i, okLoads_nil, okLoads_in, okLoads_eq]
theorem round3 (H : Heap) (v u : Value) (A : List Do3) (hA : DoS H v A) (T : List Int) (hT : TS H u T) (p q : Nat) (hpq : p ≠ q) (hpo : ∀ ty cells, live H p ≠ some ⟨false, ty, cells⟩) (hqo : ∀ ty cells, live H q ≠ some ⟨false, ty, cells⟩) (k : Nat) (hk : k ≤ 900) (a : Do3) (ha : A[k]? = some a) (ρ : Fr) (G : Heap) (hs : S3 v u p q k ρ) (hm : ∃ seen x, M3 H p q k seen x G) :
    ∃ ρ' G', E Try.prog hints l3_0 ρ G = some (.normal, ρ', G') ∧ S3 v u p q (k + 1) ρ' ∧ ∃ seen x, M3 H p q (k + 1) seen x G' := by
  obtain ⟨seen, x, hm⟩ := hm
  have l1 := hA.len
  have hkA : k < A.length := by
    rcases Nat.lt_or_ge k A.length with q | q
    · exact q
    · rw [List.getElem?_eq_none q] at ha; cases ha
  have hlt : (k : Int) < (A.length : Int) := by omega
  have w := wrap64 ((k : Int) + 1) (by omega) (by omega)
  have key : ∀ ρ1, S3 v u p q k ρ1 → ∃ ρ' G', andThen (blk 1 (andThen (E Try.prog hints pA ρ1 G) (E Try.prog hints pB))) (E Try.prog hints (.region c3_21)) = some (.normal, ρ', G') ∧ S3 v u p q (k + 1) ρ' ∧ ∃ seen x, M3 H p q (k + 1) seen x G' := by
    intro ρ1 hs1
    obtain ⟨ρ2, G2, e2, s2, x2, m2⟩ := setA H v u T hT p q hpq hpo hqo k seen x ρ1 G hs1 hm
    obtain ⟨ρ3, G3, e3, s3, x3, m3⟩ := cycB H v u A hA p q hpq hpo hqo k hk a ha seen x2 ρ2 G2 s2 m2
    rw [e2, andThen_n, e3]
    obtain ⟨q2, q3, q9, q10, q11, q12⟩ := s3
    refine ⟨?ρ4, G3, ?run4, ⟨?_, ?_, ?_, ?_, ?_, ?_⟩, true, x3, m3⟩
    case run4 =>
      simp (maxDischargeDepth := 8) only [c3_21, q12, w, RUN, Ed, knd, kndR, resV, binInt, mnmxV, mnmx2, fillL, unV, lenV, extractV, partV, loadAt, Nat.reduceAdd, Nat.reduceBEq, Nat.reduceEqDiff, Nat.reduceLT, Nat.reduceLeDiff, Nat.reduceMul, Nat.reduceSub, reduceIte, Int.reduceEq, Int.reduceNe, Int.reduceLT, Int.reduceLE, Int.reduceAdd, Int.reduceSub, Int.reduceMul, Int.reduceNeg, Int.reduceMod, Int.reduceDiv, Int.reduceTMod, Int.reduceTDiv, Int.reduceToNat, okChain_i, okLoads_nil, okLoads_in, okLoads_eq]
      rfl
    all_goals first | (simp (maxDischargeDepth := 8) only [q2, q3, q9, q10, q11, q12, RUN, Ed, knd, kndR, resV, binInt, mnmxV, mnmx2, fillL, unV, lenV, extractV, partV, loadAt, Nat.reduceAdd, Nat.reduceBEq, Nat.reduceEqDiff, Nat.reduceLT, Nat.reduceLeDiff, Nat.reduceMul, Nat.reduceSub, reduceIte, Int.reduceEq, Int.reduceNe, Int.reduceLT, Int.reduceLE, Int.reduceAdd, Int.reduceSub, Int.reduceMul, Int.reduceNeg, Int.reduceMod, Int.reduceDiv, Int.reduceTMod, Int.reduceTDiv, Int.reduceToNat, okChain_i, okLoads_nil, okLoads_in, okLoads_eq]; done) | (simp (maxDischargeDepth := 8) only [q2, q3, q9, q10, q11, q12, RUN, Ed, knd, kndR, resV, binInt, mnmxV, mnmx2, fillL, unV, lenV, extractV, partV, loadAt, Nat.reduceAdd, Nat.reduceBEq, Nat.reduceEqDiff, Nat.reduceLT, Nat.reduceLeDiff, Nat.reduceMul, Nat.reduceSub, reduceIte, Int.reduceEq, Int.reduceNe, Int.reduceLT, Int.reduceLE, Int.reduceAdd, Int.reduceSub, Int.reduceMul, Int.reduceNeg, Int.reduceMod, Int.reduceDiv, Int.reduceTMod, Int.reduceTDiv, Int.reduceToNat, okChain_i, okLoads_nil, okLoads_in, okLoads_eq]; rfl)
  obtain ⟨q2, q3, q9, q10, q11, q12⟩ := hs
  rw [l3t]
  simp (maxDischargeDepth := 8) only [c3_11, q2, q3, q9, q10, q11, q12, l1, hlt, RUN, Ed, knd, kndR, resV, binInt, mnmxV, mnmx2, fillL, unV, extractV, partV, loadAt, Nat.reduceAdd, Nat.reduceBEq, Nat.reduceEqDiff, Nat.reduceLT, Nat.reduceLeDiff, Nat.reduceMul, Nat.reduceSub, reduceIte, Int.reduceEq, Int.reduceNe, Int.reduceLT, Int.reduceLE, Int.reduceAdd, Int.reduceSub, Int.reduceMul, Int.reduceNeg, Int.reduceMod, Int.reduceDiv, Int.reduceTMod, Int.reduceTDiv, Int.reduceToNat, okChain_i, okLoads_nil, okLoads_in, okLoads_eq]
  refine key _ ⟨?_, ?_, ?_, ?_, ?_, ?_⟩
  all_goals simp (maxDischargeDepth := 8) only [q2, q3, q9, q10, q11, q12, RUN, Ed, knd, kndR, resV, binInt, mnmxV, mnmx2, fillL, unV, lenV, extractV, partV, loadAt, Nat.reduceAdd, Nat.reduceBEq, Nat.reduceEqDiff, Nat.reduceLT, Nat.reduceLeDiff, Nat.reduceMul, Nat.reduceSub, reduceIte, Int.reduceEq, Int.reduceNe, Int.reduceLT, Int.reduceLE, Int.reduceAdd, Int.reduceSub, Int.reduceMul, Int.reduceNeg, Int.reduceMod, Int.reduceDiv, Int.reduceTMod, Int.reduceTDiv, Int.reduceToNat, okChain_i, okLoads_nil, okLoads_in, okLoads_eq]
def t3 : RCode := .seq (.region c3_22) .ret
theorem b3t : b3 = .seq (.region c3_0) (.seq (.region c3_1) (.seq (.seq (.region c3_2) (.cond (.tmp 17) (.seq (.region c3_3) .ret) .skip)) (.seq (.seq (.region c3_4) (.cond (.tmp 25) (.seq (.region c3_5) .ret) .skip)) (.seq (.region c3_6) (.seq (.region c3_7) (.seq (.seq (.region c3_8) (.cond (.tmp 34) (.seq (.region c3_9) .ret) .skip)) (.seq (.seq (.region c3_10) (.block 0 (.loop l3_0))) t3))))))) := (rfl)
theorem plays (d b : Int) (v u : Value) (A : List Do3) (T : List Int) (H : Heap) (hA : DoS H v A) (hT : TS H u T) : Ok (K 3 [.int .i64 d, .int .i64 b, v, u] H) := by
  obtain ⟨X0, e0⟩ := firstC_f H
  obtain ⟨G, hG⟩ : ∃ G, G = H ++ X0 := ⟨_, rfl⟩
  rw [← hG] at e0
  have hA2 : DoS G v A := by rw [hG]; exact hA.more _
  have hT2 : TS G u T := by rw [hG]; exact hT.more _
  have l1 := hA.len
  have l2 := hT.len
  have e1 := fun F => new_f d b F
  have e2 := fun F => newR_f d b F
  simp only [K] at e1 e2
  rw [K, D_eq p3 _ _ (Nat.le_of_ble_eq_true rfl)]
  by_cases h1 : (200 : Int) < (A.length : Int)
  · simp (maxDischargeDepth := 8) only [r3, b3t, c3_0, c3_1, c3_2, c3_3, c3_4, c3_5, e0, l1, l2, h1, RUN, Ed, knd, kndR, resV, binInt, mnmxV, mnmx2, fillL, unV, extractV, partV, loadAt, Nat.reduceAdd, Nat.reduceBEq, Nat.reduceEqDiff, Nat.reduceLT, Nat.reduceLeDiff, Nat.reduceMul, Nat.reduceSub, reduceIte, Int.reduceEq, Int.reduceNe, Int.reduceLT, Int.reduceLE, Int.reduceAdd, Int.reduceSub, Int.reduceMul, Int.reduceNeg, Int.reduceMod, Int.reduceDiv, Int.reduceTMod, Int.reduceTDiv, Int.reduceToNat, okChain_i, okLoads_nil, okLoads_in, okLoads_eq]
    exact Ok.mk _
  by_cases h2 : (200 : Int) < (T.length : Int)
  · simp (maxDischargeDepth := 8) only [r3, b3t, c3_0, c3_1, c3_2, c3_3, c3_4, c3_5, e0, l1, l2, h1, h2, RUN, Ed, knd, kndR, resV, binInt, mnmxV, mnmx2, fillL, unV, extractV, partV, loadAt, Nat.reduceAdd, Nat.reduceBEq, Nat.reduceEqDiff, Nat.reduceLT, Nat.reduceLeDiff, Nat.reduceMul, Nat.reduceSub, reduceIte, Int.reduceEq, Int.reduceNe, Int.reduceLT, Int.reduceLE, Int.reduceAdd, Int.reduceSub, Int.reduceMul, Int.reduceNeg, Int.reduceMod, Int.reduceDiv, Int.reduceTMod, Int.reduceTDiv, Int.reduceToNat, okChain_i, okLoads_nil, okLoads_in, okLoads_eq]
    exact Ok.mk _
  have hp : live (G ++ [some ⟨true, 80, (new0 d b).I⟩, some ⟨true, 31, (new0 d b).R false⟩]) G.length = some ⟨true, 80, (new0 d b).I⟩ := (live_app_len _ _).trans rfl
  have hq : live (G ++ [some ⟨true, 80, (new0 d b).I⟩, some ⟨true, 31, (new0 d b).R false⟩]) (G.length + 1) = some ⟨true, 31, (new0 d b).R false⟩ := (live_app_add _ _ _).trans rfl
  simp (maxDischargeDepth := 8) only [r3, b3t, c3_0, c3_1, c3_2, c3_3, c3_4, c3_5, c3_6, c3_7, c3_8, c3_9, c3_10, e0, l1, l2, h1, h2, e1, e2, RUN, Ed, knd, kndR, resV, binInt, mnmxV, mnmx2, fillL, unV, extractV, partV, loadAt, Nat.reduceAdd, Nat.reduceBEq, Nat.reduceEqDiff, Nat.reduceLT, Nat.reduceLeDiff, Nat.reduceMul, Nat.reduceSub, reduceIte, Int.reduceEq, Int.reduceNe, Int.reduceLT, Int.reduceLE, Int.reduceAdd, Int.reduceSub, Int.reduceMul, Int.reduceNeg, Int.reduceMod, Int.reduceDiv, Int.reduceTMod, Int.reduceTDiv, Int.reduceToNat, okChain_i, okLoads_nil, okLoads_in, okLoads_eq]
  refine cut_loop (fun ρ F => S3 v u G.length (G.length + 1) 0 ρ ∧ ∃ seen x, M3 (G ++ [some ⟨true, 80, (new0 d b).I⟩, some ⟨true, 31, (new0 d b).R false⟩]) G.length (G.length + 1) 0 seen x F) (fun ρ F => S3 v u G.length (G.length + 1) A.length ρ) ⟨⟨?_, ?_, ?_, ?_, ?_, ?_⟩, false, new0 d b, ⟨CI_new d b, hp, hq, fun j b _ _ h => h⟩⟩ ?_ ?_
  all_goals first | (simp (maxDischargeDepth := 8) only [RUN, Ed, knd, kndR, resV, binInt, mnmxV, mnmx2, fillL, unV, lenV, extractV, partV, loadAt, Nat.reduceAdd, Nat.reduceBEq, Nat.reduceEqDiff, Nat.reduceLT, Nat.reduceLeDiff, Nat.reduceMul, Nat.reduceSub, reduceIte, Int.reduceEq, Int.reduceNe, Int.reduceLT, Int.reduceLE, Int.reduceAdd, Int.reduceSub, Int.reduceMul, Int.reduceNeg, Int.reduceMod, Int.reduceDiv, Int.reduceTMod, Int.reduceTDiv, Int.reduceToNat, okChain_i, okLoads_nil, okLoads_in, okLoads_eq]; done) | (simp (maxDischargeDepth := 8) only [RUN, Ed, knd, kndR, resV, binInt, mnmxV, mnmx2, fillL, unV, lenV, extractV, partV, loadAt, Nat.reduceAdd, Nat.reduceBEq, Nat.reduceEqDiff, Nat.reduceLT, Nat.reduceLeDiff, Nat.reduceMul, Nat.reduceSub, reduceIte, Int.reduceEq, Int.reduceNe, Int.reduceLT, Int.reduceLE, Int.reduceAdd, Int.reduceSub, Int.reduceMul, Int.reduceNeg, Int.reduceMod, Int.reduceDiv, Int.reduceTMod, Int.reduceTDiv, Int.reduceToNat, okChain_i, okLoads_nil, okLoads_in, okLoads_eq]; rfl) | skip
  · rintro ρ F ⟨hs, hm⟩
    obtain ⟨ρ', F', e, h⟩ := loop_inv (fun k ρ F => S3 v u G.length (G.length + 1) k ρ ∧ ∃ seen x, M3 (G ++ [some ⟨true, 80, (new0 d b).I⟩, some ⟨true, 31, (new0 d b).R false⟩]) G.length (G.length + 1) k seen x F) (fun ρ F => S3 v u G.length (G.length + 1) A.length ρ) A.length
      (fun k ρ F hk ⟨hs, hm⟩ => round3 _ v u A (hA2.more _) T (hT2.more _) G.length (G.length + 1) (by omega) (fun ty cells h => by rw [hp] at h; cases h) (fun ty cells h => by rw [hq] at h; cases h) k (by omega) A[k] (List.getElem?_eq_getElem hk) ρ F hs hm)
      (fun ρ F ⟨⟨q2, q3, q9, q10, q11, q12⟩, hm⟩ => by
        have hlt : ¬ ((A.length : Int) < (A.length : Int)) := by omega
        refine ⟨?ρ2, F, ?run2, ?inv2⟩
        case run2 =>
          simp (maxDischargeDepth := 8) only [l3_0, c3_11, q2, q12, l1, hlt, RUN, Ed, knd, kndR, resV, binInt, mnmxV, mnmx2, fillL, unV, extractV, partV, loadAt, Nat.reduceAdd, Nat.reduceBEq, Nat.reduceEqDiff, Nat.reduceLT, Nat.reduceLeDiff, Nat.reduceMul, Nat.reduceSub, reduceIte, Int.reduceEq, Int.reduceNe, Int.reduceLT, Int.reduceLE, Int.reduceAdd, Int.reduceSub, Int.reduceMul, Int.reduceNeg, Int.reduceMod, Int.reduceDiv, Int.reduceTMod, Int.reduceTDiv, Int.reduceToNat, okChain_i, okLoads_nil, okLoads_in, okLoads_eq]
          rfl
        case inv2 => constructor <;> simp (maxDischargeDepth := 8) only [q2, q3, q9, q10, q11, q12, RUN, Ed, knd, kndR, resV, binInt, mnmxV, mnmx2, fillL, unV, lenV, extractV, partV, loadAt, Nat.reduceAdd, Nat.reduceBEq, Nat.reduceEqDiff, Nat.reduceLT, Nat.reduceLeDiff, Nat.reduceMul, Nat.reduceSub, reduceIte, Int.reduceEq, Int.reduceNe, Int.reduceLT, Int.reduceLE, Int.reduceAdd, Int.reduceSub, Int.reduceMul, Int.reduceNeg, Int.reduceMod, Int.reduceDiv, Int.reduceTMod, Int.reduceTDiv, Int.reduceToNat, okChain_i, okLoads_nil, okLoads_in, okLoads_eq]) ρ F ⟨hs, hm⟩
    exact ⟨ρ', F', e, h⟩
  · rintro ρ F ⟨q2, q3, q9, q10, q11, q12⟩
    simp (maxDischargeDepth := 8) only [t3, c3_22, q9, RUN, Ed, knd, kndR, resV, binInt, mnmxV, mnmx2, fillL, unV, lenV, extractV, partV, loadAt, Nat.reduceAdd, Nat.reduceBEq, Nat.reduceEqDiff, Nat.reduceLT, Nat.reduceLeDiff, Nat.reduceMul, Nat.reduceSub, reduceIte, Int.reduceEq, Int.reduceNe, Int.reduceLT, Int.reduceLE, Int.reduceAdd, Int.reduceSub, Int.reduceMul, Int.reduceNeg, Int.reduceMod, Int.reduceDiv, Int.reduceTMod, Int.reduceTDiv, Int.reduceToNat, okChain_i, okLoads_nil, okLoads_in, okLoads_eq]
    exact Ok.mk _
def sh3 : List Sh := [.int .i64, .int .i64, .slice (.agg ((.cons (.bool) (.cons (.bool) (.cons (.bool) .nil))))), .slice (.int .i64)]
theorem plays_law (H : Heap) (ls : List (List Value)) (o : OpnAll H sh3 ls) : Ok (K 3 (argsS sh3 ls) H) := by
  obtain ⟨l0, _, rfl, h0, o⟩ := o.uncons
  obtain ⟨l1, _, rfl, h1, o⟩ := o.uncons
  obtain ⟨l2, _, rfl, h2, o⟩ := o.uncons
  obtain ⟨l3, _, rfl, h3, o⟩ := o.uncons
  cases o.unnil
  obtain ⟨v, A, rfl, hA⟩ := Opn_dos h2
  obtain ⟨u, T, rfl, hT⟩ := Opn_ints h3
  simp only [Opn.eq_1] at h0 h1
  obtain ⟨d, rfl, _⟩ := h0
  obtain ⟨b, rfl, _⟩ := h1
  exact plays d b v u A T H hA hT
end Go.Proofs.Ytbamnfladjkkcaa.Sim
