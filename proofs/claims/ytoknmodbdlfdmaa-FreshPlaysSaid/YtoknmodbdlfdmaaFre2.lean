/- Which channels there are, and what Put does. -/
import Derived.Test.YtoknmodbdlfdmaaFre1
import Derived.Test.YtoknmodbdlfdmaaSim21
namespace Go.Proofs.Ytoknmodbdlfdmaa.Sim
open Go
set_option linter.unusedSimpArgs false
set_option linter.unusedVariables false
theorem of_f (lo hi : Int) (h : lo < hi) (H : Heap) : K 24 [.int .i64 lo, .int .i64 hi] H = some (.agg ⟨[.int .i64 lo, .int .i64 hi]⟩, H ++ [some ⟨true, 50, [.int .i64 lo, .int .i64 hi]⟩]) := by
  have h1 : ¬ hi < lo := by omega
  rw [K, D_eq p24 _ _ (Nat.le_of_ble_eq_true rfl)]
  simp (maxDischargeDepth := 8) only [r24, b24, c24_0, c24_1, h, h1, RUN, Ed, knd, kndR, resV, binInt, mnmxV, mnmx2, fillL, unV, lenV, extractV, partV, loadAt, Nat.reduceAdd, Nat.reduceBEq, Nat.reduceEqDiff, Nat.reduceLT, Nat.reduceLeDiff, Nat.reduceMul, Nat.reduceSub, reduceIte, Int.reduceEq, Int.reduceNe, Int.reduceLT, Int.reduceLE, Int.reduceAdd, Int.reduceSub, Int.reduceMul, Int.reduceNeg, Int.reduceMod, Int.reduceDiv, Int.reduceTMod, Int.reduceTDiv, Int.reduceToNat, okChain_i, okLoads_nil, okLoads_in, okLoads_eq]
def rgS (ch : Int) : Int × Int × Bool := if ch < 1 then (0, 0, false) else if 48 ≤ ch then (0, 0, false) else if 46 ≤ ch then (-500000, 500000, true) else if 30 ≤ ch then (0, 1, true) else if 29 ≤ ch then (0, 127, true) else if 25 ≤ ch then (-30000, 30000, true) else if 23 ≤ ch then (-500, 1500, true) else if 15 ≤ ch then (0, 6000, true) else if 12 ≤ ch then (0, 500000, true) else if 9 ≤ ch then (0, 60000, true) else if 5 ≤ ch then (-500000, 500000, true) else (0, 60000, true)
theorem iv_cases (ch : Int) : (ch ≤ 0) ∨ (1 ≤ ch ∧ ch ≤ 4) ∨ (5 ≤ ch ∧ ch ≤ 8) ∨ (9 ≤ ch ∧ ch ≤ 11) ∨ (12 ≤ ch ∧ ch ≤ 14) ∨ (15 ≤ ch ∧ ch ≤ 22) ∨ (23 ≤ ch ∧ ch ≤ 24) ∨ (25 ≤ ch ∧ ch ≤ 28) ∨ (29 ≤ ch ∧ ch ≤ 29) ∨ (30 ≤ ch ∧ ch ≤ 45) ∨ (46 ≤ ch ∧ ch ≤ 47) ∨ (48 ≤ ch) := by omega
theorem rgS_iv (ch : Int) : (ch ≤ 0 → rgS ch = (0, 0, false)) ∧ (1 ≤ ch ∧ ch ≤ 4 → rgS ch = (0, 60000, true)) ∧ (5 ≤ ch ∧ ch ≤ 8 → rgS ch = (-500000, 500000, true)) ∧ (9 ≤ ch ∧ ch ≤ 11 → rgS ch = (0, 60000, true)) ∧ (12 ≤ ch ∧ ch ≤ 14 → rgS ch = (0, 500000, true)) ∧ (15 ≤ ch ∧ ch ≤ 22 → rgS ch = (0, 6000, true)) ∧ (23 ≤ ch ∧ ch ≤ 24 → rgS ch = (-500, 1500, true)) ∧ (25 ≤ ch ∧ ch ≤ 28 → rgS ch = (-30000, 30000, true)) ∧ (29 ≤ ch ∧ ch ≤ 29 → rgS ch = (0, 127, true)) ∧ (30 ≤ ch ∧ ch ≤ 45 → rgS ch = (0, 1, true)) ∧ (46 ≤ ch ∧ ch ≤ 47 → rgS ch = (-500000, 500000, true)) ∧ (48 ≤ ch → rgS ch = (0, 0, false)) := by
  unfold rgS
  refine ⟨?_, ?_, ?_, ?_, ?_, ?_, ?_, ?_, ?_, ?_, ?_, ?_⟩
  · intro h; rw [if_pos (by omega)]
  · intro h; rw [if_neg (by omega), if_neg (by omega), if_neg (by omega), if_neg (by omega), if_neg (by omega), if_neg (by omega), if_neg (by omega), if_neg (by omega), if_neg (by omega), if_neg (by omega), if_neg (by omega)]
  · intro h; rw [if_neg (by omega), if_neg (by omega), if_neg (by omega), if_neg (by omega), if_neg (by omega), if_neg (by omega), if_neg (by omega), if_neg (by omega), if_neg (by omega), if_neg (by omega), if_pos (by omega)]
  · intro h; rw [if_neg (by omega), if_neg (by omega), if_neg (by omega), if_neg (by omega), if_neg (by omega), if_neg (by omega), if_neg (by omega), if_neg (by omega), if_neg (by omega), if_pos (by omega)]
  · intro h; rw [if_neg (by omega), if_neg (by omega), if_neg (by omega), if_neg (by omega), if_neg (by omega), if_neg (by omega), if_neg (by omega), if_neg (by omega), if_pos (by omega)]
  · intro h; rw [if_neg (by omega), if_neg (by omega), if_neg (by omega), if_neg (by omega), if_neg (by omega), if_neg (by omega), if_neg (by omega), if_pos (by omega)]
  · intro h; rw [if_neg (by omega), if_neg (by omega), if_neg (by omega), if_neg (by omega), if_neg (by omega), if_neg (by omega), if_pos (by omega)]
  · intro h; rw [if_neg (by omega), if_neg (by omega), if_neg (by omega), if_neg (by omega), if_neg (by omega), if_pos (by omega)]
  · intro h; rw [if_neg (by omega), if_neg (by omega), if_neg (by omega), if_neg (by omega), if_pos (by omega)]
  · intro h; rw [if_neg (by omega), if_neg (by omega), if_neg (by omega), if_pos (by omega)]
  · intro h; rw [if_neg (by omega), if_neg (by omega), if_pos (by omega)]
  · intro h; rw [if_neg (by omega), if_pos (by omega)]
theorem range_f (ch : Int) (H : Heap) : K 22 [.int .i64 ch] H = some (.tuple ⟨[.agg ⟨[.int .i64 (rgS ch).1, .int .i64 (rgS ch).2.1]⟩, .bool (rgS ch).2.2]⟩, H ++ (some ⟨true, 50, [.int .i64 (rgS ch).1, .int .i64 (rgS ch).2.1]⟩ :: if (rgS ch).2.2 = true then [some ⟨true, 50, [.int .i64 (rgS ch).1, .int .i64 (rgS ch).2.1]⟩] else [])) := by
  have ho : ∀ lo hi, lo < hi → ∀ H, _ := fun lo hi h H => of_f lo hi h H
  simp only [K] at ho
  have hr := rgS_iv ch
  rw [K, D_eq p22 _ _ (Nat.le_of_ble_eq_true rfl)]
  rcases iv_cases ch with h | h | h | h | h | h | h | h | h | h | h | h
  · rw [hr.1 h]
    have g48 : ¬ 48 ≤ ch := by omega
    have g46 : ¬ 46 ≤ ch := by omega
    have g30 : ¬ 30 ≤ ch := by omega
    have g29 : ¬ 29 ≤ ch := by omega
    have g25 : ¬ 25 ≤ ch := by omega
    have g23 : ¬ 23 ≤ ch := by omega
    have g15 : ¬ 15 ≤ ch := by omega
    have g12 : ¬ 12 ≤ ch := by omega
    have g9 : ¬ 9 ≤ ch := by omega
    have g5 : ¬ 5 ≤ ch := by omega
    have k1 : ch < 1 := by omega
    simp (maxDischargeDepth := 8) only [r22, b22, c22_0, c22_1, c22_2, c22_3, c22_4, c22_5, c22_6, c22_7, c22_8, c22_9, c22_10, c22_11, c22_12, c22_13, c22_14, c22_15, c22_16, c22_17, c22_18, c22_19, c22_20, c22_21, ho, g48, g46, g30, g29, g25, g23, g15, g12, g9, g5, k1, RUN, Ed, knd, kndR, resV, binInt, mnmxV, mnmx2, fillL, unV, lenV, extractV, partV, loadAt, Nat.reduceAdd, Nat.reduceBEq, Nat.reduceEqDiff, Nat.reduceLT, Nat.reduceLeDiff, Nat.reduceMul, Nat.reduceSub, reduceIte, Int.reduceEq, Int.reduceNe, Int.reduceLT, Int.reduceLE, Int.reduceAdd, Int.reduceSub, Int.reduceMul, Int.reduceNeg, Int.reduceMod, Int.reduceDiv, Int.reduceTMod, Int.reduceTDiv, Int.reduceToNat, okChain_i, okLoads_nil, okLoads_in, okLoads_eq]
  · rw [hr.2.1 h]
    have g48 : ¬ 48 ≤ ch := by omega
    have g46 : ¬ 46 ≤ ch := by omega
    have g30 : ¬ 30 ≤ ch := by omega
    have g29 : ¬ 29 ≤ ch := by omega
    have g25 : ¬ 25 ≤ ch := by omega
    have g23 : ¬ 23 ≤ ch := by omega
    have g15 : ¬ 15 ≤ ch := by omega
    have g12 : ¬ 12 ≤ ch := by omega
    have g9 : ¬ 9 ≤ ch := by omega
    have g5 : ¬ 5 ≤ ch := by omega
    have k1 : ¬ ch < 1 := by omega
    simp (maxDischargeDepth := 8) only [r22, b22, c22_0, c22_1, c22_2, c22_3, c22_4, c22_5, c22_6, c22_7, c22_8, c22_9, c22_10, c22_11, c22_12, c22_13, c22_14, c22_15, c22_16, c22_17, c22_18, c22_19, c22_20, c22_21, ho, g48, g46, g30, g29, g25, g23, g15, g12, g9, g5, k1, RUN, Ed, knd, kndR, resV, binInt, mnmxV, mnmx2, fillL, unV, lenV, extractV, partV, loadAt, Nat.reduceAdd, Nat.reduceBEq, Nat.reduceEqDiff, Nat.reduceLT, Nat.reduceLeDiff, Nat.reduceMul, Nat.reduceSub, reduceIte, Int.reduceEq, Int.reduceNe, Int.reduceLT, Int.reduceLE, Int.reduceAdd, Int.reduceSub, Int.reduceMul, Int.reduceNeg, Int.reduceMod, Int.reduceDiv, Int.reduceTMod, Int.reduceTDiv, Int.reduceToNat, okChain_i, okLoads_nil, okLoads_in, okLoads_eq]
  · rw [hr.2.2.1 h]
    have g48 : ¬ 48 ≤ ch := by omega
    have g46 : ¬ 46 ≤ ch := by omega
    have g30 : ¬ 30 ≤ ch := by omega
    have g29 : ¬ 29 ≤ ch := by omega
    have g25 : ¬ 25 ≤ ch := by omega
    have g23 : ¬ 23 ≤ ch := by omega
    have g15 : ¬ 15 ≤ ch := by omega
    have g12 : ¬ 12 ≤ ch := by omega
    have g9 : ¬ 9 ≤ ch := by omega
    have g5 : 5 ≤ ch := by omega
    have k1 : ¬ ch < 1 := by omega
    simp (maxDischargeDepth := 8) only [r22, b22, c22_0, c22_1, c22_2, c22_3, c22_4, c22_5, c22_6, c22_7, c22_8, c22_9, c22_10, c22_11, c22_12, c22_13, c22_14, c22_15, c22_16, c22_17, c22_18, c22_19, c22_20, c22_21, ho, g48, g46, g30, g29, g25, g23, g15, g12, g9, g5, k1, RUN, Ed, knd, kndR, resV, binInt, mnmxV, mnmx2, fillL, unV, lenV, extractV, partV, loadAt, Nat.reduceAdd, Nat.reduceBEq, Nat.reduceEqDiff, Nat.reduceLT, Nat.reduceLeDiff, Nat.reduceMul, Nat.reduceSub, reduceIte, Int.reduceEq, Int.reduceNe, Int.reduceLT, Int.reduceLE, Int.reduceAdd, Int.reduceSub, Int.reduceMul, Int.reduceNeg, Int.reduceMod, Int.reduceDiv, Int.reduceTMod, Int.reduceTDiv, Int.reduceToNat, okChain_i, okLoads_nil, okLoads_in, okLoads_eq]
  · rw [hr.2.2.2.1 h]
    have g48 : ¬ 48 ≤ ch := by omega
    have g46 : ¬ 46 ≤ ch := by omega
    have g30 : ¬ 30 ≤ ch := by omega
    have g29 : ¬ 29 ≤ ch := by omega
    have g25 : ¬ 25 ≤ ch := by omega
    have g23 : ¬ 23 ≤ ch := by omega
    have g15 : ¬ 15 ≤ ch := by omega
    have g12 : ¬ 12 ≤ ch := by omega
    have g9 : 9 ≤ ch := by omega
    have g5 : 5 ≤ ch := by omega
    have k1 : ¬ ch < 1 := by omega
    simp (maxDischargeDepth := 8) only [r22, b22, c22_0, c22_1, c22_2, c22_3, c22_4, c22_5, c22_6, c22_7, c22_8, c22_9, c22_10, c22_11, c22_12, c22_13, c22_14, c22_15, c22_16, c22_17, c22_18, c22_19, c22_20, c22_21, ho, g48, g46, g30, g29, g25, g23, g15, g12, g9, g5, k1, RUN, Ed, knd, kndR, resV, binInt, mnmxV, mnmx2, fillL, unV, lenV, extractV, partV, loadAt, Nat.reduceAdd, Nat.reduceBEq, Nat.reduceEqDiff, Nat.reduceLT, Nat.reduceLeDiff, Nat.reduceMul, Nat.reduceSub, reduceIte, Int.reduceEq, Int.reduceNe, Int.reduceLT, Int.reduceLE, Int.reduceAdd, Int.reduceSub, Int.reduceMul, Int.reduceNeg, Int.reduceMod, Int.reduceDiv, Int.reduceTMod, Int.reduceTDiv, Int.reduceToNat, okChain_i, okLoads_nil, okLoads_in, okLoads_eq]
  · rw [hr.2.2.2.2.1 h]
    have g48 : ¬ 48 ≤ ch := by omega
    have g46 : ¬ 46 ≤ ch := by omega
    have g30 : ¬ 30 ≤ ch := by omega
    have g29 : ¬ 29 ≤ ch := by omega
    have g25 : ¬ 25 ≤ ch := by omega
    have g23 : ¬ 23 ≤ ch := by omega
    have g15 : ¬ 15 ≤ ch := by omega
    have g12 : 12 ≤ ch := by omega
    have g9 : 9 ≤ ch := by omega
    have g5 : 5 ≤ ch := by omega
    have k1 : ¬ ch < 1 := by omega
    simp (maxDischargeDepth := 8) only [r22, b22, c22_0, c22_1, c22_2, c22_3, c22_4, c22_5, c22_6, c22_7, c22_8, c22_9, c22_10, c22_11, c22_12, c22_13, c22_14, c22_15, c22_16, c22_17, c22_18, c22_19, c22_20, c22_21, ho, g48, g46, g30, g29, g25, g23, g15, g12, g9, g5, k1, RUN, Ed, knd, kndR, resV, binInt, mnmxV, mnmx2, fillL, unV, lenV, extractV, partV, loadAt, Nat.reduceAdd, Nat.reduceBEq, Nat.reduceEqDiff, Nat.reduceLT, Nat.reduceLeDiff, Nat.reduceMul, Nat.reduceSub, reduceIte, Int.reduceEq, Int.reduceNe, Int.reduceLT, Int.reduceLE, Int.reduceAdd, Int.reduceSub, Int.reduceMul, Int.reduceNeg, Int.reduceMod, Int.reduceDiv, Int.reduceTMod, Int.reduceTDiv, Int.reduceToNat, okChain_i, okLoads_nil, okLoads_in, okLoads_eq]
  · rw [hr.2.2.2.2.2.1 h]
    have g48 : ¬ 48 ≤ ch := by omega
    have g46 : ¬ 46 ≤ ch := by omega
    have g30 : ¬ 30 ≤ ch := by omega
    have g29 : ¬ 29 ≤ ch := by omega
    have g25 : ¬ 25 ≤ ch := by omega
    have g23 : ¬ 23 ≤ ch := by omega
    have g15 : 15 ≤ ch := by omega
    have g12 : 12 ≤ ch := by omega
    have g9 : 9 ≤ ch := by omega
    have g5 : 5 ≤ ch := by omega
    have k1 : ¬ ch < 1 := by omega
    simp (maxDischargeDepth := 8) only [r22, b22, c22_0, c22_1, c22_2, c22_3, c22_4, c22_5, c22_6, c22_7, c22_8, c22_9, c22_10, c22_11, c22_12, c22_13, c22_14, c22_15, c22_16, c22_17, c22_18, c22_19, c22_20, c22_21, ho, g48, g46, g30, g29, g25, g23, g15, g12, g9, g5, k1, RUN, Ed, knd, kndR, resV, binInt, mnmxV, mnmx2, fillL, unV, lenV, extractV, partV, loadAt, Nat.reduceAdd, Nat.reduceBEq, Nat.reduceEqDiff, Nat.reduceLT, Nat.reduceLeDiff, Nat.reduceMul, Nat.reduceSub, reduceIte, Int.reduceEq, Int.reduceNe, Int.reduceLT, Int.reduceLE, Int.reduceAdd, Int.reduceSub, Int.reduceMul, Int.reduceNeg, Int.reduceMod, Int.reduceDiv, Int.reduceTMod, Int.reduceTDiv, Int.reduceToNat, okChain_i, okLoads_nil, okLoads_in, okLoads_eq]
  · rw [hr.2.2.2.2.2.2.1 h]
    have g48 : ¬ 48 ≤ ch := by omega
    have g46 : ¬ 46 ≤ ch := by omega
    have g30 : ¬ 30 ≤ ch := by omega
    have g29 : ¬ 29 ≤ ch := by omega
    have g25 : ¬ 25 ≤ ch := by omega
    have g23 : 23 ≤ ch := by omega
    have g15 : 15 ≤ ch := by omega
    have g12 : 12 ≤ ch := by omega
    have g9 : 9 ≤ ch := by omega
    have g5 : 5 ≤ ch := by omega
    have k1 : ¬ ch < 1 := by omega
    simp (maxDischargeDepth := 8) only [r22, b22, c22_0, c22_1, c22_2, c22_3, c22_4, c22_5, c22_6, c22_7, c22_8, c22_9, c22_10, c22_11, c22_12, c22_13, c22_14, c22_15, c22_16, c22_17, c22_18, c22_19, c22_20, c22_21, ho, g48, g46, g30, g29, g25, g23, g15, g12, g9, g5, k1, RUN, Ed, knd, kndR, resV, binInt, mnmxV, mnmx2, fillL, unV, lenV, extractV, partV, loadAt, Nat.reduceAdd, Nat.reduceBEq, Nat.reduceEqDiff, Nat.reduceLT, Nat.reduceLeDiff, Nat.reduceMul, Nat.reduceSub, reduceIte, Int.reduceEq, Int.reduceNe, Int.reduceLT, Int.reduceLE, Int.reduceAdd, Int.reduceSub, Int.reduceMul, Int.reduceNeg, Int.reduceMod, Int.reduceDiv, Int.reduceTMod, Int.reduceTDiv, Int.reduceToNat, okChain_i, okLoads_nil, okLoads_in, okLoads_eq]
  · rw [hr.2.2.2.2.2.2.2.1 h]
    have g48 : ¬ 48 ≤ ch := by omega
    have g46 : ¬ 46 ≤ ch := by omega
    have g30 : ¬ 30 ≤ ch := by omega
    have g29 : ¬ 29 ≤ ch := by omega
    have g25 : 25 ≤ ch := by omega
    have g23 : 23 ≤ ch := by omega
    have g15 : 15 ≤ ch := by omega
    have g12 : 12 ≤ ch := by omega
    have g9 : 9 ≤ ch := by omega
    have g5 : 5 ≤ ch := by omega
    have k1 : ¬ ch < 1 := by omega
    simp (maxDischargeDepth := 8) only [r22, b22, c22_0, c22_1, c22_2, c22_3, c22_4, c22_5, c22_6, c22_7, c22_8, c22_9, c22_10, c22_11, c22_12, c22_13, c22_14, c22_15, c22_16, c22_17, c22_18, c22_19, c22_20, c22_21, ho, g48, g46, g30, g29, g25, g23, g15, g12, g9, g5, k1, RUN, Ed, knd, kndR, resV, binInt, mnmxV, mnmx2, fillL, unV, lenV, extractV, partV, loadAt, Nat.reduceAdd, Nat.reduceBEq, Nat.reduceEqDiff, Nat.reduceLT, Nat.reduceLeDiff, Nat.reduceMul, Nat.reduceSub, reduceIte, Int.reduceEq, Int.reduceNe, Int.reduceLT, Int.reduceLE, Int.reduceAdd, Int.reduceSub, Int.reduceMul, Int.reduceNeg, Int.reduceMod, Int.reduceDiv, Int.reduceTMod, Int.reduceTDiv, Int.reduceToNat, okChain_i, okLoads_nil, okLoads_in, okLoads_eq]
  · rw [hr.2.2.2.2.2.2.2.2.1 h]
    have g48 : ¬ 48 ≤ ch := by omega
    have g46 : ¬ 46 ≤ ch := by omega
    have g30 : ¬ 30 ≤ ch := by omega
    have g29 : 29 ≤ ch := by omega
    have g25 : 25 ≤ ch := by omega
    have g23 : 23 ≤ ch := by omega
    have g15 : 15 ≤ ch := by omega
    have g12 : 12 ≤ ch := by omega
    have g9 : 9 ≤ ch := by omega
    have g5 : 5 ≤ ch := by omega
    have k1 : ¬ ch < 1 := by omega
    simp (maxDischargeDepth := 8) only [r22, b22, c22_0, c22_1, c22_2, c22_3, c22_4, c22_5, c22_6, c22_7, c22_8, c22_9, c22_10, c22_11, c22_12, c22_13, c22_14, c22_15, c22_16, c22_17, c22_18, c22_19, c22_20, c22_21, ho, g48, g46, g30, g29, g25, g23, g15, g12, g9, g5, k1, RUN, Ed, knd, kndR, resV, binInt, mnmxV, mnmx2, fillL, unV, lenV, extractV, partV, loadAt, Nat.reduceAdd, Nat.reduceBEq, Nat.reduceEqDiff, Nat.reduceLT, Nat.reduceLeDiff, Nat.reduceMul, Nat.reduceSub, reduceIte, Int.reduceEq, Int.reduceNe, Int.reduceLT, Int.reduceLE, Int.reduceAdd, Int.reduceSub, Int.reduceMul, Int.reduceNeg, Int.reduceMod, Int.reduceDiv, Int.reduceTMod, Int.reduceTDiv, Int.reduceToNat, okChain_i, okLoads_nil, okLoads_in, okLoads_eq]
  · rw [hr.2.2.2.2.2.2.2.2.2.1 h]
    have g48 : ¬ 48 ≤ ch := by omega
    have g46 : ¬ 46 ≤ ch := by omega
    have g30 : 30 ≤ ch := by omega
    have g29 : 29 ≤ ch := by omega
    have g25 : 25 ≤ ch := by omega
    have g23 : 23 ≤ ch := by omega
    have g15 : 15 ≤ ch := by omega
    have g12 : 12 ≤ ch := by omega
    have g9 : 9 ≤ ch := by omega
    have g5 : 5 ≤ ch := by omega
    have k1 : ¬ ch < 1 := by omega
    simp (maxDischargeDepth := 8) only [r22, b22, c22_0, c22_1, c22_2, c22_3, c22_4, c22_5, c22_6, c22_7, c22_8, c22_9, c22_10, c22_11, c22_12, c22_13, c22_14, c22_15, c22_16, c22_17, c22_18, c22_19, c22_20, c22_21, ho, g48, g46, g30, g29, g25, g23, g15, g12, g9, g5, k1, RUN, Ed, knd, kndR, resV, binInt, mnmxV, mnmx2, fillL, unV, lenV, extractV, partV, loadAt, Nat.reduceAdd, Nat.reduceBEq, Nat.reduceEqDiff, Nat.reduceLT, Nat.reduceLeDiff, Nat.reduceMul, Nat.reduceSub, reduceIte, Int.reduceEq, Int.reduceNe, Int.reduceLT, Int.reduceLE, Int.reduceAdd, Int.reduceSub, Int.reduceMul, Int.reduceNeg, Int.reduceMod, Int.reduceDiv, Int.reduceTMod, Int.reduceTDiv, Int.reduceToNat, okChain_i, okLoads_nil, okLoads_in, okLoads_eq]
  · rw [hr.2.2.2.2.2.2.2.2.2.2.1 h]
    have g48 : ¬ 48 ≤ ch := by omega
    have g46 : 46 ≤ ch := by omega
    have g30 : 30 ≤ ch := by omega
    have g29 : 29 ≤ ch := by omega
    have g25 : 25 ≤ ch := by omega
    have g23 : 23 ≤ ch := by omega
    have g15 : 15 ≤ ch := by omega
    have g12 : 12 ≤ ch := by omega
    have g9 : 9 ≤ ch := by omega
    have g5 : 5 ≤ ch := by omega
    have k1 : ¬ ch < 1 := by omega
    simp (maxDischargeDepth := 8) only [r22, b22, c22_0, c22_1, c22_2, c22_3, c22_4, c22_5, c22_6, c22_7, c22_8, c22_9, c22_10, c22_11, c22_12, c22_13, c22_14, c22_15, c22_16, c22_17, c22_18, c22_19, c22_20, c22_21, ho, g48, g46, g30, g29, g25, g23, g15, g12, g9, g5, k1, RUN, Ed, knd, kndR, resV, binInt, mnmxV, mnmx2, fillL, unV, lenV, extractV, partV, loadAt, Nat.reduceAdd, Nat.reduceBEq, Nat.reduceEqDiff, Nat.reduceLT, Nat.reduceLeDiff, Nat.reduceMul, Nat.reduceSub, reduceIte, Int.reduceEq, Int.reduceNe, Int.reduceLT, Int.reduceLE, Int.reduceAdd, Int.reduceSub, Int.reduceMul, Int.reduceNeg, Int.reduceMod, Int.reduceDiv, Int.reduceTMod, Int.reduceTDiv, Int.reduceToNat, okChain_i, okLoads_nil, okLoads_in, okLoads_eq]
  · rw [hr.2.2.2.2.2.2.2.2.2.2.2 h]
    have g48 : 48 ≤ ch := by omega
    have g46 : 46 ≤ ch := by omega
    have g30 : 30 ≤ ch := by omega
    have g29 : 29 ≤ ch := by omega
    have g25 : 25 ≤ ch := by omega
    have g23 : 23 ≤ ch := by omega
    have g15 : 15 ≤ ch := by omega
    have g12 : 12 ≤ ch := by omega
    have g9 : 9 ≤ ch := by omega
    have g5 : 5 ≤ ch := by omega
    have k1 : ¬ ch < 1 := by omega
    simp (maxDischargeDepth := 8) only [r22, b22, c22_0, c22_1, c22_2, c22_3, c22_4, c22_5, c22_6, c22_7, c22_8, c22_9, c22_10, c22_11, c22_12, c22_13, c22_14, c22_15, c22_16, c22_17, c22_18, c22_19, c22_20, c22_21, ho, g48, g46, g30, g29, g25, g23, g15, g12, g9, g5, k1, RUN, Ed, knd, kndR, resV, binInt, mnmxV, mnmx2, fillL, unV, lenV, extractV, partV, loadAt, Nat.reduceAdd, Nat.reduceBEq, Nat.reduceEqDiff, Nat.reduceLT, Nat.reduceLeDiff, Nat.reduceMul, Nat.reduceSub, reduceIte, Int.reduceEq, Int.reduceNe, Int.reduceLT, Int.reduceLE, Int.reduceAdd, Int.reduceSub, Int.reduceMul, Int.reduceNeg, Int.reduceMod, Int.reduceDiv, Int.reduceTMod, Int.reduceTDiv, Int.reduceToNat, okChain_i, okLoads_nil, okLoads_in, okLoads_eq]
/-- Which channels there are. -/
def chan (c : Int) : Bool := decide (1 ≤ c) && decide (c < 48)
theorem rgS_chan (c : Int) : (rgS c).2.2 = chan c := by
  have h := rgS_iv c
  unfold chan
  rcases iv_cases c with k | k | k | k | k | k | k | k | k | k | k | k
  · rw [h.1 k]; simp; omega
  · rw [h.2.1 k]; simp; omega
  · rw [h.2.2.1 k]; simp; omega
  · rw [h.2.2.2.1 k]; simp; omega
  · rw [h.2.2.2.2.1 k]; simp; omega
  · rw [h.2.2.2.2.2.1 k]; simp; omega
  · rw [h.2.2.2.2.2.2.1 k]; simp; omega
  · rw [h.2.2.2.2.2.2.2.1 k]; simp; omega
  · rw [h.2.2.2.2.2.2.2.2.1 k]; simp; omega
  · rw [h.2.2.2.2.2.2.2.2.2.1 k]; simp; omega
  · rw [h.2.2.2.2.2.2.2.2.2.2.1 k]; simp; omega
  · rw [h.2.2.2.2.2.2.2.2.2.2.2 k]; simp; omega
theorem rangeE_f (ch : Int) (H : Heap) : ∃ lo hi X, K 22 [.int .i64 ch] H = some (.tuple ⟨[.agg ⟨[.int .i64 lo, .int .i64 hi]⟩, .bool (chan ch)]⟩, H ++ X) := by
  have h := range_f ch H
  rw [rgS_chan] at h
  exact ⟨_, _, _, h⟩
def putB (f : Int → Option La) (c q : Int) : Bool := chan c && (match f c with | none => true | some x => newerB q x.2.1)
def putF (f : Int → Option La) (c q v : Int) : Int → Option La := if putB f c q = true then fun d => if d = c then some (v, q, 0) else f d else f
theorem BK_set {F : Heap} {p m : Nat} {s : Int} {L L' : List (Int × La)} (h1 : live F p = some ⟨true, 48, [.int .i64 s, .map (some m)]⟩) {g : Gs} (h2 : mlive F m = some (.i64, rows L, g)) (h : OldL L') (g' : Gs) (Y : Heap) {f : Int → Option La} (hf : getL L' = f) :
    BK (F.set m (some (mapB .i64 (rows L') g')) ++ Y) p s f ∧ Stay F (F.set m (some (mapB .i64 (rows L') g')) ++ Y) := by
  have hm := mlive_lt h2
  have hs : Stay F (F.set m (some (mapB .i64 (rows L') g')) ++ Y) := ⟨by simp, fun i b hb => by
    refine (Ext.more _ Y).live ?_
    rw [live_set_ne _ _ _ _ (live_ne_mlive hb h2)]; exact hb⟩
  exact ⟨⟨m, L', g', hs.2 _ _ h1, (Ext.more _ Y).mlive (mlive_set_eq _ _ _ _ _ hm), h, hf⟩, hs⟩
theorem put_f {F : Heap} {p : Nat} {s : Int} {f : Int → Option La} (hb : BK F p s f) (c q v : Int) :
    ∃ F', K 12 [.pointer (some ⟨p, 0, none⟩), .int .i64 c, .int .u8 q, .int .i64 v] F = some (.bool (putB f c q), F') ∧ BK F' p s (putF f c q v) ∧ Stay F F' := by
  have q12 : K 12 [.pointer (some ⟨p, 0, none⟩), .int .i64 c, .int .u8 q, .int .i64 v] F = done r12.res (E Try.prog hints r12.body (frame0 [.pointer (some ⟨p, 0, none⟩), .int .i64 c, .int .u8 q, .int .i64 v]) F) := D_eq p12 _ _ (Nat.le_of_ble_eq_true rfl)
  obtain ⟨lo, hi, X, e1⟩ := rangeE_f c F
  obtain ⟨G, hG⟩ : ∃ G, G = F ++ X := ⟨_, rfl⟩
  rw [← hG] at e1
  have hFG : Ext F G := ⟨X, hG⟩
  have hb' := hb
  obtain ⟨m, L, g, h1, h2, h3, h4⟩ := hb.ext hFG
  have n1 := fun a b H => newer_f a b H
  simp only [K] at e1 n1 q12
  have j1 := live_ltG h1
  have j2 := mlive_lt h2
  by_cases hc : chan c = true
  · rw [hc] at e1
    cases hl : f c with
    | none =>
      have hpb : putB f c q = true := by unfold putB; rw [hc, hl]; rfl
      have hlk : findM (rows L) c = none := by rw [findM_rows, h4, hl]; rfl
      have hpm : putM (rows L) c (.agg ⟨[.int .i64 v, .int .u8 q, .int .i64 0]⟩) = rows (putL L c (v, q, 0)) := putM_rows L c (v, q, 0)
      refine ⟨?F1, ?run1, ?rest1⟩
      case run1 =>
        rw [hpb, K, q12]
        simp (maxDischargeDepth := 8) only [r12, b12, c12_0, c12_1, c12_2, c12_3, c12_4, c12_5, c12_6, c12_7, c12_8, e1, h1, h2, j1, j2, hlk, hpm, RUN, Ed, knd, kndR, resV, binInt, mnmxV, mnmx2, fillL, unV, lenV, extractV, partV, loadAt, Nat.reduceAdd, Nat.reduceBEq, Nat.reduceEqDiff, Nat.reduceLT, Nat.reduceLeDiff, Nat.reduceMul, Nat.reduceSub, reduceIte, Int.reduceEq, Int.reduceNe, Int.reduceLT, Int.reduceLE, Int.reduceAdd, Int.reduceSub, Int.reduceMul, Int.reduceNeg, Int.reduceMod, Int.reduceDiv, Int.reduceTMod, Int.reduceTDiv, Int.reduceToNat, okChain_i, okLoads_nil, okLoads_in, okLoads_eq]
        rfl
      case rest1 =>
        have hpf : getL (putL L c (v, q, 0)) = putF f c q v := by
          funext d; rw [getL_putL, putF, if_pos hpb, h4]
        obtain ⟨g1, g2⟩ := BK_set h1 h2 (h3.put c v q) _ _ hpf
        exact ⟨g1, hFG.stay.trans g2⟩
    | some x =>
      obtain ⟨v0, q0, a0⟩ := x
      have hlk : findM (rows L) c = some (.agg ⟨[.int .i64 v0, .int .u8 q0, .int .i64 a0]⟩) := by rw [findM_rows, h4, hl]; rfl
      by_cases hn : newerB q q0 = true
      · have hpb : putB f c q = true := by unfold putB; rw [hc, hl]; exact hn
        have hpm : putM (rows L) c (.agg ⟨[.int .i64 v, .int .u8 q, .int .i64 0]⟩) = rows (putL L c (v, q, 0)) := putM_rows L c (v, q, 0)
        refine ⟨?F2, ?run2, ?rest2⟩
        case run2 =>
          rw [hpb, K, q12]
          simp (maxDischargeDepth := 8) only [r12, b12, c12_0, c12_1, c12_2, c12_3, c12_4, c12_5, c12_6, c12_7, c12_8, e1, h1, h2, j1, j2, hlk, hpm, n1, hn, RUN, Ed, knd, kndR, resV, binInt, mnmxV, mnmx2, fillL, unV, lenV, extractV, partV, loadAt, Nat.reduceAdd, Nat.reduceBEq, Nat.reduceEqDiff, Nat.reduceLT, Nat.reduceLeDiff, Nat.reduceMul, Nat.reduceSub, reduceIte, Int.reduceEq, Int.reduceNe, Int.reduceLT, Int.reduceLE, Int.reduceAdd, Int.reduceSub, Int.reduceMul, Int.reduceNeg, Int.reduceMod, Int.reduceDiv, Int.reduceTMod, Int.reduceTDiv, Int.reduceToNat, okChain_i, okLoads_nil, okLoads_in, okLoads_eq]
          rfl
        case rest2 =>
          have hpf : getL (putL L c (v, q, 0)) = putF f c q v := by
            funext d; rw [getL_putL, putF, if_pos hpb, h4]
          obtain ⟨g1, g2⟩ := BK_set h1 h2 (h3.put c v q) _ _ hpf
          exact ⟨g1, hFG.stay.trans g2⟩
      · have hn' : newerB q q0 = false := by simpa using hn
        have hpb : putB f c q = false := by unfold putB; rw [hc, hl]; exact hn'
        have hpf : putF f c q v = f := by rw [putF, if_neg (by rw [hpb]; decide)]
        refine ⟨?F3, ?run3, ?rest3⟩
        case run3 =>
          rw [hpb, K, q12]
          simp (maxDischargeDepth := 8) only [r12, b12, c12_0, c12_1, c12_2, c12_3, c12_4, c12_5, c12_6, c12_7, c12_8, e1, h1, h2, j1, j2, hlk, n1, hn', RUN, Ed, knd, kndR, resV, binInt, mnmxV, mnmx2, fillL, unV, lenV, extractV, partV, loadAt, Nat.reduceAdd, Nat.reduceBEq, Nat.reduceEqDiff, Nat.reduceLT, Nat.reduceLeDiff, Nat.reduceMul, Nat.reduceSub, reduceIte, Int.reduceEq, Int.reduceNe, Int.reduceLT, Int.reduceLE, Int.reduceAdd, Int.reduceSub, Int.reduceMul, Int.reduceNeg, Int.reduceMod, Int.reduceDiv, Int.reduceTMod, Int.reduceTDiv, Int.reduceToNat, okChain_i, okLoads_nil, okLoads_in, okLoads_eq]
          rfl
        case rest3 =>
          rw [hpf]
          exact ⟨(hb'.ext hFG).ext (Ext.more _ _), (hFG.app _).stay⟩
  · have hc' : chan c = false := by simpa using hc
    rw [hc'] at e1
    have hpb : putB f c q = false := by unfold putB; rw [hc']; rfl
    have hpf : putF f c q v = f := by rw [putF, if_neg (by rw [hpb]; decide)]
    refine ⟨?F4, ?run4, ?rest4⟩
    case run4 =>
      rw [hpb, K, q12]
      simp (maxDischargeDepth := 8) only [r12, b12, c12_0, c12_1, c12_2, c12_3, c12_4, c12_5, c12_6, c12_7, c12_8, e1, RUN, Ed, knd, kndR, resV, binInt, mnmxV, mnmx2, fillL, unV, lenV, extractV, partV, loadAt, Nat.reduceAdd, Nat.reduceBEq, Nat.reduceEqDiff, Nat.reduceLT, Nat.reduceLeDiff, Nat.reduceMul, Nat.reduceSub, reduceIte, Int.reduceEq, Int.reduceNe, Int.reduceLT, Int.reduceLE, Int.reduceAdd, Int.reduceSub, Int.reduceMul, Int.reduceNeg, Int.reduceMod, Int.reduceDiv, Int.reduceTMod, Int.reduceTDiv, Int.reduceToNat, okChain_i, okLoads_nil, okLoads_in, okLoads_eq]
      rfl
    case rest4 =>
      rw [hpf]
      exact ⟨(hb'.ext hFG).ext (Ext.more _ _), (hFG.app _).stay⟩
end Go.Proofs.Ytoknmodbdlfdmaa.Sim
