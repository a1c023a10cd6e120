/- Chapter 7 over the plain heap: channels' ranges. Printed by gen_sen1.py. -/
import Derived.Test.YtdmfedmhcegggaaDoorPil5
import Derived.Test.YtdmfedmhcegggaaDoorSim21
namespace Go.Proofs.YtdmfedmhcegggaaDoor.Sim
open Go
set_option linter.unusedSimpArgs false
set_option linter.unusedVariables false
theorem of_f (lo hi : Int) (h : lo < hi) (H : Heap) : K 48 [.int .i64 lo, .int .i64 hi] H = some (.agg ⟨[.int .i64 lo, .int .i64 hi]⟩, H ++ [some ⟨true, 68, [.int .i64 lo, .int .i64 hi]⟩]) := by
  have h1 : ¬ hi < lo := by omega
  rw [K, D_eq p48 _ _ (Nat.le_of_ble_eq_true rfl)]
  simp (maxDischargeDepth := 8) only [r48, b48, c48_0, c48_1, h, h1, RUN, Ed, knd, kndR, resV, binInt, mnmxV, mnmx2, fillL, unV, lenV, extractV, partV, loadAt, Nat.reduceAdd, Nat.reduceBEq, Nat.reduceEqDiff, Nat.reduceLT, Nat.reduceLeDiff, Nat.reduceMul, Nat.reduceSub, reduceIte, Int.reduceEq, Int.reduceNe, Int.reduceLT, Int.reduceLE, Int.reduceAdd, Int.reduceSub, Int.reduceMul, Int.reduceNeg, Int.reduceMod, Int.reduceDiv, Int.reduceTMod, Int.reduceTDiv, Int.reduceToNat, okChain_i, okLoads_nil, okLoads_in, okLoads_eq]
theorem has_f (lo hi v : Int) (H : Heap) : K 52 [.agg ⟨[.int .i64 lo, .int .i64 hi]⟩, .int .i64 v] H = some (.bool (decide (lo ≤ v ∧ v ≤ hi)), H ++ [some ⟨true, 68, [.int .i64 lo, .int .i64 hi]⟩]) := by
  rw [K, D_eq p52 _ _ (Nat.le_of_ble_eq_true rfl)]
  by_cases h1 : lo ≤ v
  · by_cases h2 : v ≤ hi
    · have hd : decide (lo ≤ v ∧ v ≤ hi) = true := by simp [h1, h2]
      simp (maxDischargeDepth := 8) only [r52, b52, c52_0, c52_1, h1, h2, hd, RUN, Ed, knd, kndR, resV, binInt, mnmxV, mnmx2, fillL, unV, lenV, extractV, partV, loadAt, Nat.reduceAdd, Nat.reduceBEq, Nat.reduceEqDiff, Nat.reduceLT, Nat.reduceLeDiff, Nat.reduceMul, Nat.reduceSub, reduceIte, Int.reduceEq, Int.reduceNe, Int.reduceLT, Int.reduceLE, Int.reduceAdd, Int.reduceSub, Int.reduceMul, Int.reduceNeg, Int.reduceMod, Int.reduceDiv, Int.reduceTMod, Int.reduceTDiv, Int.reduceToNat, okChain_i, okLoads_nil, okLoads_in, okLoads_eq]
    · have hd : decide (lo ≤ v ∧ v ≤ hi) = false := by simp [h2]
      simp (maxDischargeDepth := 8) only [r52, b52, c52_0, c52_1, h1, h2, hd, RUN, Ed, knd, kndR, resV, binInt, mnmxV, mnmx2, fillL, unV, lenV, extractV, partV, loadAt, Nat.reduceAdd, Nat.reduceBEq, Nat.reduceEqDiff, Nat.reduceLT, Nat.reduceLeDiff, Nat.reduceMul, Nat.reduceSub, reduceIte, Int.reduceEq, Int.reduceNe, Int.reduceLT, Int.reduceLE, Int.reduceAdd, Int.reduceSub, Int.reduceMul, Int.reduceNeg, Int.reduceMod, Int.reduceDiv, Int.reduceTMod, Int.reduceTDiv, Int.reduceToNat, okChain_i, okLoads_nil, okLoads_in, okLoads_eq]
  · have hd : decide (lo ≤ v ∧ v ≤ hi) = false := by simp [h1]
    rw [hd]
    simp (maxDischargeDepth := 8) only [r52, b52, c52_0, c52_1, h1, RUN, Ed, knd, kndR, resV, binInt, mnmxV, mnmx2, fillL, unV, lenV, extractV, partV, loadAt, Nat.reduceAdd, Nat.reduceBEq, Nat.reduceEqDiff, Nat.reduceLT, Nat.reduceLeDiff, Nat.reduceMul, Nat.reduceSub, reduceIte, Int.reduceEq, Int.reduceNe, Int.reduceLT, Int.reduceLE, Int.reduceAdd, Int.reduceSub, Int.reduceMul, Int.reduceNeg, Int.reduceMod, Int.reduceDiv, Int.reduceTMod, Int.reduceTDiv, Int.reduceToNat, okChain_i, okLoads_nil, okLoads_in, okLoads_eq]
theorem has2_f (lo hi v : Int) (H : Heap) : K 49 [.agg ⟨[.int .i64 lo, .int .i64 hi]⟩, .int .i64 v] H = some (.bool (decide (lo ≤ v ∧ v ≤ hi)), H ++ [some ⟨true, 68, [.int .i64 lo, .int .i64 hi]⟩]) := by
  rw [K, D_eq p49 _ _ (Nat.le_of_ble_eq_true rfl)]
  by_cases h1 : lo ≤ v
  · by_cases h2 : v ≤ hi
    · have hd : decide (lo ≤ v ∧ v ≤ hi) = true := by simp [h1, h2]
      simp (maxDischargeDepth := 8) only [r49, b49, c49_0, c49_1, h1, h2, hd, RUN, Ed, knd, kndR, resV, binInt, mnmxV, mnmx2, fillL, unV, lenV, extractV, partV, loadAt, Nat.reduceAdd, Nat.reduceBEq, Nat.reduceEqDiff, Nat.reduceLT, Nat.reduceLeDiff, Nat.reduceMul, Nat.reduceSub, reduceIte, Int.reduceEq, Int.reduceNe, Int.reduceLT, Int.reduceLE, Int.reduceAdd, Int.reduceSub, Int.reduceMul, Int.reduceNeg, Int.reduceMod, Int.reduceDiv, Int.reduceTMod, Int.reduceTDiv, Int.reduceToNat, okChain_i, okLoads_nil, okLoads_in, okLoads_eq]
    · have hd : decide (lo ≤ v ∧ v ≤ hi) = false := by simp [h2]
      simp (maxDischargeDepth := 8) only [r49, b49, c49_0, c49_1, h1, h2, hd, RUN, Ed, knd, kndR, resV, binInt, mnmxV, mnmx2, fillL, unV, lenV, extractV, partV, loadAt, Nat.reduceAdd, Nat.reduceBEq, Nat.reduceEqDiff, Nat.reduceLT, Nat.reduceLeDiff, Nat.reduceMul, Nat.reduceSub, reduceIte, Int.reduceEq, Int.reduceNe, Int.reduceLT, Int.reduceLE, Int.reduceAdd, Int.reduceSub, Int.reduceMul, Int.reduceNeg, Int.reduceMod, Int.reduceDiv, Int.reduceTMod, Int.reduceTDiv, Int.reduceToNat, okChain_i, okLoads_nil, okLoads_in, okLoads_eq]
  · have hd : decide (lo ≤ v ∧ v ≤ hi) = false := by simp [h1]
    rw [hd]
    simp (maxDischargeDepth := 8) only [r49, b49, c49_0, c49_1, h1, RUN, Ed, knd, kndR, resV, binInt, mnmxV, mnmx2, fillL, unV, lenV, extractV, partV, loadAt, Nat.reduceAdd, Nat.reduceBEq, Nat.reduceEqDiff, Nat.reduceLT, Nat.reduceLeDiff, Nat.reduceMul, Nat.reduceSub, reduceIte, Int.reduceEq, Int.reduceNe, Int.reduceLT, Int.reduceLE, Int.reduceAdd, Int.reduceSub, Int.reduceMul, Int.reduceNeg, Int.reduceMod, Int.reduceDiv, Int.reduceTMod, Int.reduceTDiv, Int.reduceToNat, okChain_i, okLoads_nil, okLoads_in, okLoads_eq]
theorem sameSpan_f (lo hi : Int) (H : Heap) : K 39 [.agg ⟨[.int .i64 lo, .int .i64 hi]⟩, .agg ⟨[.int .i64 lo, .int .i64 hi]⟩] H = some (.bool true, H ++ [some ⟨true, 68, [.int .i64 lo, .int .i64 hi]⟩, some ⟨true, 68, [.int .i64 lo, .int .i64 hi]⟩]) := by
  rw [K, D_eq p39 _ _ (Nat.le_of_ble_eq_true rfl)]
  simp (maxDischargeDepth := 8) only [r39, b39, c39_0, c39_1, RUN, Ed, knd, kndR, resV, binInt, mnmxV, mnmx2, fillL, unV, lenV, extractV, partV, loadAt, Nat.reduceAdd, Nat.reduceBEq, Nat.reduceEqDiff, Nat.reduceLT, Nat.reduceLeDiff, Nat.reduceMul, Nat.reduceSub, reduceIte, Int.reduceEq, Int.reduceNe, Int.reduceLT, Int.reduceLE, Int.reduceAdd, Int.reduceSub, Int.reduceMul, Int.reduceNeg, Int.reduceMod, Int.reduceDiv, Int.reduceTMod, Int.reduceTDiv, Int.reduceToNat, okChain_i, okLoads_nil, okLoads_in, okLoads_eq]
/-- A channel's range: from, to, whether there is one. -/
def rgS (ch : Int) : Int × Int × Bool := if ch < 1 then (0, 0, false) else if 48 ≤ ch then (0, 0, false) else if 46 ≤ ch then (-500000, 500000, true) else if 30 ≤ ch then (0, 1, true) else if 29 ≤ ch then (0, 127, true) else if 25 ≤ ch then (-30000, 30000, true) else if 23 ≤ ch then (-500, 1500, true) else if 15 ≤ ch then (0, 6000, true) else if 12 ≤ ch then (0, 500000, true) else if 9 ≤ ch then (0, 60000, true) else if 5 ≤ ch then (-500000, 500000, true) else (0, 60000, true)
theorem iv_cases (ch : Int) : (ch ≤ 0) ∨ (1 ≤ ch ∧ ch ≤ 4) ∨ (5 ≤ ch ∧ ch ≤ 8) ∨ (9 ≤ ch ∧ ch ≤ 11) ∨ (12 ≤ ch ∧ ch ≤ 14) ∨ (15 ≤ ch ∧ ch ≤ 22) ∨ (23 ≤ ch ∧ ch ≤ 24) ∨ (25 ≤ ch ∧ ch ≤ 28) ∨ (29 ≤ ch ∧ ch ≤ 29) ∨ (30 ≤ ch ∧ ch ≤ 45) ∨ (46 ≤ ch ∧ ch ≤ 47) ∨ (48 ≤ ch) := by omega
theorem rgS_iv (ch : Int) : (ch ≤ 0 → rgS ch = (0, 0, false)) ∧ (1 ≤ ch ∧ ch ≤ 4 → rgS ch = (0, 60000, true)) ∧ (5 ≤ ch ∧ ch ≤ 8 → rgS ch = (-500000, 500000, true)) ∧ (9 ≤ ch ∧ ch ≤ 11 → rgS ch = (0, 60000, true)) ∧ (12 ≤ ch ∧ ch ≤ 14 → rgS ch = (0, 500000, true)) ∧ (15 ≤ ch ∧ ch ≤ 22 → rgS ch = (0, 6000, true)) ∧ (23 ≤ ch ∧ ch ≤ 24 → rgS ch = (-500, 1500, true)) ∧ (25 ≤ ch ∧ ch ≤ 28 → rgS ch = (-30000, 30000, true)) ∧ (29 ≤ ch ∧ ch ≤ 29 → rgS ch = (0, 127, true)) ∧ (30 ≤ ch ∧ ch ≤ 45 → rgS ch = (0, 1, true)) ∧ (46 ≤ ch ∧ ch ≤ 47 → rgS ch = (-500000, 500000, true)) ∧ (48 ≤ ch → rgS ch = (0, 0, false)) := by
  unfold rgS
  refine ⟨?_, ?_, ?_, ?_, ?_, ?_, ?_, ?_, ?_, ?_, ?_, ?_⟩
  · intro h; rw [if_pos (by omega)]
  · intro h; rw [if_neg (by omega), if_neg (by omega), if_neg (by omega), if_neg (by omega), if_neg (by omega), if_neg (by omega), if_neg (by omega), if_neg (by omega), if_neg (by omega), if_neg (by omega), if_neg (by omega)]
  · intro h; rw [if_neg (by omega), if_neg (by omega), if_neg (by omega), if_neg (by omega), if_neg (by omega), if_neg (by omega), if_neg (by omega), if_neg (by omega), if_neg (by omega), if_neg (by omega), if_pos (by omega)]
  · intro h; rw [if_neg (by omega), if_neg (by omega), if_neg (by omega), if_neg (by omega), if_neg (by omega), if_neg (by omega), if_neg (by omega), if_neg (by omega), if_neg (by omega), if_pos (by omega)]
  · intro h; rw [if_neg (by omega), if_neg (by omega), if_neg (by omega), if_neg (by omega), if_neg (by omega), if_neg (by omega), if_neg (by omega), if_neg (by omega), if_pos (by omega)]
  · intro h; rw [if_neg (by omega), if_neg (by omega), if_neg (by omega), if_neg (by omega), if_neg (by omega), if_neg (by omega), if_neg (by omega), if_pos (by omega)]
  · intro h; rw [if_neg (by omega), if_neg (by omega), if_neg (by omega), if_neg (by omega), if_neg (by omega), if_neg (by omega), if_pos (by omega)]
  · intro h; rw [if_neg (by omega), if_neg (by omega), if_neg (by omega), if_neg (by omega), if_neg (by omega), if_pos (by omega)]
  · intro h; rw [if_neg (by omega), if_neg (by omega), if_neg (by omega), if_neg (by omega), if_pos (by omega)]
  · intro h; rw [if_neg (by omega), if_neg (by omega), if_neg (by omega), if_pos (by omega)]
  · intro h; rw [if_neg (by omega), if_neg (by omega), if_pos (by omega)]
  · intro h; rw [if_neg (by omega), if_pos (by omega)]
theorem range_f (ch : Int) (H : Heap) : K 34 [.int .i64 ch] H = some (.tuple ⟨[.agg ⟨[.int .i64 (rgS ch).1, .int .i64 (rgS ch).2.1]⟩, .bool (rgS ch).2.2]⟩, H ++ (some ⟨true, 68, [.int .i64 (rgS ch).1, .int .i64 (rgS ch).2.1]⟩ :: if (rgS ch).2.2 = true then [some ⟨true, 68, [.int .i64 (rgS ch).1, .int .i64 (rgS ch).2.1]⟩] else [])) := by
  have ho : ∀ lo hi, lo < hi → ∀ H, _ := fun lo hi h H => of_f lo hi h H
  simp only [K] at ho
  have hr := rgS_iv ch
  rw [K, D_eq p34 _ _ (Nat.le_of_ble_eq_true rfl)]
  rcases iv_cases ch with h | h | h | h | h | h | h | h | h | h | h | h
  · rw [hr.1 h]
    have g48 : ¬ 48 ≤ ch := by omega
    have g46 : ¬ 46 ≤ ch := by omega
    have g30 : ¬ 30 ≤ ch := by omega
    have g29 : ¬ 29 ≤ ch := by omega
    have g25 : ¬ 25 ≤ ch := by omega
    have g23 : ¬ 23 ≤ ch := by omega
    have g15 : ¬ 15 ≤ ch := by omega
    have g12 : ¬ 12 ≤ ch := by omega
    have g9 : ¬ 9 ≤ ch := by omega
    have g5 : ¬ 5 ≤ ch := by omega
    have k1 : ch < 1 := by omega
    simp (maxDischargeDepth := 8) only [r34, b34, c34_0, c34_1, c34_2, c34_3, c34_4, c34_5, c34_6, c34_7, c34_8, c34_9, c34_10, c34_11, c34_12, c34_13, c34_14, c34_15, c34_16, c34_17, c34_18, c34_19, c34_20, c34_21, ho, g48, g46, g30, g29, g25, g23, g15, g12, g9, g5, k1, RUN, Ed, knd, kndR, resV, binInt, mnmxV, mnmx2, fillL, unV, lenV, extractV, partV, loadAt, Nat.reduceAdd, Nat.reduceBEq, Nat.reduceEqDiff, Nat.reduceLT, Nat.reduceLeDiff, Nat.reduceMul, Nat.reduceSub, reduceIte, Int.reduceEq, Int.reduceNe, Int.reduceLT, Int.reduceLE, Int.reduceAdd, Int.reduceSub, Int.reduceMul, Int.reduceNeg, Int.reduceMod, Int.reduceDiv, Int.reduceTMod, Int.reduceTDiv, Int.reduceToNat, okChain_i, okLoads_nil, okLoads_in, okLoads_eq]
  · rw [hr.2.1 h]
    have g48 : ¬ 48 ≤ ch := by omega
    have g46 : ¬ 46 ≤ ch := by omega
    have g30 : ¬ 30 ≤ ch := by omega
    have g29 : ¬ 29 ≤ ch := by omega
    have g25 : ¬ 25 ≤ ch := by omega
    have g23 : ¬ 23 ≤ ch := by omega
    have g15 : ¬ 15 ≤ ch := by omega
    have g12 : ¬ 12 ≤ ch := by omega
    have g9 : ¬ 9 ≤ ch := by omega
    have g5 : ¬ 5 ≤ ch := by omega
    have k1 : ¬ ch < 1 := by omega
    simp (maxDischargeDepth := 8) only [r34, b34, c34_0, c34_1, c34_2, c34_3, c34_4, c34_5, c34_6, c34_7, c34_8, c34_9, c34_10, c34_11, c34_12, c34_13, c34_14, c34_15, c34_16, c34_17, c34_18, c34_19, c34_20, c34_21, ho, g48, g46, g30, g29, g25, g23, g15, g12, g9, g5, k1, RUN, Ed, knd, kndR, resV, binInt, mnmxV, mnmx2, fillL, unV, lenV, extractV, partV, loadAt, Nat.reduceAdd, Nat.reduceBEq, Nat.reduceEqDiff, Nat.reduceLT, Nat.reduceLeDiff, Nat.reduceMul, Nat.reduceSub, reduceIte, Int.reduceEq, Int.reduceNe, Int.reduceLT, Int.reduceLE, Int.reduceAdd, Int.reduceSub, Int.reduceMul, Int.reduceNeg, Int.reduceMod, Int.reduceDiv, Int.reduceTMod, Int.reduceTDiv, Int.reduceToNat, okChain_i, okLoads_nil, okLoads_in, okLoads_eq]
  · rw [hr.2.2.1 h]
    have g48 : ¬ 48 ≤ ch := by omega
    have g46 : ¬ 46 ≤ ch := by omega
    have g30 : ¬ 30 ≤ ch := by omega
    have g29 : ¬ 29 ≤ ch := by omega
    have g25 : ¬ 25 ≤ ch := by omega
    have g23 : ¬ 23 ≤ ch := by omega
    have g15 : ¬ 15 ≤ ch := by omega
    have g12 : ¬ 12 ≤ ch := by omega
    have g9 : ¬ 9 ≤ ch := by omega
    have g5 : 5 ≤ ch := by omega
    have k1 : ¬ ch < 1 := by omega
    simp (maxDischargeDepth := 8) only [r34, b34, c34_0, c34_1, c34_2, c34_3, c34_4, c34_5, c34_6, c34_7, c34_8, c34_9, c34_10, c34_11, c34_12, c34_13, c34_14, c34_15, c34_16, c34_17, c34_18, c34_19, c34_20, c34_21, ho, g48, g46, g30, g29, g25, g23, g15, g12, g9, g5, k1, RUN, Ed, knd, kndR, resV, binInt, mnmxV, mnmx2, fillL, unV, lenV, extractV, partV, loadAt, Nat.reduceAdd, Nat.reduceBEq, Nat.reduceEqDiff, Nat.reduceLT, Nat.reduceLeDiff, Nat.reduceMul, Nat.reduceSub, reduceIte, Int.reduceEq, Int.reduceNe, Int.reduceLT, Int.reduceLE, Int.reduceAdd, Int.reduceSub, Int.reduceMul, Int.reduceNeg, Int.reduceMod, Int.reduceDiv, Int.reduceTMod, Int.reduceTDiv, Int.reduceToNat, okChain_i, okLoads_nil, okLoads_in, okLoads_eq]
  · rw [hr.2.2.2.1 h]
    have g48 : ¬ 48 ≤ ch := by omega
    have g46 : ¬ 46 ≤ ch := by omega
    have g30 : ¬ 30 ≤ ch := by omega
    have g29 : ¬ 29 ≤ ch := by omega
    have g25 : ¬ 25 ≤ ch := by omega
    have g23 : ¬ 23 ≤ ch := by omega
    have g15 : ¬ 15 ≤ ch := by omega
    have g12 : ¬ 12 ≤ ch := by omega
    have g9 : 9 ≤ ch := by omega
    have g5 : 5 ≤ ch := by omega
    have k1 : ¬ ch < 1 := by omega
    simp (maxDischargeDepth := 8) only [r34, b34, c34_0, c34_1, c34_2, c34_3, c34_4, c34_5, c34_6, c34_7, c34_8, c34_9, c34_10, c34_11, c34_12, c34_13, c34_14, c34_15, c34_16, c34_17, c34_18, c34_19, c34_20, c34_21, ho, g48, g46, g30, g29, g25, g23, g15, g12, g9, g5, k1, RUN, Ed, knd, kndR, resV, binInt, mnmxV, mnmx2, fillL, unV, lenV, extractV, partV, loadAt, Nat.reduceAdd, Nat.reduceBEq, Nat.reduceEqDiff, Nat.reduceLT, Nat.reduceLeDiff, Nat.reduceMul, Nat.reduceSub, reduceIte, Int.reduceEq, Int.reduceNe, Int.reduceLT, Int.reduceLE, Int.reduceAdd, Int.reduceSub, Int.reduceMul, Int.reduceNeg, Int.reduceMod, Int.reduceDiv, Int.reduceTMod, Int.reduceTDiv, Int.reduceToNat, okChain_i, okLoads_nil, okLoads_in, okLoads_eq]
  · rw [hr.2.2.2.2.1 h]
    have g48 : ¬ 48 ≤ ch := by omega
    have g46 : ¬ 46 ≤ ch := by omega
    have g30 : ¬ 30 ≤ ch := by omega
    have g29 : ¬ 29 ≤ ch := by omega
    have g25 : ¬ 25 ≤ ch := by omega
    have g23 : ¬ 23 ≤ ch := by omega
    have g15 : ¬ 15 ≤ ch := by omega
    have g12 : 12 ≤ ch := by omega
    have g9 : 9 ≤ ch := by omega
    have g5 : 5 ≤ ch := by omega
    have k1 : ¬ ch < 1 := by omega
    simp (maxDischargeDepth := 8) only [r34, b34, c34_0, c34_1, c34_2, c34_3, c34_4, c34_5, c34_6, c34_7, c34_8, c34_9, c34_10, c34_11, c34_12, c34_13, c34_14, c34_15, c34_16, c34_17, c34_18, c34_19, c34_20, c34_21, ho, g48, g46, g30, g29, g25, g23, g15, g12, g9, g5, k1, RUN, Ed, knd, kndR, resV, binInt, mnmxV, mnmx2, fillL, unV, lenV, extractV, partV, loadAt, Nat.reduceAdd, Nat.reduceBEq, Nat.reduceEqDiff, Nat.reduceLT, Nat.reduceLeDiff, Nat.reduceMul, Nat.reduceSub, reduceIte, Int.reduceEq, Int.reduceNe, Int.reduceLT, Int.reduceLE, Int.reduceAdd, Int.reduceSub, Int.reduceMul, Int.reduceNeg, Int.reduceMod, Int.reduceDiv, Int.reduceTMod, Int.reduceTDiv, Int.reduceToNat, okChain_i, okLoads_nil, okLoads_in, okLoads_eq]
  · rw [hr.2.2.2.2.2.1 h]
    have g48 : ¬ 48 ≤ ch := by omega
    have g46 : ¬ 46 ≤ ch := by omega
    have g30 : ¬ 30 ≤ ch := by omega
    have g29 : ¬ 29 ≤ ch := by omega
    have g25 : ¬ 25 ≤ ch := by omega
    have g23 : ¬ 23 ≤ ch := by omega
    have g15 : 15 ≤ ch := by omega
    have g12 : 12 ≤ ch := by omega
    have g9 : 9 ≤ ch := by omega
    have g5 : 5 ≤ ch := by omega
    have k1 : ¬ ch < 1 := by omega
    simp (maxDischargeDepth := 8) only [r34, b34, c34_0, c34_1, c34_2, c34_3, c34_4, c34_5, c34_6, c34_7, c34_8, c34_9, c34_10, c34_11, c34_12, c34_13, c34_14, c34_15, c34_16, c34_17, c34_18, c34_19, c34_20, c34_21, ho, g48, g46, g30, g29, g25, g23, g15, g12, g9, g5, k1, RUN, Ed, knd, kndR, resV, binInt, mnmxV, mnmx2, fillL, unV, lenV, extractV, partV, loadAt, Nat.reduceAdd, Nat.reduceBEq, Nat.reduceEqDiff, Nat.reduceLT, Nat.reduceLeDiff, Nat.reduceMul, Nat.reduceSub, reduceIte, Int.reduceEq, Int.reduceNe, Int.reduceLT, Int.reduceLE, Int.reduceAdd, Int.reduceSub, Int.reduceMul, Int.reduceNeg, Int.reduceMod, Int.reduceDiv, Int.reduceTMod, Int.reduceTDiv, Int.reduceToNat, okChain_i, okLoads_nil, okLoads_in, okLoads_eq]
  · rw [hr.2.2.2.2.2.2.1 h]
    have g48 : ¬ 48 ≤ ch := by omega
    have g46 : ¬ 46 ≤ ch := by omega
    have g30 : ¬ 30 ≤ ch := by omega
    have g29 : ¬ 29 ≤ ch := by omega
    have g25 : ¬ 25 ≤ ch := by omega
    have g23 : 23 ≤ ch := by omega
    have g15 : 15 ≤ ch := by omega
    have g12 : 12 ≤ ch := by omega
    have g9 : 9 ≤ ch := by omega
    have g5 : 5 ≤ ch := by omega
    have k1 : ¬ ch < 1 := by omega
    simp (maxDischargeDepth := 8) only [r34, b34, c34_0, c34_1, c34_2, c34_3, c34_4, c34_5, c34_6, c34_7, c34_8, c34_9, c34_10, c34_11, c34_12, c34_13, c34_14, c34_15, c34_16, c34_17, c34_18, c34_19, c34_20, c34_21, ho, g48, g46, g30, g29, g25, g23, g15, g12, g9, g5, k1, RUN, Ed, knd, kndR, resV, binInt, mnmxV, mnmx2, fillL, unV, lenV, extractV, partV, loadAt, Nat.reduceAdd, Nat.reduceBEq, Nat.reduceEqDiff, Nat.reduceLT, Nat.reduceLeDiff, Nat.reduceMul, Nat.reduceSub, reduceIte, Int.reduceEq, Int.reduceNe, Int.reduceLT, Int.reduceLE, Int.reduceAdd, Int.reduceSub, Int.reduceMul, Int.reduceNeg, Int.reduceMod, Int.reduceDiv, Int.reduceTMod, Int.reduceTDiv, Int.reduceToNat, okChain_i, okLoads_nil, okLoads_in, okLoads_eq]
  · rw [hr.2.2.2.2.2.2.2.1 h]
    have g48 : ¬ 48 ≤ ch := by omega
    have g46 : ¬ 46 ≤ ch := by omega
    have g30 : ¬ 30 ≤ ch := by omega
    have g29 : ¬ 29 ≤ ch := by omega
    have g25 : 25 ≤ ch := by omega
    have g23 : 23 ≤ ch := by omega
    have g15 : 15 ≤ ch := by omega
    have g12 : 12 ≤ ch := by omega
    have g9 : 9 ≤ ch := by omega
    have g5 : 5 ≤ ch := by omega
    have k1 : ¬ ch < 1 := by omega
    simp (maxDischargeDepth := 8) only [r34, b34, c34_0, c34_1, c34_2, c34_3, c34_4, c34_5, c34_6, c34_7, c34_8, c34_9, c34_10, c34_11, c34_12, c34_13, c34_14, c34_15, c34_16, c34_17, c34_18, c34_19, c34_20, c34_21, ho, g48, g46, g30, g29, g25, g23, g15, g12, g9, g5, k1, RUN, Ed, knd, kndR, resV, binInt, mnmxV, mnmx2, fillL, unV, lenV, extractV, partV, loadAt, Nat.reduceAdd, Nat.reduceBEq, Nat.reduceEqDiff, Nat.reduceLT, Nat.reduceLeDiff, Nat.reduceMul, Nat.reduceSub, reduceIte, Int.reduceEq, Int.reduceNe, Int.reduceLT, Int.reduceLE, Int.reduceAdd, Int.reduceSub, Int.reduceMul, Int.reduceNeg, Int.reduceMod, Int.reduceDiv, Int.reduceTMod, Int.reduceTDiv, Int.reduceToNat, okChain_i, okLoads_nil, okLoads_in, okLoads_eq]
  · rw [hr.2.2.2.2.2.2.2.2.1 h]
    have g48 : ¬ 48 ≤ ch := by omega
    have g46 : ¬ 46 ≤ ch := by omega
    have g30 : ¬ 30 ≤ ch := by omega
    have g29 : 29 ≤ ch := by omega
    have g25 : 25 ≤ ch := by omega
    have g23 : 23 ≤ ch := by omega
    have g15 : 15 ≤ ch := by omega
    have g12 : 12 ≤ ch := by omega
    have g9 : 9 ≤ ch := by omega
    have g5 : 5 ≤ ch := by omega
    have k1 : ¬ ch < 1 := by omega
    simp (maxDischargeDepth := 8) only [r34, b34, c34_0, c34_1, c34_2, c34_3, c34_4, c34_5, c34_6, c34_7, c34_8, c34_9, c34_10, c34_11, c34_12, c34_13, c34_14, c34_15, c34_16, c34_17, c34_18, c34_19, c34_20, c34_21, ho, g48, g46, g30, g29, g25, g23, g15, g12, g9, g5, k1, RUN, Ed, knd, kndR, resV, binInt, mnmxV, mnmx2, fillL, unV, lenV, extractV, partV, loadAt, Nat.reduceAdd, Nat.reduceBEq, Nat.reduceEqDiff, Nat.reduceLT, Nat.reduceLeDiff, Nat.reduceMul, Nat.reduceSub, reduceIte, Int.reduceEq, Int.reduceNe, Int.reduceLT, Int.reduceLE, Int.reduceAdd, Int.reduceSub, Int.reduceMul, Int.reduceNeg, Int.reduceMod, Int.reduceDiv, Int.reduceTMod, Int.reduceTDiv, Int.reduceToNat, okChain_i, okLoads_nil, okLoads_in, okLoads_eq]
  · rw [hr.2.2.2.2.2.2.2.2.2.1 h]
    have g48 : ¬ 48 ≤ ch := by omega
    have g46 : ¬ 46 ≤ ch := by omega
    have g30 : 30 ≤ ch := by omega
    have g29 : 29 ≤ ch := by omega
    have g25 : 25 ≤ ch := by omega
    have g23 : 23 ≤ ch := by omega
    have g15 : 15 ≤ ch := by omega
    have g12 : 12 ≤ ch := by omega
    have g9 : 9 ≤ ch := by omega
    have g5 : 5 ≤ ch := by omega
    have k1 : ¬ ch < 1 := by omega
    simp (maxDischargeDepth := 8) only [r34, b34, c34_0, c34_1, c34_2, c34_3, c34_4, c34_5, c34_6, c34_7, c34_8, c34_9, c34_10, c34_11, c34_12, c34_13, c34_14, c34_15, c34_16, c34_17, c34_18, c34_19, c34_20, c34_21, ho, g48, g46, g30, g29, g25, g23, g15, g12, g9, g5, k1, RUN, Ed, knd, kndR, resV, binInt, mnmxV, mnmx2, fillL, unV, lenV, extractV, partV, loadAt, Nat.reduceAdd, Nat.reduceBEq, Nat.reduceEqDiff, Nat.reduceLT, Nat.reduceLeDiff, Nat.reduceMul, Nat.reduceSub, reduceIte, Int.reduceEq, Int.reduceNe, Int.reduceLT, Int.reduceLE, Int.reduceAdd, Int.reduceSub, Int.reduceMul, Int.reduceNeg, Int.reduceMod, Int.reduceDiv, Int.reduceTMod, Int.reduceTDiv, Int.reduceToNat, okChain_i, okLoads_nil, okLoads_in, okLoads_eq]
  · rw [hr.2.2.2.2.2.2.2.2.2.2.1 h]
    have g48 : ¬ 48 ≤ ch := by omega
    have g46 : 46 ≤ ch := by omega
    have g30 : 30 ≤ ch := by omega
    have g29 : 29 ≤ ch := by omega
    have g25 : 25 ≤ ch := by omega
    have g23 : 23 ≤ ch := by omega
    have g15 : 15 ≤ ch := by omega
    have g12 : 12 ≤ ch := by omega
    have g9 : 9 ≤ ch := by omega
    have g5 : 5 ≤ ch := by omega
    have k1 : ¬ ch < 1 := by omega
    simp (maxDischargeDepth := 8) only [r34, b34, c34_0, c34_1, c34_2, c34_3, c34_4, c34_5, c34_6, c34_7, c34_8, c34_9, c34_10, c34_11, c34_12, c34_13, c34_14, c34_15, c34_16, c34_17, c34_18, c34_19, c34_20, c34_21, ho, g48, g46, g30, g29, g25, g23, g15, g12, g9, g5, k1, RUN, Ed, knd, kndR, resV, binInt, mnmxV, mnmx2, fillL, unV, lenV, extractV, partV, loadAt, Nat.reduceAdd, Nat.reduceBEq, Nat.reduceEqDiff, Nat.reduceLT, Nat.reduceLeDiff, Nat.reduceMul, Nat.reduceSub, reduceIte, Int.reduceEq, Int.reduceNe, Int.reduceLT, Int.reduceLE, Int.reduceAdd, Int.reduceSub, Int.reduceMul, Int.reduceNeg, Int.reduceMod, Int.reduceDiv, Int.reduceTMod, Int.reduceTDiv, Int.reduceToNat, okChain_i, okLoads_nil, okLoads_in, okLoads_eq]
  · rw [hr.2.2.2.2.2.2.2.2.2.2.2 h]
    have g48 : 48 ≤ ch := by omega
    have g46 : 46 ≤ ch := by omega
    have g30 : 30 ≤ ch := by omega
    have g29 : 29 ≤ ch := by omega
    have g25 : 25 ≤ ch := by omega
    have g23 : 23 ≤ ch := by omega
    have g15 : 15 ≤ ch := by omega
    have g12 : 12 ≤ ch := by omega
    have g9 : 9 ≤ ch := by omega
    have g5 : 5 ≤ ch := by omega
    have k1 : ¬ ch < 1 := by omega
    simp (maxDischargeDepth := 8) only [r34, b34, c34_0, c34_1, c34_2, c34_3, c34_4, c34_5, c34_6, c34_7, c34_8, c34_9, c34_10, c34_11, c34_12, c34_13, c34_14, c34_15, c34_16, c34_17, c34_18, c34_19, c34_20, c34_21, ho, g48, g46, g30, g29, g25, g23, g15, g12, g9, g5, k1, RUN, Ed, knd, kndR, resV, binInt, mnmxV, mnmx2, fillL, unV, lenV, extractV, partV, loadAt, Nat.reduceAdd, Nat.reduceBEq, Nat.reduceEqDiff, Nat.reduceLT, Nat.reduceLeDiff, Nat.reduceMul, Nat.reduceSub, reduceIte, Int.reduceEq, Int.reduceNe, Int.reduceLT, Int.reduceLE, Int.reduceAdd, Int.reduceSub, Int.reduceMul, Int.reduceNeg, Int.reduceMod, Int.reduceDiv, Int.reduceTMod, Int.reduceTDiv, Int.reduceToNat, okChain_i, okLoads_nil, okLoads_in, okLoads_eq]
theorem range2_f (ch : Int) (H : Heap) : K 35 [.int .i64 ch] H = some (.tuple ⟨[.agg ⟨[.int .i64 (rgS ch).1, .int .i64 (rgS ch).2.1]⟩, .bool (rgS ch).2.2]⟩, H ++ [some ⟨true, 68, [.int .i64 (rgS ch).1, .int .i64 (rgS ch).2.1]⟩]) := by
  have ho : ∀ lo hi, lo < hi → ∀ H, _ := fun lo hi h H => of_f lo hi h H
  simp only [K] at ho
  have hr := rgS_iv ch
  rw [K, D_eq p35 _ _ (Nat.le_of_ble_eq_true rfl)]
  rcases iv_cases ch with h | h | h | h | h | h | h | h | h | h | h | h
  · rw [hr.1 h]
    have g48 : ¬ 48 ≤ ch := by omega
    have g46 : ¬ 46 ≤ ch := by omega
    have g9 : ¬ 9 ≤ ch := by omega
    have k1 : ch < 1 := by omega
    have k5 : ch < 5 := by omega
    have k9 : ch < 9 := by omega
    have k12 : ch < 12 := by omega
    have k15 : ch < 15 := by omega
    have k23 : ch < 23 := by omega
    have k25 : ch < 25 := by omega
    have k29 : ch < 29 := by omega
    have e29 : decide (ch = 29) = false := by simpa using (by omega : ¬ ch = 29)
    simp (maxDischargeDepth := 8) only [r35, b35, c35_0, c35_1, c35_2, c35_3, c35_4, c35_5, c35_6, c35_7, c35_8, c35_9, c35_10, c35_11, c35_12, c35_13, c35_14, c35_15, c35_16, c35_17, ho, g48, g46, g9, k1, k5, k9, k12, k15, k23, k25, k29, e29, RUN, Ed, knd, kndR, resV, binInt, mnmxV, mnmx2, fillL, unV, lenV, extractV, partV, loadAt, Nat.reduceAdd, Nat.reduceBEq, Nat.reduceEqDiff, Nat.reduceLT, Nat.reduceLeDiff, Nat.reduceMul, Nat.reduceSub, reduceIte, Int.reduceEq, Int.reduceNe, Int.reduceLT, Int.reduceLE, Int.reduceAdd, Int.reduceSub, Int.reduceMul, Int.reduceNeg, Int.reduceMod, Int.reduceDiv, Int.reduceTMod, Int.reduceTDiv, Int.reduceToNat, okChain_i, okLoads_nil, okLoads_in, okLoads_eq]
  · rw [hr.2.1 h]
    have g48 : ¬ 48 ≤ ch := by omega
    have g46 : ¬ 46 ≤ ch := by omega
    have g9 : ¬ 9 ≤ ch := by omega
    have k1 : ¬ ch < 1 := by omega
    have k5 : ch < 5 := by omega
    have k9 : ch < 9 := by omega
    have k12 : ch < 12 := by omega
    have k15 : ch < 15 := by omega
    have k23 : ch < 23 := by omega
    have k25 : ch < 25 := by omega
    have k29 : ch < 29 := by omega
    have e29 : decide (ch = 29) = false := by simpa using (by omega : ¬ ch = 29)
    simp (maxDischargeDepth := 8) only [r35, b35, c35_0, c35_1, c35_2, c35_3, c35_4, c35_5, c35_6, c35_7, c35_8, c35_9, c35_10, c35_11, c35_12, c35_13, c35_14, c35_15, c35_16, c35_17, ho, g48, g46, g9, k1, k5, k9, k12, k15, k23, k25, k29, e29, RUN, Ed, knd, kndR, resV, binInt, mnmxV, mnmx2, fillL, unV, lenV, extractV, partV, loadAt, Nat.reduceAdd, Nat.reduceBEq, Nat.reduceEqDiff, Nat.reduceLT, Nat.reduceLeDiff, Nat.reduceMul, Nat.reduceSub, reduceIte, Int.reduceEq, Int.reduceNe, Int.reduceLT, Int.reduceLE, Int.reduceAdd, Int.reduceSub, Int.reduceMul, Int.reduceNeg, Int.reduceMod, Int.reduceDiv, Int.reduceTMod, Int.reduceTDiv, Int.reduceToNat, okChain_i, okLoads_nil, okLoads_in, okLoads_eq]
  · rw [hr.2.2.1 h]
    have g48 : ¬ 48 ≤ ch := by omega
    have g46 : ¬ 46 ≤ ch := by omega
    have g9 : ¬ 9 ≤ ch := by omega
    have k1 : ¬ ch < 1 := by omega
    have k5 : ¬ ch < 5 := by omega
    have k9 : ch < 9 := by omega
    have k12 : ch < 12 := by omega
    have k15 : ch < 15 := by omega
    have k23 : ch < 23 := by omega
    have k25 : ch < 25 := by omega
    have k29 : ch < 29 := by omega
    have e29 : decide (ch = 29) = false := by simpa using (by omega : ¬ ch = 29)
    simp (maxDischargeDepth := 8) only [r35, b35, c35_0, c35_1, c35_2, c35_3, c35_4, c35_5, c35_6, c35_7, c35_8, c35_9, c35_10, c35_11, c35_12, c35_13, c35_14, c35_15, c35_16, c35_17, ho, g48, g46, g9, k1, k5, k9, k12, k15, k23, k25, k29, e29, RUN, Ed, knd, kndR, resV, binInt, mnmxV, mnmx2, fillL, unV, lenV, extractV, partV, loadAt, Nat.reduceAdd, Nat.reduceBEq, Nat.reduceEqDiff, Nat.reduceLT, Nat.reduceLeDiff, Nat.reduceMul, Nat.reduceSub, reduceIte, Int.reduceEq, Int.reduceNe, Int.reduceLT, Int.reduceLE, Int.reduceAdd, Int.reduceSub, Int.reduceMul, Int.reduceNeg, Int.reduceMod, Int.reduceDiv, Int.reduceTMod, Int.reduceTDiv, Int.reduceToNat, okChain_i, okLoads_nil, okLoads_in, okLoads_eq]
  · rw [hr.2.2.2.1 h]
    have g48 : ¬ 48 ≤ ch := by omega
    have g46 : ¬ 46 ≤ ch := by omega
    have g9 : 9 ≤ ch := by omega
    have k1 : ¬ ch < 1 := by omega
    have k5 : ¬ ch < 5 := by omega
    have k9 : ¬ ch < 9 := by omega
    have k12 : ch < 12 := by omega
    have k15 : ch < 15 := by omega
    have k23 : ch < 23 := by omega
    have k25 : ch < 25 := by omega
    have k29 : ch < 29 := by omega
    have e29 : decide (ch = 29) = false := by simpa using (by omega : ¬ ch = 29)
    simp (maxDischargeDepth := 8) only [r35, b35, c35_0, c35_1, c35_2, c35_3, c35_4, c35_5, c35_6, c35_7, c35_8, c35_9, c35_10, c35_11, c35_12, c35_13, c35_14, c35_15, c35_16, c35_17, ho, g48, g46, g9, k1, k5, k9, k12, k15, k23, k25, k29, e29, RUN, Ed, knd, kndR, resV, binInt, mnmxV, mnmx2, fillL, unV, lenV, extractV, partV, loadAt, Nat.reduceAdd, Nat.reduceBEq, Nat.reduceEqDiff, Nat.reduceLT, Nat.reduceLeDiff, Nat.reduceMul, Nat.reduceSub, reduceIte, Int.reduceEq, Int.reduceNe, Int.reduceLT, Int.reduceLE, Int.reduceAdd, Int.reduceSub, Int.reduceMul, Int.reduceNeg, Int.reduceMod, Int.reduceDiv, Int.reduceTMod, Int.reduceTDiv, Int.reduceToNat, okChain_i, okLoads_nil, okLoads_in, okLoads_eq]
  · rw [hr.2.2.2.2.1 h]
    have g48 : ¬ 48 ≤ ch := by omega
    have g46 : ¬ 46 ≤ ch := by omega
    have g9 : 9 ≤ ch := by omega
    have k1 : ¬ ch < 1 := by omega
    have k5 : ¬ ch < 5 := by omega
    have k9 : ¬ ch < 9 := by omega
    have k12 : ¬ ch < 12 := by omega
    have k15 : ch < 15 := by omega
    have k23 : ch < 23 := by omega
    have k25 : ch < 25 := by omega
    have k29 : ch < 29 := by omega
    have e29 : decide (ch = 29) = false := by simpa using (by omega : ¬ ch = 29)
    simp (maxDischargeDepth := 8) only [r35, b35, c35_0, c35_1, c35_2, c35_3, c35_4, c35_5, c35_6, c35_7, c35_8, c35_9, c35_10, c35_11, c35_12, c35_13, c35_14, c35_15, c35_16, c35_17, ho, g48, g46, g9, k1, k5, k9, k12, k15, k23, k25, k29, e29, RUN, Ed, knd, kndR, resV, binInt, mnmxV, mnmx2, fillL, unV, lenV, extractV, partV, loadAt, Nat.reduceAdd, Nat.reduceBEq, Nat.reduceEqDiff, Nat.reduceLT, Nat.reduceLeDiff, Nat.reduceMul, Nat.reduceSub, reduceIte, Int.reduceEq, Int.reduceNe, Int.reduceLT, Int.reduceLE, Int.reduceAdd, Int.reduceSub, Int.reduceMul, Int.reduceNeg, Int.reduceMod, Int.reduceDiv, Int.reduceTMod, Int.reduceTDiv, Int.reduceToNat, okChain_i, okLoads_nil, okLoads_in, okLoads_eq]
  · rw [hr.2.2.2.2.2.1 h]
    have g48 : ¬ 48 ≤ ch := by omega
    have g46 : ¬ 46 ≤ ch := by omega
    have g9 : 9 ≤ ch := by omega
    have k1 : ¬ ch < 1 := by omega
    have k5 : ¬ ch < 5 := by omega
    have k9 : ¬ ch < 9 := by omega
    have k12 : ¬ ch < 12 := by omega
    have k15 : ¬ ch < 15 := by omega
    have k23 : ch < 23 := by omega
    have k25 : ch < 25 := by omega
    have k29 : ch < 29 := by omega
    have e29 : decide (ch = 29) = false := by simpa using (by omega : ¬ ch = 29)
    simp (maxDischargeDepth := 8) only [r35, b35, c35_0, c35_1, c35_2, c35_3, c35_4, c35_5, c35_6, c35_7, c35_8, c35_9, c35_10, c35_11, c35_12, c35_13, c35_14, c35_15, c35_16, c35_17, ho, g48, g46, g9, k1, k5, k9, k12, k15, k23, k25, k29, e29, RUN, Ed, knd, kndR, resV, binInt, mnmxV, mnmx2, fillL, unV, lenV, extractV, partV, loadAt, Nat.reduceAdd, Nat.reduceBEq, Nat.reduceEqDiff, Nat.reduceLT, Nat.reduceLeDiff, Nat.reduceMul, Nat.reduceSub, reduceIte, Int.reduceEq, Int.reduceNe, Int.reduceLT, Int.reduceLE, Int.reduceAdd, Int.reduceSub, Int.reduceMul, Int.reduceNeg, Int.reduceMod, Int.reduceDiv, Int.reduceTMod, Int.reduceTDiv, Int.reduceToNat, okChain_i, okLoads_nil, okLoads_in, okLoads_eq]
  · rw [hr.2.2.2.2.2.2.1 h]
    have g48 : ¬ 48 ≤ ch := by omega
    have g46 : ¬ 46 ≤ ch := by omega
    have g9 : 9 ≤ ch := by omega
    have k1 : ¬ ch < 1 := by omega
    have k5 : ¬ ch < 5 := by omega
    have k9 : ¬ ch < 9 := by omega
    have k12 : ¬ ch < 12 := by omega
    have k15 : ¬ ch < 15 := by omega
    have k23 : ¬ ch < 23 := by omega
    have k25 : ch < 25 := by omega
    have k29 : ch < 29 := by omega
    have e29 : decide (ch = 29) = false := by simpa using (by omega : ¬ ch = 29)
    simp (maxDischargeDepth := 8) only [r35, b35, c35_0, c35_1, c35_2, c35_3, c35_4, c35_5, c35_6, c35_7, c35_8, c35_9, c35_10, c35_11, c35_12, c35_13, c35_14, c35_15, c35_16, c35_17, ho, g48, g46, g9, k1, k5, k9, k12, k15, k23, k25, k29, e29, RUN, Ed, knd, kndR, resV, binInt, mnmxV, mnmx2, fillL, unV, lenV, extractV, partV, loadAt, Nat.reduceAdd, Nat.reduceBEq, Nat.reduceEqDiff, Nat.reduceLT, Nat.reduceLeDiff, Nat.reduceMul, Nat.reduceSub, reduceIte, Int.reduceEq, Int.reduceNe, Int.reduceLT, Int.reduceLE, Int.reduceAdd, Int.reduceSub, Int.reduceMul, Int.reduceNeg, Int.reduceMod, Int.reduceDiv, Int.reduceTMod, Int.reduceTDiv, Int.reduceToNat, okChain_i, okLoads_nil, okLoads_in, okLoads_eq]
  · rw [hr.2.2.2.2.2.2.2.1 h]
    have g48 : ¬ 48 ≤ ch := by omega
    have g46 : ¬ 46 ≤ ch := by omega
    have g9 : 9 ≤ ch := by omega
    have k1 : ¬ ch < 1 := by omega
    have k5 : ¬ ch < 5 := by omega
    have k9 : ¬ ch < 9 := by omega
    have k12 : ¬ ch < 12 := by omega
    have k15 : ¬ ch < 15 := by omega
    have k23 : ¬ ch < 23 := by omega
    have k25 : ¬ ch < 25 := by omega
    have k29 : ch < 29 := by omega
    have e29 : decide (ch = 29) = false := by simpa using (by omega : ¬ ch = 29)
    simp (maxDischargeDepth := 8) only [r35, b35, c35_0, c35_1, c35_2, c35_3, c35_4, c35_5, c35_6, c35_7, c35_8, c35_9, c35_10, c35_11, c35_12, c35_13, c35_14, c35_15, c35_16, c35_17, ho, g48, g46, g9, k1, k5, k9, k12, k15, k23, k25, k29, e29, RUN, Ed, knd, kndR, resV, binInt, mnmxV, mnmx2, fillL, unV, lenV, extractV, partV, loadAt, Nat.reduceAdd, Nat.reduceBEq, Nat.reduceEqDiff, Nat.reduceLT, Nat.reduceLeDiff, Nat.reduceMul, Nat.reduceSub, reduceIte, Int.reduceEq, Int.reduceNe, Int.reduceLT, Int.reduceLE, Int.reduceAdd, Int.reduceSub, Int.reduceMul, Int.reduceNeg, Int.reduceMod, Int.reduceDiv, Int.reduceTMod, Int.reduceTDiv, Int.reduceToNat, okChain_i, okLoads_nil, okLoads_in, okLoads_eq]
  · rw [hr.2.2.2.2.2.2.2.2.1 h]
    have g48 : ¬ 48 ≤ ch := by omega
    have g46 : ¬ 46 ≤ ch := by omega
    have g9 : 9 ≤ ch := by omega
    have k1 : ¬ ch < 1 := by omega
    have k5 : ¬ ch < 5 := by omega
    have k9 : ¬ ch < 9 := by omega
    have k12 : ¬ ch < 12 := by omega
    have k15 : ¬ ch < 15 := by omega
    have k23 : ¬ ch < 23 := by omega
    have k25 : ¬ ch < 25 := by omega
    have k29 : ¬ ch < 29 := by omega
    have e29 : decide (ch = 29) = true := by simpa using (by omega : ch = 29)
    simp (maxDischargeDepth := 8) only [r35, b35, c35_0, c35_1, c35_2, c35_3, c35_4, c35_5, c35_6, c35_7, c35_8, c35_9, c35_10, c35_11, c35_12, c35_13, c35_14, c35_15, c35_16, c35_17, ho, g48, g46, g9, k1, k5, k9, k12, k15, k23, k25, k29, e29, RUN, Ed, knd, kndR, resV, binInt, mnmxV, mnmx2, fillL, unV, lenV, extractV, partV, loadAt, Nat.reduceAdd, Nat.reduceBEq, Nat.reduceEqDiff, Nat.reduceLT, Nat.reduceLeDiff, Nat.reduceMul, Nat.reduceSub, reduceIte, Int.reduceEq, Int.reduceNe, Int.reduceLT, Int.reduceLE, Int.reduceAdd, Int.reduceSub, Int.reduceMul, Int.reduceNeg, Int.reduceMod, Int.reduceDiv, Int.reduceTMod, Int.reduceTDiv, Int.reduceToNat, okChain_i, okLoads_nil, okLoads_in, okLoads_eq]
  · rw [hr.2.2.2.2.2.2.2.2.2.1 h]
    have g48 : ¬ 48 ≤ ch := by omega
    have g46 : ¬ 46 ≤ ch := by omega
    have g9 : 9 ≤ ch := by omega
    have k1 : ¬ ch < 1 := by omega
    have k5 : ¬ ch < 5 := by omega
    have k9 : ¬ ch < 9 := by omega
    have k12 : ¬ ch < 12 := by omega
    have k15 : ¬ ch < 15 := by omega
    have k23 : ¬ ch < 23 := by omega
    have k25 : ¬ ch < 25 := by omega
    have k29 : ¬ ch < 29 := by omega
    have e29 : decide (ch = 29) = false := by simpa using (by omega : ¬ ch = 29)
    simp (maxDischargeDepth := 8) only [r35, b35, c35_0, c35_1, c35_2, c35_3, c35_4, c35_5, c35_6, c35_7, c35_8, c35_9, c35_10, c35_11, c35_12, c35_13, c35_14, c35_15, c35_16, c35_17, ho, g48, g46, g9, k1, k5, k9, k12, k15, k23, k25, k29, e29, RUN, Ed, knd, kndR, resV, binInt, mnmxV, mnmx2, fillL, unV, lenV, extractV, partV, loadAt, Nat.reduceAdd, Nat.reduceBEq, Nat.reduceEqDiff, Nat.reduceLT, Nat.reduceLeDiff, Nat.reduceMul, Nat.reduceSub, reduceIte, Int.reduceEq, Int.reduceNe, Int.reduceLT, Int.reduceLE, Int.reduceAdd, Int.reduceSub, Int.reduceMul, Int.reduceNeg, Int.reduceMod, Int.reduceDiv, Int.reduceTMod, Int.reduceTDiv, Int.reduceToNat, okChain_i, okLoads_nil, okLoads_in, okLoads_eq]
  · rw [hr.2.2.2.2.2.2.2.2.2.2.1 h]
    have g48 : ¬ 48 ≤ ch := by omega
    have g46 : 46 ≤ ch := by omega
    have g9 : 9 ≤ ch := by omega
    have k1 : ¬ ch < 1 := by omega
    have k5 : ¬ ch < 5 := by omega
    have k9 : ¬ ch < 9 := by omega
    have k12 : ¬ ch < 12 := by omega
    have k15 : ¬ ch < 15 := by omega
    have k23 : ¬ ch < 23 := by omega
    have k25 : ¬ ch < 25 := by omega
    have k29 : ¬ ch < 29 := by omega
    have e29 : decide (ch = 29) = false := by simpa using (by omega : ¬ ch = 29)
    simp (maxDischargeDepth := 8) only [r35, b35, c35_0, c35_1, c35_2, c35_3, c35_4, c35_5, c35_6, c35_7, c35_8, c35_9, c35_10, c35_11, c35_12, c35_13, c35_14, c35_15, c35_16, c35_17, ho, g48, g46, g9, k1, k5, k9, k12, k15, k23, k25, k29, e29, RUN, Ed, knd, kndR, resV, binInt, mnmxV, mnmx2, fillL, unV, lenV, extractV, partV, loadAt, Nat.reduceAdd, Nat.reduceBEq, Nat.reduceEqDiff, Nat.reduceLT, Nat.reduceLeDiff, Nat.reduceMul, Nat.reduceSub, reduceIte, Int.reduceEq, Int.reduceNe, Int.reduceLT, Int.reduceLE, Int.reduceAdd, Int.reduceSub, Int.reduceMul, Int.reduceNeg, Int.reduceMod, Int.reduceDiv, Int.reduceTMod, Int.reduceTDiv, Int.reduceToNat, okChain_i, okLoads_nil, okLoads_in, okLoads_eq]
  · rw [hr.2.2.2.2.2.2.2.2.2.2.2 h]
    have g48 : 48 ≤ ch := by omega
    have g46 : 46 ≤ ch := by omega
    have g9 : 9 ≤ ch := by omega
    have k1 : ¬ ch < 1 := by omega
    have k5 : ¬ ch < 5 := by omega
    have k9 : ¬ ch < 9 := by omega
    have k12 : ¬ ch < 12 := by omega
    have k15 : ¬ ch < 15 := by omega
    have k23 : ¬ ch < 23 := by omega
    have k25 : ¬ ch < 25 := by omega
    have k29 : ¬ ch < 29 := by omega
    have e29 : decide (ch = 29) = false := by simpa using (by omega : ¬ ch = 29)
    simp (maxDischargeDepth := 8) only [r35, b35, c35_0, c35_1, c35_2, c35_3, c35_4, c35_5, c35_6, c35_7, c35_8, c35_9, c35_10, c35_11, c35_12, c35_13, c35_14, c35_15, c35_16, c35_17, ho, g48, g46, g9, k1, k5, k9, k12, k15, k23, k25, k29, e29, RUN, Ed, knd, kndR, resV, binInt, mnmxV, mnmx2, fillL, unV, lenV, extractV, partV, loadAt, Nat.reduceAdd, Nat.reduceBEq, Nat.reduceEqDiff, Nat.reduceLT, Nat.reduceLeDiff, Nat.reduceMul, Nat.reduceSub, reduceIte, Int.reduceEq, Int.reduceNe, Int.reduceLT, Int.reduceLE, Int.reduceAdd, Int.reduceSub, Int.reduceMul, Int.reduceNeg, Int.reduceMod, Int.reduceDiv, Int.reduceTMod, Int.reduceTDiv, Int.reduceToNat, okChain_i, okLoads_nil, okLoads_in, okLoads_eq]
def OkS (ch v : Int) : Prop := (rgS ch).2.2 = true ∧ (rgS ch).1 ≤ v ∧ v ≤ (rgS ch).2.1
instance (ch v : Int) : Decidable (OkS ch v) := inferInstanceAs (Decidable (_ ∧ _))
theorem OkS_iv (ch v : Int) (h : OkS ch v) : 1 ≤ ch ∧ ch ≤ 47 ∧ -500000 ≤ v ∧ v ≤ 500000 := by
  have hr := rgS_iv ch
  unfold OkS at h
  rcases iv_cases ch with h1 | h1 | h1 | h1 | h1 | h1 | h1 | h1 | h1 | h1 | h1 | h1
  · rw [hr.1 h1] at h; have h2 := h.1; simp at h2
  · rw [hr.2.1 h1] at h; have h2 := h.2.1; have h3 := h.2.2; simp only at h2 h3; omega
  · rw [hr.2.2.1 h1] at h; have h2 := h.2.1; have h3 := h.2.2; simp only at h2 h3; omega
  · rw [hr.2.2.2.1 h1] at h; have h2 := h.2.1; have h3 := h.2.2; simp only at h2 h3; omega
  · rw [hr.2.2.2.2.1 h1] at h; have h2 := h.2.1; have h3 := h.2.2; simp only at h2 h3; omega
  · rw [hr.2.2.2.2.2.1 h1] at h; have h2 := h.2.1; have h3 := h.2.2; simp only at h2 h3; omega
  · rw [hr.2.2.2.2.2.2.1 h1] at h; have h2 := h.2.1; have h3 := h.2.2; simp only at h2 h3; omega
  · rw [hr.2.2.2.2.2.2.2.1 h1] at h; have h2 := h.2.1; have h3 := h.2.2; simp only at h2 h3; omega
  · rw [hr.2.2.2.2.2.2.2.2.1 h1] at h; have h2 := h.2.1; have h3 := h.2.2; simp only at h2 h3; omega
  · rw [hr.2.2.2.2.2.2.2.2.2.1 h1] at h; have h2 := h.2.1; have h3 := h.2.2; simp only at h2 h3; omega
  · rw [hr.2.2.2.2.2.2.2.2.2.2.1 h1] at h; have h2 := h.2.1; have h3 := h.2.2; simp only at h2 h3; omega
  · rw [hr.2.2.2.2.2.2.2.2.2.2.2 h1] at h; have h2 := h.1; simp at h2
theorem mayS_f (ch v : Int) (H : Heap) : ∃ X, K 47 [.int .i64 ch, .int .i64 v] H = some (.bool (decide (OkS ch v)), H ++ X) := by
  have e1 := fun G => range_f ch G
  have e2 := fun G => has_f (rgS ch).1 (rgS ch).2.1 v G
  obtain ⟨lo, hi, is, hz⟩ : ∃ lo hi is, rgS ch = (lo, hi, is) := ⟨_, _, _, rfl⟩
  have hk : OkS ch v ↔ (is = true ∧ lo ≤ v ∧ v ≤ hi) := by unfold OkS; rw [hz]
  rw [hz] at e1 e2
  simp only [K] at e1 e2 ⊢
  cases is
  · have hd : decide (OkS ch v) = false := by rw [decide_eq_false_iff_not, hk]; simp
    refine ⟨?X1, ?run1⟩
    case run1 =>
      rw [D_eq p47 _ _ (Nat.le_of_ble_eq_true rfl)]
      simp (maxDischargeDepth := 8) only [r47, b47, c47_0, c47_1, c47_2, hd, e1, e2, RUN, Ed, knd, kndR, resV, binInt, mnmxV, mnmx2, fillL, unV, lenV, extractV, partV, loadAt, Nat.reduceAdd, Nat.reduceBEq, Nat.reduceEqDiff, Nat.reduceLT, Nat.reduceLeDiff, Nat.reduceMul, Nat.reduceSub, reduceIte, Int.reduceEq, Int.reduceNe, Int.reduceLT, Int.reduceLE, Int.reduceAdd, Int.reduceSub, Int.reduceMul, Int.reduceNeg, Int.reduceMod, Int.reduceDiv, Int.reduceTMod, Int.reduceTDiv, Int.reduceToNat, okChain_i, okLoads_nil, okLoads_in, okLoads_eq]
      rfl
  · have hd : decide (OkS ch v) = decide (lo ≤ v ∧ v ≤ hi) := decide_eq_decide.2 (by rw [hk]; simp)
    refine ⟨?X2, ?run2⟩
    case run2 =>
      rw [D_eq p47 _ _ (Nat.le_of_ble_eq_true rfl)]
      simp (maxDischargeDepth := 8) only [r47, b47, c47_0, c47_1, c47_2, hd, e1, e2, RUN, Ed, knd, kndR, resV, binInt, mnmxV, mnmx2, fillL, unV, lenV, extractV, partV, loadAt, Nat.reduceAdd, Nat.reduceBEq, Nat.reduceEqDiff, Nat.reduceLT, Nat.reduceLeDiff, Nat.reduceMul, Nat.reduceSub, reduceIte, Int.reduceEq, Int.reduceNe, Int.reduceLT, Int.reduceLE, Int.reduceAdd, Int.reduceSub, Int.reduceMul, Int.reduceNeg, Int.reduceMod, Int.reduceDiv, Int.reduceTMod, Int.reduceTDiv, Int.reduceToNat, okChain_i, okLoads_nil, okLoads_in, okLoads_eq]
      rfl
theorem firstS_f (H : Heap) : ∃ X, K 32 [] H = some (.bool true, H ++ X) := by
  have e1 := fun G => range_f 0 G
  have e2 := fun G => range_f 29 G
  rw [show rgS 0 = (0, 0, false) by rfl] at e1
  rw [show rgS 29 = (0, 127, true) by rfl] at e2
  simp only [K] at e1 e2
  refine ⟨?X, ?run⟩
  case run =>
    rw [K, D_eq p32 _ _ (Nat.le_of_ble_eq_true rfl)]
    simp (maxDischargeDepth := 8) only [r32, b32, c32_0, c32_1, c32_2, c32_3, e1, e2, RUN, Ed, knd, kndR, resV, binInt, mnmxV, mnmx2, fillL, unV, lenV, extractV, partV, loadAt, Nat.reduceAdd, Nat.reduceBEq, Nat.reduceEqDiff, Nat.reduceLT, Nat.reduceLeDiff, Nat.reduceMul, Nat.reduceSub, reduceIte, Int.reduceEq, Int.reduceNe, Int.reduceLT, Int.reduceLE, Int.reduceAdd, Int.reduceSub, Int.reduceMul, Int.reduceNeg, Int.reduceMod, Int.reduceDiv, Int.reduceTMod, Int.reduceTDiv, Int.reduceToNat, okChain_i, okLoads_nil, okLoads_in, okLoads_eq]
    rfl
end Go.Proofs.YtdmfedmhcegggaaDoor.Sim
