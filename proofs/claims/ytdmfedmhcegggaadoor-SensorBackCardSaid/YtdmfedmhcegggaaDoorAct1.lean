/- Chapter 9 over the plain heap: what may be put out; equal bytes, frames. Printed by gen_act1.py. -/
import Derived.Test.YtdmfedmhcegggaaDoorSee2
import Derived.Test.YtdmfedmhcegggaaDoorSim21
namespace Go.Proofs.YtdmfedmhcegggaaDoor.Sim
open Go
set_option linter.unusedSimpArgs false
set_option linter.unusedVariables false
theorem in_f (n b : Int) (H : Heap) : K 43 [.int .i64 n, .int .i64 b] H = some (.bool (decide (0 ≤ n ∧ n ≤ b)), H) := by
  rw [K, D_eq p43 _ _ (Nat.le_of_ble_eq_true rfl)]
  by_cases h1 : 0 ≤ n
  · by_cases h2 : n ≤ b
    · have hd : decide (0 ≤ n ∧ n ≤ b) = true := by simp [h1, h2]
      simp (maxDischargeDepth := 8) only [r43, b43, c43_0, c43_1, h1, h2, hd, RUN, Ed, knd, kndR, resV, binInt, mnmxV, mnmx2, fillL, unV, lenV, extractV, partV, loadAt, Nat.reduceAdd, Nat.reduceBEq, Nat.reduceEqDiff, Nat.reduceLT, Nat.reduceLeDiff, Nat.reduceMul, Nat.reduceSub, reduceIte, Int.reduceEq, Int.reduceNe, Int.reduceLT, Int.reduceLE, Int.reduceAdd, Int.reduceSub, Int.reduceMul, Int.reduceNeg, Int.reduceMod, Int.reduceDiv, Int.reduceTMod, Int.reduceTDiv, Int.reduceToNat, okChain_i, okLoads_nil, okLoads_in, okLoads_eq]
    · have hd : decide (0 ≤ n ∧ n ≤ b) = false := by simp [h2]
      simp (maxDischargeDepth := 8) only [r43, b43, c43_0, c43_1, h1, h2, hd, RUN, Ed, knd, kndR, resV, binInt, mnmxV, mnmx2, fillL, unV, lenV, extractV, partV, loadAt, Nat.reduceAdd, Nat.reduceBEq, Nat.reduceEqDiff, Nat.reduceLT, Nat.reduceLeDiff, Nat.reduceMul, Nat.reduceSub, reduceIte, Int.reduceEq, Int.reduceNe, Int.reduceLT, Int.reduceLE, Int.reduceAdd, Int.reduceSub, Int.reduceMul, Int.reduceNeg, Int.reduceMod, Int.reduceDiv, Int.reduceTMod, Int.reduceTDiv, Int.reduceToNat, okChain_i, okLoads_nil, okLoads_in, okLoads_eq]
  · have hd : decide (0 ≤ n ∧ n ≤ b) = false := by simp [h1]
    rw [hd]
    simp (maxDischargeDepth := 8) only [r43, b43, c43_0, c43_1, h1, RUN, Ed, knd, kndR, resV, binInt, mnmxV, mnmx2, fillL, unV, lenV, extractV, partV, loadAt, Nat.reduceAdd, Nat.reduceBEq, Nat.reduceEqDiff, Nat.reduceLT, Nat.reduceLeDiff, Nat.reduceMul, Nat.reduceSub, reduceIte, Int.reduceEq, Int.reduceNe, Int.reduceLT, Int.reduceLE, Int.reduceAdd, Int.reduceSub, Int.reduceMul, Int.reduceNeg, Int.reduceMod, Int.reduceDiv, Int.reduceTMod, Int.reduceTDiv, Int.reduceToNat, okChain_i, okLoads_nil, okLoads_in, okLoads_eq]
def GoodP (c f g m n : Int) : Prop := (0 ≤ c ∧ c ≤ 127) ∧ (0 ≤ f ∧ f ≤ 65535) ∧ (0 ≤ g ∧ g ≤ 3) ∧ ¬ m < 1 ∧ ¬ 5 < m ∧ (0 ≤ n ∧ n ≤ 511)
instance (c f g m n : Int) : Decidable (GoodP c f g m n) := inferInstanceAs (Decidable (_ ∧ _))
def outL (c f g m n : Int) : List Value := [.int .i64 c, .int .i64 f, .int .i64 g, .int .i64 m, .int .i64 n]
theorem check_f (on : Nat → Bool) (c f g m n : Int) (H : Heap) (h : EH on H) (ho : on 0 = true) : K 18 [.agg ⟨outL c f g m n⟩] H = some (if GoodP c f g m n then .nilIface else Err 0, H ++ [some ⟨true, 24, outL c f g m n⟩]) := by
  have e := fun n b G => in_f n b G
  simp only [K] at e
  obtain ⟨t0, e0⟩ := h 0 (by omega) ho
  have i0 := live_lt e0
  rw [K, D_eq p18 _ _ (Nat.le_of_ble_eq_true rfl)]
  by_cases k0 : 0 ≤ c ∧ c ≤ 127
  · have d0 : decide (0 ≤ c ∧ c ≤ 127) = true := by simpa using k0
    by_cases k1 : 0 ≤ f ∧ f ≤ 65535
    · have d1 : decide (0 ≤ f ∧ f ≤ 65535) = true := by simpa using k1
      by_cases k2 : 0 ≤ g ∧ g ≤ 3
      · have d2 : decide (0 ≤ g ∧ g ≤ 3) = true := by simpa using k2
        by_cases k3 : m < 1
        · have d3 : decide (m < 1) = true := by simpa using k3
          have hg : ¬ GoodP c f g m n := by unfold GoodP; grind
          rw [if_neg hg]
          simp (maxDischargeDepth := 8) only [r18, b18, c18_0, c18_1, c18_2, c18_3, outL, e, e0, i0, g0, d0, d1, d2, d3, RUN, Ed, knd, kndR, resV, binInt, mnmxV, mnmx2, fillL, unV, lenV, extractV, partV, loadAt, Nat.reduceAdd, Nat.reduceBEq, Nat.reduceEqDiff, Nat.reduceLT, Nat.reduceLeDiff, Nat.reduceMul, Nat.reduceSub, reduceIte, Int.reduceEq, Int.reduceNe, Int.reduceLT, Int.reduceLE, Int.reduceAdd, Int.reduceSub, Int.reduceMul, Int.reduceNeg, Int.reduceMod, Int.reduceDiv, Int.reduceTMod, Int.reduceTDiv, Int.reduceToNat, okChain_i, okLoads_nil, okLoads_in, okLoads_eq]
        · have d3 : decide (m < 1) = false := by simpa using k3
          by_cases k4 : 5 < m
          · have d4 : decide (5 < m) = true := by simpa using k4
            have hg : ¬ GoodP c f g m n := by unfold GoodP; grind
            rw [if_neg hg]
            simp (maxDischargeDepth := 8) only [r18, b18, c18_0, c18_1, c18_2, c18_3, outL, e, e0, i0, g0, d0, d1, d2, d3, d4, RUN, Ed, knd, kndR, resV, binInt, mnmxV, mnmx2, fillL, unV, lenV, extractV, partV, loadAt, Nat.reduceAdd, Nat.reduceBEq, Nat.reduceEqDiff, Nat.reduceLT, Nat.reduceLeDiff, Nat.reduceMul, Nat.reduceSub, reduceIte, Int.reduceEq, Int.reduceNe, Int.reduceLT, Int.reduceLE, Int.reduceAdd, Int.reduceSub, Int.reduceMul, Int.reduceNeg, Int.reduceMod, Int.reduceDiv, Int.reduceTMod, Int.reduceTDiv, Int.reduceToNat, okChain_i, okLoads_nil, okLoads_in, okLoads_eq]
          · have d4 : decide (5 < m) = false := by simpa using k4
            by_cases k5 : 0 ≤ n ∧ n ≤ 511
            · have d5 : decide (0 ≤ n ∧ n ≤ 511) = true := by simpa using k5
              have hg : GoodP c f g m n := by unfold GoodP; grind
              rw [if_pos hg]
              simp (maxDischargeDepth := 8) only [r18, b18, c18_0, c18_1, c18_2, c18_3, outL, e, e0, i0, g0, d0, d1, d2, d3, d4, d5, RUN, Ed, knd, kndR, resV, binInt, mnmxV, mnmx2, fillL, unV, lenV, extractV, partV, loadAt, Nat.reduceAdd, Nat.reduceBEq, Nat.reduceEqDiff, Nat.reduceLT, Nat.reduceLeDiff, Nat.reduceMul, Nat.reduceSub, reduceIte, Int.reduceEq, Int.reduceNe, Int.reduceLT, Int.reduceLE, Int.reduceAdd, Int.reduceSub, Int.reduceMul, Int.reduceNeg, Int.reduceMod, Int.reduceDiv, Int.reduceTMod, Int.reduceTDiv, Int.reduceToNat, okChain_i, okLoads_nil, okLoads_in, okLoads_eq]
            · have d5 : decide (0 ≤ n ∧ n ≤ 511) = false := by simpa using k5
              have hg : ¬ GoodP c f g m n := by unfold GoodP; grind
              rw [if_neg hg]
              simp (maxDischargeDepth := 8) only [r18, b18, c18_0, c18_1, c18_2, c18_3, outL, e, e0, i0, g0, d0, d1, d2, d3, d4, d5, RUN, Ed, knd, kndR, resV, binInt, mnmxV, mnmx2, fillL, unV, lenV, extractV, partV, loadAt, Nat.reduceAdd, Nat.reduceBEq, Nat.reduceEqDiff, Nat.reduceLT, Nat.reduceLeDiff, Nat.reduceMul, Nat.reduceSub, reduceIte, Int.reduceEq, Int.reduceNe, Int.reduceLT, Int.reduceLE, Int.reduceAdd, Int.reduceSub, Int.reduceMul, Int.reduceNeg, Int.reduceMod, Int.reduceDiv, Int.reduceTMod, Int.reduceTDiv, Int.reduceToNat, okChain_i, okLoads_nil, okLoads_in, okLoads_eq]
      · have d2 : decide (0 ≤ g ∧ g ≤ 3) = false := by simpa using k2
        have hg : ¬ GoodP c f g m n := by unfold GoodP; grind
        rw [if_neg hg]
        simp (maxDischargeDepth := 8) only [r18, b18, c18_0, c18_1, c18_2, c18_3, outL, e, e0, i0, g0, d0, d1, d2, RUN, Ed, knd, kndR, resV, binInt, mnmxV, mnmx2, fillL, unV, lenV, extractV, partV, loadAt, Nat.reduceAdd, Nat.reduceBEq, Nat.reduceEqDiff, Nat.reduceLT, Nat.reduceLeDiff, Nat.reduceMul, Nat.reduceSub, reduceIte, Int.reduceEq, Int.reduceNe, Int.reduceLT, Int.reduceLE, Int.reduceAdd, Int.reduceSub, Int.reduceMul, Int.reduceNeg, Int.reduceMod, Int.reduceDiv, Int.reduceTMod, Int.reduceTDiv, Int.reduceToNat, okChain_i, okLoads_nil, okLoads_in, okLoads_eq]
    · have d1 : decide (0 ≤ f ∧ f ≤ 65535) = false := by simpa using k1
      have hg : ¬ GoodP c f g m n := by unfold GoodP; grind
      rw [if_neg hg]
      simp (maxDischargeDepth := 8) only [r18, b18, c18_0, c18_1, c18_2, c18_3, outL, e, e0, i0, g0, d0, d1, RUN, Ed, knd, kndR, resV, binInt, mnmxV, mnmx2, fillL, unV, lenV, extractV, partV, loadAt, Nat.reduceAdd, Nat.reduceBEq, Nat.reduceEqDiff, Nat.reduceLT, Nat.reduceLeDiff, Nat.reduceMul, Nat.reduceSub, reduceIte, Int.reduceEq, Int.reduceNe, Int.reduceLT, Int.reduceLE, Int.reduceAdd, Int.reduceSub, Int.reduceMul, Int.reduceNeg, Int.reduceMod, Int.reduceDiv, Int.reduceTMod, Int.reduceTDiv, Int.reduceToNat, okChain_i, okLoads_nil, okLoads_in, okLoads_eq]
  · have d0 : decide (0 ≤ c ∧ c ≤ 127) = false := by simpa using k0
    have hg : ¬ GoodP c f g m n := by unfold GoodP; grind
    rw [if_neg hg]
    simp (maxDischargeDepth := 8) only [r18, b18, c18_0, c18_1, c18_2, c18_3, outL, e, e0, i0, g0, d0, RUN, Ed, knd, kndR, resV, binInt, mnmxV, mnmx2, fillL, unV, lenV, extractV, partV, loadAt, Nat.reduceAdd, Nat.reduceBEq, Nat.reduceEqDiff, Nat.reduceLT, Nat.reduceLeDiff, Nat.reduceMul, Nat.reduceSub, reduceIte, Int.reduceEq, Int.reduceNe, Int.reduceLT, Int.reduceLE, Int.reduceAdd, Int.reduceSub, Int.reduceMul, Int.reduceNeg, Int.reduceMod, Int.reduceDiv, Int.reduceTMod, Int.reduceTDiv, Int.reduceToNat, okChain_i, okLoads_nil, okLoads_in, okLoads_eq]
theorem goodOut_f (c f g m n : Int) (H : Heap) : K 22 [.agg ⟨outL c f g m n⟩] H = some (.bool (decide (GoodP c f g m n)), H ++ [some ⟨true, 24, outL c f g m n⟩]) := by
  rw [K, D_eq p22 _ _ (Nat.le_of_ble_eq_true rfl)]
  by_cases k0 : 0 ≤ c
  · have d0 : decide (0 ≤ c) = true := by simpa using k0
    by_cases k1 : c ≤ 127
    · have d1 : decide (c ≤ 127) = true := by simpa using k1
      by_cases k2 : 0 ≤ f
      · have d2 : decide (0 ≤ f) = true := by simpa using k2
        by_cases k3 : f ≤ 65535
        · have d3 : decide (f ≤ 65535) = true := by simpa using k3
          by_cases k4 : 0 ≤ g
          · have d4 : decide (0 ≤ g) = true := by simpa using k4
            by_cases k5 : g ≤ 3
            · have d5 : decide (g ≤ 3) = true := by simpa using k5
              by_cases k6 : 1 ≤ m
              · have d6 : decide (1 ≤ m) = true := by simpa using k6
                by_cases k7 : m ≤ 5
                · have d7 : decide (m ≤ 5) = true := by simpa using k7
                  by_cases k8 : 0 ≤ n
                  · have d8 : decide (0 ≤ n) = true := by simpa using k8
                    by_cases k9 : n ≤ 511
                    · have d9 : decide (n ≤ 511) = true := by simpa using k9
                      have hg : decide (GoodP c f g m n) = true := by rw [decide_eq_true_iff]; unfold GoodP; grind
                      simp (maxDischargeDepth := 8) only [r22, b22, c22_0, c22_1, outL, hg, d0, d1, d2, d3, d4, d5, d6, d7, d8, d9, RUN, Ed, knd, kndR, resV, binInt, mnmxV, mnmx2, fillL, unV, lenV, extractV, partV, loadAt, Nat.reduceAdd, Nat.reduceBEq, Nat.reduceEqDiff, Nat.reduceLT, Nat.reduceLeDiff, Nat.reduceMul, Nat.reduceSub, reduceIte, Int.reduceEq, Int.reduceNe, Int.reduceLT, Int.reduceLE, Int.reduceAdd, Int.reduceSub, Int.reduceMul, Int.reduceNeg, Int.reduceMod, Int.reduceDiv, Int.reduceTMod, Int.reduceTDiv, Int.reduceToNat, okChain_i, okLoads_nil, okLoads_in, okLoads_eq]
                    · have d9 : decide (n ≤ 511) = false := by simpa using k9
                      have hg : decide (GoodP c f g m n) = false := by rw [decide_eq_false_iff_not]; unfold GoodP; grind
                      simp (maxDischargeDepth := 8) only [r22, b22, c22_0, c22_1, outL, hg, d0, d1, d2, d3, d4, d5, d6, d7, d8, d9, RUN, Ed, knd, kndR, resV, binInt, mnmxV, mnmx2, fillL, unV, lenV, extractV, partV, loadAt, Nat.reduceAdd, Nat.reduceBEq, Nat.reduceEqDiff, Nat.reduceLT, Nat.reduceLeDiff, Nat.reduceMul, Nat.reduceSub, reduceIte, Int.reduceEq, Int.reduceNe, Int.reduceLT, Int.reduceLE, Int.reduceAdd, Int.reduceSub, Int.reduceMul, Int.reduceNeg, Int.reduceMod, Int.reduceDiv, Int.reduceTMod, Int.reduceTDiv, Int.reduceToNat, okChain_i, okLoads_nil, okLoads_in, okLoads_eq]
                  · have d8 : decide (0 ≤ n) = false := by simpa using k8
                    have hg : decide (GoodP c f g m n) = false := by rw [decide_eq_false_iff_not]; unfold GoodP; grind
                    simp (maxDischargeDepth := 8) only [r22, b22, c22_0, c22_1, outL, hg, d0, d1, d2, d3, d4, d5, d6, d7, d8, RUN, Ed, knd, kndR, resV, binInt, mnmxV, mnmx2, fillL, unV, lenV, extractV, partV, loadAt, Nat.reduceAdd, Nat.reduceBEq, Nat.reduceEqDiff, Nat.reduceLT, Nat.reduceLeDiff, Nat.reduceMul, Nat.reduceSub, reduceIte, Int.reduceEq, Int.reduceNe, Int.reduceLT, Int.reduceLE, Int.reduceAdd, Int.reduceSub, Int.reduceMul, Int.reduceNeg, Int.reduceMod, Int.reduceDiv, Int.reduceTMod, Int.reduceTDiv, Int.reduceToNat, okChain_i, okLoads_nil, okLoads_in, okLoads_eq]
                · have d7 : decide (m ≤ 5) = false := by simpa using k7
                  have hg : decide (GoodP c f g m n) = false := by rw [decide_eq_false_iff_not]; unfold GoodP; grind
                  simp (maxDischargeDepth := 8) only [r22, b22, c22_0, c22_1, outL, hg, d0, d1, d2, d3, d4, d5, d6, d7, RUN, Ed, knd, kndR, resV, binInt, mnmxV, mnmx2, fillL, unV, lenV, extractV, partV, loadAt, Nat.reduceAdd, Nat.reduceBEq, Nat.reduceEqDiff, Nat.reduceLT, Nat.reduceLeDiff, Nat.reduceMul, Nat.reduceSub, reduceIte, Int.reduceEq, Int.reduceNe, Int.reduceLT, Int.reduceLE, Int.reduceAdd, Int.reduceSub, Int.reduceMul, Int.reduceNeg, Int.reduceMod, Int.reduceDiv, Int.reduceTMod, Int.reduceTDiv, Int.reduceToNat, okChain_i, okLoads_nil, okLoads_in, okLoads_eq]
              · have d6 : decide (1 ≤ m) = false := by simpa using k6
                have hg : decide (GoodP c f g m n) = false := by rw [decide_eq_false_iff_not]; unfold GoodP; grind
                simp (maxDischargeDepth := 8) only [r22, b22, c22_0, c22_1, outL, hg, d0, d1, d2, d3, d4, d5, d6, RUN, Ed, knd, kndR, resV, binInt, mnmxV, mnmx2, fillL, unV, lenV, extractV, partV, loadAt, Nat.reduceAdd, Nat.reduceBEq, Nat.reduceEqDiff, Nat.reduceLT, Nat.reduceLeDiff, Nat.reduceMul, Nat.reduceSub, reduceIte, Int.reduceEq, Int.reduceNe, Int.reduceLT, Int.reduceLE, Int.reduceAdd, Int.reduceSub, Int.reduceMul, Int.reduceNeg, Int.reduceMod, Int.reduceDiv, Int.reduceTMod, Int.reduceTDiv, Int.reduceToNat, okChain_i, okLoads_nil, okLoads_in, okLoads_eq]
            · have d5 : decide (g ≤ 3) = false := by simpa using k5
              have hg : decide (GoodP c f g m n) = false := by rw [decide_eq_false_iff_not]; unfold GoodP; grind
              simp (maxDischargeDepth := 8) only [r22, b22, c22_0, c22_1, outL, hg, d0, d1, d2, d3, d4, d5, RUN, Ed, knd, kndR, resV, binInt, mnmxV, mnmx2, fillL, unV, lenV, extractV, partV, loadAt, Nat.reduceAdd, Nat.reduceBEq, Nat.reduceEqDiff, Nat.reduceLT, Nat.reduceLeDiff, Nat.reduceMul, Nat.reduceSub, reduceIte, Int.reduceEq, Int.reduceNe, Int.reduceLT, Int.reduceLE, Int.reduceAdd, Int.reduceSub, Int.reduceMul, Int.reduceNeg, Int.reduceMod, Int.reduceDiv, Int.reduceTMod, Int.reduceTDiv, Int.reduceToNat, okChain_i, okLoads_nil, okLoads_in, okLoads_eq]
          · have d4 : decide (0 ≤ g) = false := by simpa using k4
            have hg : decide (GoodP c f g m n) = false := by rw [decide_eq_false_iff_not]; unfold GoodP; grind
            simp (maxDischargeDepth := 8) only [r22, b22, c22_0, c22_1, outL, hg, d0, d1, d2, d3, d4, RUN, Ed, knd, kndR, resV, binInt, mnmxV, mnmx2, fillL, unV, lenV, extractV, partV, loadAt, Nat.reduceAdd, Nat.reduceBEq, Nat.reduceEqDiff, Nat.reduceLT, Nat.reduceLeDiff, Nat.reduceMul, Nat.reduceSub, reduceIte, Int.reduceEq, Int.reduceNe, Int.reduceLT, Int.reduceLE, Int.reduceAdd, Int.reduceSub, Int.reduceMul, Int.reduceNeg, Int.reduceMod, Int.reduceDiv, Int.reduceTMod, Int.reduceTDiv, Int.reduceToNat, okChain_i, okLoads_nil, okLoads_in, okLoads_eq]
        · have d3 : decide (f ≤ 65535) = false := by simpa using k3
          have hg : decide (GoodP c f g m n) = false := by rw [decide_eq_false_iff_not]; unfold GoodP; grind
          simp (maxDischargeDepth := 8) only [r22, b22, c22_0, c22_1, outL, hg, d0, d1, d2, d3, RUN, Ed, knd, kndR, resV, binInt, mnmxV, mnmx2, fillL, unV, lenV, extractV, partV, loadAt, Nat.reduceAdd, Nat.reduceBEq, Nat.reduceEqDiff, Nat.reduceLT, Nat.reduceLeDiff, Nat.reduceMul, Nat.reduceSub, reduceIte, Int.reduceEq, Int.reduceNe, Int.reduceLT, Int.reduceLE, Int.reduceAdd, Int.reduceSub, Int.reduceMul, Int.reduceNeg, Int.reduceMod, Int.reduceDiv, Int.reduceTMod, Int.reduceTDiv, Int.reduceToNat, okChain_i, okLoads_nil, okLoads_in, okLoads_eq]
      · have d2 : decide (0 ≤ f) = false := by simpa using k2
        have hg : decide (GoodP c f g m n) = false := by rw [decide_eq_false_iff_not]; unfold GoodP; grind
        simp (maxDischargeDepth := 8) only [r22, b22, c22_0, c22_1, outL, hg, d0, d1, d2, RUN, Ed, knd, kndR, resV, binInt, mnmxV, mnmx2, fillL, unV, lenV, extractV, partV, loadAt, Nat.reduceAdd, Nat.reduceBEq, Nat.reduceEqDiff, Nat.reduceLT, Nat.reduceLeDiff, Nat.reduceMul, Nat.reduceSub, reduceIte, Int.reduceEq, Int.reduceNe, Int.reduceLT, Int.reduceLE, Int.reduceAdd, Int.reduceSub, Int.reduceMul, Int.reduceNeg, Int.reduceMod, Int.reduceDiv, Int.reduceTMod, Int.reduceTDiv, Int.reduceToNat, okChain_i, okLoads_nil, okLoads_in, okLoads_eq]
    · have d1 : decide (c ≤ 127) = false := by simpa using k1
      have hg : decide (GoodP c f g m n) = false := by rw [decide_eq_false_iff_not]; unfold GoodP; grind
      simp (maxDischargeDepth := 8) only [r22, b22, c22_0, c22_1, outL, hg, d0, d1, RUN, Ed, knd, kndR, resV, binInt, mnmxV, mnmx2, fillL, unV, lenV, extractV, partV, loadAt, Nat.reduceAdd, Nat.reduceBEq, Nat.reduceEqDiff, Nat.reduceLT, Nat.reduceLeDiff, Nat.reduceMul, Nat.reduceSub, reduceIte, Int.reduceEq, Int.reduceNe, Int.reduceLT, Int.reduceLE, Int.reduceAdd, Int.reduceSub, Int.reduceMul, Int.reduceNeg, Int.reduceMod, Int.reduceDiv, Int.reduceTMod, Int.reduceTDiv, Int.reduceToNat, okChain_i, okLoads_nil, okLoads_in, okLoads_eq]
  · have d0 : decide (0 ≤ c) = false := by simpa using k0
    have hg : decide (GoodP c f g m n) = false := by rw [decide_eq_false_iff_not]; unfold GoodP; grind
    simp (maxDischargeDepth := 8) only [r22, b22, c22_0, c22_1, outL, hg, d0, RUN, Ed, knd, kndR, resV, binInt, mnmxV, mnmx2, fillL, unV, lenV, extractV, partV, loadAt, Nat.reduceAdd, Nat.reduceBEq, Nat.reduceEqDiff, Nat.reduceLT, Nat.reduceLeDiff, Nat.reduceMul, Nat.reduceSub, reduceIte, Int.reduceEq, Int.reduceNe, Int.reduceLT, Int.reduceLE, Int.reduceAdd, Int.reduceSub, Int.reduceMul, Int.reduceNeg, Int.reduceMod, Int.reduceDiv, Int.reduceTMod, Int.reduceTDiv, Int.reduceToNat, okChain_i, okLoads_nil, okLoads_in, okLoads_eq]
theorem sameOut_f (c f g m n c' f' g' m' n' : Int) (H : Heap) : K 16 [.agg ⟨outL c f g m n⟩, .agg ⟨outL c' f' g' m' n'⟩] H = some (.bool (decide (c = c' ∧ f = f' ∧ g = g' ∧ m = m' ∧ n = n')), H ++ [some ⟨true, 24, outL c f g m n⟩, some ⟨true, 24, outL c' f' g' m' n'⟩]) := by
  rw [K, D_eq p16 _ _ (Nat.le_of_ble_eq_true rfl)]
  by_cases k0 : c = c'
  · have d0 : decide (c = c') = true := by simpa using k0
    by_cases k1 : f = f'
    · have d1 : decide (f = f') = true := by simpa using k1
      by_cases k2 : g = g'
      · have d2 : decide (g = g') = true := by simpa using k2
        by_cases k3 : m = m'
        · have d3 : decide (m = m') = true := by simpa using k3
          by_cases k4 : n = n'
          · have d4 : decide (n = n') = true := by simpa using k4
            have hg : decide (c = c' ∧ f = f' ∧ g = g' ∧ m = m' ∧ n = n') = true := by rw [decide_eq_true_iff]; grind
            simp (maxDischargeDepth := 8) only [r16, b16, c16_0, c16_1, outL, hg, d0, d1, d2, d3, d4, RUN, Ed, knd, kndR, resV, binInt, mnmxV, mnmx2, fillL, unV, lenV, extractV, partV, loadAt, Nat.reduceAdd, Nat.reduceBEq, Nat.reduceEqDiff, Nat.reduceLT, Nat.reduceLeDiff, Nat.reduceMul, Nat.reduceSub, reduceIte, Int.reduceEq, Int.reduceNe, Int.reduceLT, Int.reduceLE, Int.reduceAdd, Int.reduceSub, Int.reduceMul, Int.reduceNeg, Int.reduceMod, Int.reduceDiv, Int.reduceTMod, Int.reduceTDiv, Int.reduceToNat, okChain_i, okLoads_nil, okLoads_in, okLoads_eq]
          · have d4 : decide (n = n') = false := by simpa using k4
            have hg : decide (c = c' ∧ f = f' ∧ g = g' ∧ m = m' ∧ n = n') = false := by rw [decide_eq_false_iff_not]; grind
            simp (maxDischargeDepth := 8) only [r16, b16, c16_0, c16_1, outL, hg, d0, d1, d2, d3, d4, RUN, Ed, knd, kndR, resV, binInt, mnmxV, mnmx2, fillL, unV, lenV, extractV, partV, loadAt, Nat.reduceAdd, Nat.reduceBEq, Nat.reduceEqDiff, Nat.reduceLT, Nat.reduceLeDiff, Nat.reduceMul, Nat.reduceSub, reduceIte, Int.reduceEq, Int.reduceNe, Int.reduceLT, Int.reduceLE, Int.reduceAdd, Int.reduceSub, Int.reduceMul, Int.reduceNeg, Int.reduceMod, Int.reduceDiv, Int.reduceTMod, Int.reduceTDiv, Int.reduceToNat, okChain_i, okLoads_nil, okLoads_in, okLoads_eq]
        · have d3 : decide (m = m') = false := by simpa using k3
          have hg : decide (c = c' ∧ f = f' ∧ g = g' ∧ m = m' ∧ n = n') = false := by rw [decide_eq_false_iff_not]; grind
          simp (maxDischargeDepth := 8) only [r16, b16, c16_0, c16_1, outL, hg, d0, d1, d2, d3, RUN, Ed, knd, kndR, resV, binInt, mnmxV, mnmx2, fillL, unV, lenV, extractV, partV, loadAt, Nat.reduceAdd, Nat.reduceBEq, Nat.reduceEqDiff, Nat.reduceLT, Nat.reduceLeDiff, Nat.reduceMul, Nat.reduceSub, reduceIte, Int.reduceEq, Int.reduceNe, Int.reduceLT, Int.reduceLE, Int.reduceAdd, Int.reduceSub, Int.reduceMul, Int.reduceNeg, Int.reduceMod, Int.reduceDiv, Int.reduceTMod, Int.reduceTDiv, Int.reduceToNat, okChain_i, okLoads_nil, okLoads_in, okLoads_eq]
      · have d2 : decide (g = g') = false := by simpa using k2
        have hg : decide (c = c' ∧ f = f' ∧ g = g' ∧ m = m' ∧ n = n') = false := by rw [decide_eq_false_iff_not]; grind
        simp (maxDischargeDepth := 8) only [r16, b16, c16_0, c16_1, outL, hg, d0, d1, d2, RUN, Ed, knd, kndR, resV, binInt, mnmxV, mnmx2, fillL, unV, lenV, extractV, partV, loadAt, Nat.reduceAdd, Nat.reduceBEq, Nat.reduceEqDiff, Nat.reduceLT, Nat.reduceLeDiff, Nat.reduceMul, Nat.reduceSub, reduceIte, Int.reduceEq, Int.reduceNe, Int.reduceLT, Int.reduceLE, Int.reduceAdd, Int.reduceSub, Int.reduceMul, Int.reduceNeg, Int.reduceMod, Int.reduceDiv, Int.reduceTMod, Int.reduceTDiv, Int.reduceToNat, okChain_i, okLoads_nil, okLoads_in, okLoads_eq]
    · have d1 : decide (f = f') = false := by simpa using k1
      have hg : decide (c = c' ∧ f = f' ∧ g = g' ∧ m = m' ∧ n = n') = false := by rw [decide_eq_false_iff_not]; grind
      simp (maxDischargeDepth := 8) only [r16, b16, c16_0, c16_1, outL, hg, d0, d1, RUN, Ed, knd, kndR, resV, binInt, mnmxV, mnmx2, fillL, unV, lenV, extractV, partV, loadAt, Nat.reduceAdd, Nat.reduceBEq, Nat.reduceEqDiff, Nat.reduceLT, Nat.reduceLeDiff, Nat.reduceMul, Nat.reduceSub, reduceIte, Int.reduceEq, Int.reduceNe, Int.reduceLT, Int.reduceLE, Int.reduceAdd, Int.reduceSub, Int.reduceMul, Int.reduceNeg, Int.reduceMod, Int.reduceDiv, Int.reduceTMod, Int.reduceTDiv, Int.reduceToNat, okChain_i, okLoads_nil, okLoads_in, okLoads_eq]
  · have d0 : decide (c = c') = false := by simpa using k0
    have hg : decide (c = c' ∧ f = f' ∧ g = g' ∧ m = m' ∧ n = n') = false := by rw [decide_eq_false_iff_not]; grind
    simp (maxDischargeDepth := 8) only [r16, b16, c16_0, c16_1, outL, hg, d0, RUN, Ed, knd, kndR, resV, binInt, mnmxV, mnmx2, fillL, unV, lenV, extractV, partV, loadAt, Nat.reduceAdd, Nat.reduceBEq, Nat.reduceEqDiff, Nat.reduceLT, Nat.reduceLeDiff, Nat.reduceMul, Nat.reduceSub, reduceIte, Int.reduceEq, Int.reduceNe, Int.reduceLT, Int.reduceLE, Int.reduceAdd, Int.reduceSub, Int.reduceMul, Int.reduceNeg, Int.reduceMod, Int.reduceDiv, Int.reduceTMod, Int.reduceTDiv, Int.reduceToNat, okChain_i, okLoads_nil, okLoads_in, okLoads_eq]
/-- A slice of bytes: what they are. -/
def BS (H : Heap) (v : Value) (A : List Int) : Prop := (A = [] ∧ ∃ e, v = .slice none 0 e) ∨ ∃ i o e ow ty cells, v = .slice (some ⟨i, o, none⟩) A.length e ∧ live H i = some ⟨ow, ty, cells⟩ ∧ ∀ j a, A[j]? = some a → cells[o + j]? = some (.int .u8 a)
theorem BS.mono {H G : Heap} {v : Value} {A : List Int} (h : BS H v A) (k : ∀ (i : Nat) (b : Blk), live H i = some b → live G i = some b) : BS G v A := by
  rcases h with h | ⟨i, o, e, ow, ty, cells, h1, h2, h3⟩
  · exact .inl h
  · exact .inr ⟨i, o, e, ow, ty, cells, h1, k _ _ h2, h3⟩
theorem BS.more {H : Heap} {v : Value} {A : List Int} (h : BS H v A) (X : Heap) : BS (H ++ X) v A := h.mono fun i b e => live_more0 e X
theorem BS.len {H : Heap} {v : Value} {A : List Int} (h : BS H v A) : lenV false v = some (.int .i64 A.length) := by
  rcases h with ⟨rfl, e, rfl⟩ | ⟨i, o, e, ow, ty, cells, rfl, _, _⟩ <;> rfl
theorem BS.idx {H : Heap} {v : Value} {A : List Int} (h : BS H v A) {j : Nat} {a : Int} (ha : A[j]? = some a) : ∃ i o, idxSV 1 v (.int .i64 j) = some (.pointer (some ⟨i, o, none⟩)) ∧ ∃ ow ty cells, live H i = some ⟨ow, ty, cells⟩ ∧ cells[o]? = some (.int .u8 a) := by
  rcases h with ⟨rfl, e, rfl⟩ | ⟨i, o, e, ow, ty, cells, rfl, h2, h3⟩
  · simp at ha
  · have hj : j < A.length := by
      rcases Nat.lt_or_ge j A.length with q | q
      · exact q
      · rw [List.getElem?_eq_none q] at ha; cases ha
    exact ⟨i, o + j, by rw [idxS_s _ _ _ _ _ _ _ (by omega) (by omega)]; simp, ow, ty, cells, h2, h3 j a ha⟩
theorem BS.one {H : Heap} {v : Value} {A : List Int} (h : BS H v A) : v.oneCell' = true ∧ v.cells.toList = [v] := by
  rcases h with ⟨rfl, e, rfl⟩ | ⟨i, o, e, ow, ty, cells, rfl, _, _⟩ <;> exact ⟨rfl, rfl⟩
structure S40 (v u : Value) (k : Nat) (ρ : Fr) : Prop where
  q0 : ρ 0 = v
  q1 : ρ 1 = u
  q5 : ρ 5 = .int .i64 k
theorem round40 (H : Heap) (v u : Value) (A B : List Int) (hA : BS H v A) (hB : BS H u B) (k : Nat) (a b : Int) (ha : A[k]? = some a) (hb : B[k]? = some b) (hl : A.length ≤ 9223372036854775806) (ρ : Fr) (hs : S40 v u k ρ) :
    (a = b → ∃ ρ', E Tryd.prog hints l40_0 ρ H = some (.normal, ρ', H) ∧ S40 v u (k + 1) ρ') ∧ (a ≠ b → ∃ ρ', E Tryd.prog hints l40_0 ρ H = some (.ret, ρ', H) ∧ ρ' 4 = .bool false) := by
  obtain ⟨q0, q1, q5⟩ := hs
  obtain ⟨i, o, e1, ow, ty, cells, e2, e3⟩ := hA.idx ha
  obtain ⟨i', o', f1, ow', ty', cells', f2, f3⟩ := hB.idx hb
  have l1 := hA.len
  have hk : k < A.length := by
    rcases Nat.lt_or_ge k A.length with q | q
    · exact q
    · rw [List.getElem?_eq_none q] at ha; cases ha
  have hlt : (k : Int) < (A.length : Int) := by omega
  have g1 := live_lt e2
  have g2' := live_lt f2
  have w := wrap64 ((k : Int) + 1) (by omega) (by omega)
  constructor
  · intro hab
    subst hab
    refine ⟨?ρ1, ?run1, ?inv1⟩
    case run1 =>
      simp (maxDischargeDepth := 8) only [l40_0, c40_4, c40_5, c40_6, c40_7, c40_8, q0, q1, q5, e1, e2, e3, f1, f2, f3, l1, hlt, g1, g2', w, RUN, Ed, knd, kndR, resV, binInt, mnmxV, mnmx2, fillL, unV, extractV, partV, loadAt, Nat.reduceAdd, Nat.reduceBEq, Nat.reduceEqDiff, Nat.reduceLT, Nat.reduceLeDiff, Nat.reduceMul, Nat.reduceSub, reduceIte, Int.reduceEq, Int.reduceNe, Int.reduceLT, Int.reduceLE, Int.reduceAdd, Int.reduceSub, Int.reduceMul, Int.reduceNeg, Int.reduceMod, Int.reduceDiv, Int.reduceTMod, Int.reduceTDiv, Int.reduceToNat, okChain_i, okLoads_nil, okLoads_in, okLoads_eq]
      rfl
    case inv1 =>
      constructor <;> first | (simp (maxDischargeDepth := 8) only [q0, q1, q5, RUN, Ed, knd, kndR, resV, binInt, mnmxV, mnmx2, fillL, unV, lenV, extractV, partV, loadAt, Nat.reduceAdd, Nat.reduceBEq, Nat.reduceEqDiff, Nat.reduceLT, Nat.reduceLeDiff, Nat.reduceMul, Nat.reduceSub, reduceIte, Int.reduceEq, Int.reduceNe, Int.reduceLT, Int.reduceLE, Int.reduceAdd, Int.reduceSub, Int.reduceMul, Int.reduceNeg, Int.reduceMod, Int.reduceDiv, Int.reduceTMod, Int.reduceTDiv, Int.reduceToNat, okChain_i, okLoads_nil, okLoads_in, okLoads_eq]; done) | (simp (maxDischargeDepth := 8) only [q0, q1, q5, RUN, Ed, knd, kndR, resV, binInt, mnmxV, mnmx2, fillL, unV, lenV, extractV, partV, loadAt, Nat.reduceAdd, Nat.reduceBEq, Nat.reduceEqDiff, Nat.reduceLT, Nat.reduceLeDiff, Nat.reduceMul, Nat.reduceSub, reduceIte, Int.reduceEq, Int.reduceNe, Int.reduceLT, Int.reduceLE, Int.reduceAdd, Int.reduceSub, Int.reduceMul, Int.reduceNeg, Int.reduceMod, Int.reduceDiv, Int.reduceTMod, Int.reduceTDiv, Int.reduceToNat, okChain_i, okLoads_nil, okLoads_in, okLoads_eq]; rfl)
  · intro hab
    refine ⟨?ρ2, ?run2, ?inv2⟩
    case run2 =>
      simp (maxDischargeDepth := 8) only [l40_0, c40_4, c40_5, c40_6, c40_7, c40_8, q0, q1, q5, e1, e2, e3, f1, f2, f3, l1, hlt, hab, g1, g2', w, RUN, Ed, knd, kndR, resV, binInt, mnmxV, mnmx2, fillL, unV, extractV, partV, loadAt, Nat.reduceAdd, Nat.reduceBEq, Nat.reduceEqDiff, Nat.reduceLT, Nat.reduceLeDiff, Nat.reduceMul, Nat.reduceSub, reduceIte, Int.reduceEq, Int.reduceNe, Int.reduceLT, Int.reduceLE, Int.reduceAdd, Int.reduceSub, Int.reduceMul, Int.reduceNeg, Int.reduceMod, Int.reduceDiv, Int.reduceTMod, Int.reduceTDiv, Int.reduceToNat, okChain_i, okLoads_nil, okLoads_in, okLoads_eq]
      rfl
    case inv2 => simp (maxDischargeDepth := 8) only [RUN, Ed, knd, kndR, resV, binInt, mnmxV, mnmx2, fillL, unV, lenV, extractV, partV, loadAt, Nat.reduceAdd, Nat.reduceBEq, Nat.reduceEqDiff, Nat.reduceLT, Nat.reduceLeDiff, Nat.reduceMul, Nat.reduceSub, reduceIte, Int.reduceEq, Int.reduceNe, Int.reduceLT, Int.reduceLE, Int.reduceAdd, Int.reduceSub, Int.reduceMul, Int.reduceNeg, Int.reduceMod, Int.reduceDiv, Int.reduceTMod, Int.reduceTDiv, Int.reduceToNat, okChain_i, okLoads_nil, okLoads_in, okLoads_eq]
theorem loop40 (H : Heap) (v u : Value) (A B : List Int) (hA : BS H v A) (hB : BS H u B) (hlen : A.length = B.length) (hl : A.length ≤ 9223372036854775806) : ∀ (d k : Nat), k + d = A.length → ∀ (ρ : Fr), S40 v u k ρ →
    (A.drop k = B.drop k → ∃ ρ', E Tryd.prog hints (.loop l40_0) ρ H = some (.exit 0, ρ', H)) ∧ (A.drop k ≠ B.drop k → ∃ ρ', E Tryd.prog hints (.loop l40_0) ρ H = some (.ret, ρ', H) ∧ ρ' 4 = .bool false) := by
  intro d
  induction d with
  | zero =>
    intro k hk ρ hs
    obtain ⟨q0, q1, q5⟩ := hs
    have l1 := hA.len
    have hlt : ¬ ((k : Int) < (A.length : Int)) := by omega
    refine ⟨fun _ => ⟨?ρ1, ?run1⟩, fun h => absurd (by rw [List.drop_eq_nil_of_le (by omega), List.drop_eq_nil_of_le (by omega)]) h⟩
    case run1 =>
      rw [El]
      simp (maxDischargeDepth := 8) only [l40_0, c40_4, q0, q5, l1, hlt, RUN, Ed, knd, kndR, resV, binInt, mnmxV, mnmx2, fillL, unV, extractV, partV, loadAt, Nat.reduceAdd, Nat.reduceBEq, Nat.reduceEqDiff, Nat.reduceLT, Nat.reduceLeDiff, Nat.reduceMul, Nat.reduceSub, reduceIte, Int.reduceEq, Int.reduceNe, Int.reduceLT, Int.reduceLE, Int.reduceAdd, Int.reduceSub, Int.reduceMul, Int.reduceNeg, Int.reduceMod, Int.reduceDiv, Int.reduceTMod, Int.reduceTDiv, Int.reduceToNat, okChain_i, okLoads_nil, okLoads_in, okLoads_eq]
      rfl
  | succ d ih =>
    intro k hk ρ hs
    have hkA : k < A.length := by omega
    have hkB : k < B.length := by omega
    have ha : A[k]? = some A[k] := List.getElem?_eq_getElem hkA
    have hb : B[k]? = some B[k] := List.getElem?_eq_getElem hkB
    obtain ⟨r1, r2⟩ := round40 H v u A B hA hB k _ _ ha hb hl ρ hs
    rw [List.drop_eq_getElem_cons hkA, List.drop_eq_getElem_cons hkB]
    by_cases hab : A[k] = B[k]
    · obtain ⟨ρ', e, hs'⟩ := r1 hab
      obtain ⟨i1, i2⟩ := ih (k + 1) (by omega) ρ' hs'
      rw [El, e, andThen_n]
      constructor
      · intro h
        exact i1 (List.cons.inj h).2
      · intro h
        exact i2 fun h' => h (by rw [hab, h'])
    · obtain ⟨ρ', e, h4⟩ := r2 hab
      rw [El, e, andThen_r]
      exact ⟨fun h => absurd (List.cons.inj h).1 hab, fun _ => ⟨ρ', rfl, h4⟩⟩
theorem sameBytes_f (H : Heap) (v u : Value) (A B : List Int) (hA : BS H v A) (hB : BS H u B) (hl : A.length ≤ 9223372036854775806) : K 40 [v, u] H = some (.bool (decide (A = B)), H) := by
  have l1 := hA.len
  have l2 := hB.len
  rw [K, D_eq p40 _ _ (Nat.le_of_ble_eq_true rfl)]
  by_cases hlen : A.length = B.length
  · have hd : decide ((A.length : Int) = (B.length : Int)) = true := by simpa using (by omega : (A.length : Int) = B.length)
    obtain ⟨ρ0, hρ0⟩ : ∃ ρ0 : Fr, ρ0 = (upd (upd (upd (upd (upd (upd (upd (frame0 [v, u]) 4 (.bool false)) 7 v) 8 (.int .i64 A.length)) 9 u) 10 (.int .i64 B.length)) 11 (.bool false)) 5 (.int .i64 0)) := ⟨_, rfl⟩
    have hs : S40 v u 0 ρ0 := by rw [hρ0]; constructor <;> simp (maxDischargeDepth := 8) only [RUN, Ed, knd, kndR, resV, binInt, mnmxV, mnmx2, fillL, unV, lenV, extractV, partV, loadAt, Nat.reduceAdd, Nat.reduceBEq, Nat.reduceEqDiff, Nat.reduceLT, Nat.reduceLeDiff, Nat.reduceMul, Nat.reduceSub, reduceIte, Int.reduceEq, Int.reduceNe, Int.reduceLT, Int.reduceLE, Int.reduceAdd, Int.reduceSub, Int.reduceMul, Int.reduceNeg, Int.reduceMod, Int.reduceDiv, Int.reduceTMod, Int.reduceTDiv, Int.reduceToNat, okChain_i, okLoads_nil, okLoads_in, okLoads_eq] <;> rfl
    obtain ⟨i1, i2⟩ := loop40 H v u A B hA hB hlen hl A.length 0 (by omega) ρ0 hs
    simp (maxDischargeDepth := 8) only [r40, b40, c40_0, c40_1, c40_2, c40_3, l1, l2, hd, RUN, Ed, knd, kndR, resV, binInt, mnmxV, mnmx2, fillL, unV, extractV, partV, loadAt, Nat.reduceAdd, Nat.reduceBEq, Nat.reduceEqDiff, Nat.reduceLT, Nat.reduceLeDiff, Nat.reduceMul, Nat.reduceSub, reduceIte, Int.reduceEq, Int.reduceNe, Int.reduceLT, Int.reduceLE, Int.reduceAdd, Int.reduceSub, Int.reduceMul, Int.reduceNeg, Int.reduceMod, Int.reduceDiv, Int.reduceTMod, Int.reduceTDiv, Int.reduceToNat, okChain_i, okLoads_nil, okLoads_in, okLoads_eq]
    rw [← hρ0]
    by_cases hab : A = B
    · obtain ⟨ρ', e⟩ := i1 (by rw [hab])
      rw [e]
      have hd2 : decide (A = B) = true := by simpa using hab
      simp (maxDischargeDepth := 8) only [c40_9, hd2, RUN, Ed, knd, kndR, resV, binInt, mnmxV, mnmx2, fillL, unV, lenV, extractV, partV, loadAt, Nat.reduceAdd, Nat.reduceBEq, Nat.reduceEqDiff, Nat.reduceLT, Nat.reduceLeDiff, Nat.reduceMul, Nat.reduceSub, reduceIte, Int.reduceEq, Int.reduceNe, Int.reduceLT, Int.reduceLE, Int.reduceAdd, Int.reduceSub, Int.reduceMul, Int.reduceNeg, Int.reduceMod, Int.reduceDiv, Int.reduceTMod, Int.reduceTDiv, Int.reduceToNat, okChain_i, okLoads_nil, okLoads_in, okLoads_eq]
    · obtain ⟨ρ', e, h4⟩ := i2 (by simpa using hab)
      rw [e]
      have hd2 : decide (A = B) = false := by simpa using hab
      simp (maxDischargeDepth := 8) only [c40_9, hd2, h4, RUN, Ed, knd, kndR, resV, binInt, mnmxV, mnmx2, fillL, unV, lenV, extractV, partV, loadAt, Nat.reduceAdd, Nat.reduceBEq, Nat.reduceEqDiff, Nat.reduceLT, Nat.reduceLeDiff, Nat.reduceMul, Nat.reduceSub, reduceIte, Int.reduceEq, Int.reduceNe, Int.reduceLT, Int.reduceLE, Int.reduceAdd, Int.reduceSub, Int.reduceMul, Int.reduceNeg, Int.reduceMod, Int.reduceDiv, Int.reduceTMod, Int.reduceTDiv, Int.reduceToNat, okChain_i, okLoads_nil, okLoads_in, okLoads_eq]
  · have hd : decide ((A.length : Int) = (B.length : Int)) = false := by simpa using (by omega : ¬ (A.length : Int) = B.length)
    have hd2 : decide (A = B) = false := by
      rw [decide_eq_false_iff_not]; intro h; exact hlen (by rw [h])
    simp (maxDischargeDepth := 8) only [r40, b40, c40_0, c40_1, c40_2, l1, l2, hd, hd2, RUN, Ed, knd, kndR, resV, binInt, mnmxV, mnmx2, fillL, unV, extractV, partV, loadAt, Nat.reduceAdd, Nat.reduceBEq, Nat.reduceEqDiff, Nat.reduceLT, Nat.reduceLeDiff, Nat.reduceMul, Nat.reduceSub, reduceIte, Int.reduceEq, Int.reduceNe, Int.reduceLT, Int.reduceLE, Int.reduceAdd, Int.reduceSub, Int.reduceMul, Int.reduceNeg, Int.reduceMod, Int.reduceDiv, Int.reduceTMod, Int.reduceTDiv, Int.reduceToNat, okChain_i, okLoads_nil, okLoads_in, okLoads_eq]
theorem sameFrame_f (H : Heap) (a b a' b' : Int) (v u : Value) (A B : List Int) (hA : BS H v A) (hB : BS H u B) (hl : A.length ≤ 9223372036854775806) :
    K 15 [.agg ⟨[.int .u8 a, .int .u8 b, v]⟩, .agg ⟨[.int .u8 a', .int .u8 b', u]⟩] H = some (.bool (decide (a = a' ∧ b = b' ∧ A = B)), H ++ [some ⟨true, 27, [.int .u8 a, .int .u8 b, v]⟩, some ⟨true, 27, [.int .u8 a', .int .u8 b', u]⟩]) := by
  have e := sameBytes_f _ v u A B (hA.more [some ⟨true, 27, [.int .u8 a, .int .u8 b, v]⟩, some ⟨true, 27, [.int .u8 a', .int .u8 b', u]⟩]) (hB.more _) hl
  simp only [K] at e
  obtain ⟨o1, o2⟩ := hA.one
  obtain ⟨o3, o4⟩ := hB.one
  rw [K, D_eq p15 _ _ (Nat.le_of_ble_eq_true rfl)]
  by_cases k0 : a = a'
  · have d0 : decide (a = a') = true := by simpa using k0
    by_cases k1 : b = b'
    · have d1 : decide (b = b') = true := by simpa using k1
      have hd : decide (a = a' ∧ b = b' ∧ A = B) = decide (A = B) := decide_eq_decide.2 (by simp [k0, k1])
      simp (maxDischargeDepth := 8) only [r15, b15, c15_0, c15_1, hd, d0, d1, e, o1, o2, o3, o4, RUN, Ed, knd, kndR, resV, binInt, mnmxV, mnmx2, fillL, unV, lenV, extractV, partV, loadAt, Nat.reduceAdd, Nat.reduceBEq, Nat.reduceEqDiff, Nat.reduceLT, Nat.reduceLeDiff, Nat.reduceMul, Nat.reduceSub, reduceIte, Int.reduceEq, Int.reduceNe, Int.reduceLT, Int.reduceLE, Int.reduceAdd, Int.reduceSub, Int.reduceMul, Int.reduceNeg, Int.reduceMod, Int.reduceDiv, Int.reduceTMod, Int.reduceTDiv, Int.reduceToNat, okChain_i, okLoads_nil, okLoads_in, okLoads_eq]
    · have d1 : decide (b = b') = false := by simpa using k1
      have hd : decide (a = a' ∧ b = b' ∧ A = B) = false := by simp [k1]
      simp (maxDischargeDepth := 8) only [r15, b15, c15_0, c15_1, hd, d0, d1, e, o1, o2, o3, o4, RUN, Ed, knd, kndR, resV, binInt, mnmxV, mnmx2, fillL, unV, lenV, extractV, partV, loadAt, Nat.reduceAdd, Nat.reduceBEq, Nat.reduceEqDiff, Nat.reduceLT, Nat.reduceLeDiff, Nat.reduceMul, Nat.reduceSub, reduceIte, Int.reduceEq, Int.reduceNe, Int.reduceLT, Int.reduceLE, Int.reduceAdd, Int.reduceSub, Int.reduceMul, Int.reduceNeg, Int.reduceMod, Int.reduceDiv, Int.reduceTMod, Int.reduceTDiv, Int.reduceToNat, okChain_i, okLoads_nil, okLoads_in, okLoads_eq]
  · have d0 : decide (a = a') = false := by simpa using k0
    have hd : decide (a = a' ∧ b = b' ∧ A = B) = false := by simp [k0]
    simp (maxDischargeDepth := 8) only [r15, b15, c15_0, c15_1, hd, d0, e, o1, o2, o3, o4, RUN, Ed, knd, kndR, resV, binInt, mnmxV, mnmx2, fillL, unV, lenV, extractV, partV, loadAt, Nat.reduceAdd, Nat.reduceBEq, Nat.reduceEqDiff, Nat.reduceLT, Nat.reduceLeDiff, Nat.reduceMul, Nat.reduceSub, reduceIte, Int.reduceEq, Int.reduceNe, Int.reduceLT, Int.reduceLE, Int.reduceAdd, Int.reduceSub, Int.reduceMul, Int.reduceNeg, Int.reduceMod, Int.reduceDiv, Int.reduceTMod, Int.reduceTDiv, Int.reduceToNat, okChain_i, okLoads_nil, okLoads_in, okLoads_eq]
end Go.Proofs.YtdmfedmhcegggaaDoor.Sim
