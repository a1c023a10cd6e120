/- Records over the plain heap: whether they may be, their bytes, whether two are alike. -/
import Derived.Test.YtdipdpkdmiokeaaDoorSl1
import Derived.Test.YtdipdpkdmiokeaaDoorSim21
namespace Go.Proofs.YtdipdpkdmiokeaaDoor.Sim
open Go Go.Proofs.YtdipdpkdmiokeaaDoor.CrcMath
set_option linter.unusedSimpArgs false
set_option linter.unusedVariables false
structure Rec where
  s : Int
  m : Int
  l : Int
  a : Int
  b : Int
  c : Int
  d : Int
def Rec.L (r : Rec) : List Value := [.int .u32 r.s, .int .i64 r.m, .int .u32 r.l, .int .i64 r.a, .int .i64 r.b, .int .i64 r.c, .int .i64 r.d]
def Rec.z : Rec := ⟨0, 0, 0, 0, 0, 0, 0⟩
theorem Rec.ext' {r q : Rec} : r = q ↔ r.s = q.s ∧ r.m = q.m ∧ r.l = q.l ∧ (r.a = q.a ∧ r.b = q.b) ∧ (r.c = q.c ∧ r.d = q.d) := by
  constructor
  · rintro rfl; simp
  · rintro ⟨h1, h2, h3, ⟨h4, h5⟩, h6, h7⟩
    cases r; cases q; simp_all
instance : DecidableEq Rec := fun r q => decidable_of_iff _ Rec.ext'.symm
def rt (a b : Int) : Bool := decide (0 ≤ a ∧ a ≤ b ∧ b ≤ 1073741824)
def good (r : Rec) : Bool := decide (1 ≤ r.m ∧ r.m ≤ 5 ∧ r.l < 2097152) && (rt r.a r.b && rt r.c r.d)
theorem one_EV (e : Option Nat) : (EV e).oneCell' = true := by cases e <;> rfl
theorem cells_EV (e : Option Nat) : (EV e).cells.toList = [EV e] := by cases e <;> rfl
theorem same_EV (x : Operand) (e : Option Nat) : sameV .iface x (.const .nilIface) (EV e) .nilIface = some e.isNone := by
  cases e with
  | none => exact same_i1 x _
  | some i => rfl
theorem right_f (a b : Int) (H : Heap) : D Tryd.prog hints 39 [.agg ⟨[.int .i64 a, .int .i64 b]⟩] H = some (.bool (rt a b), H ++ [some ⟨true, 24, [.int .i64 a, .int .i64 b]⟩]) := by
  rw [D_eq p39 _ _ (Nat.le_of_ble_eq_true rfl)]
  by_cases h1 : 0 ≤ a
  · by_cases h2 : a ≤ b
    · by_cases h3 : b ≤ 1073741824
      · have hd : rt a b = true := by simp [rt, h1, h2, h3]
        simp (maxDischargeDepth := 8) only [r39, b39, c39_0, c39_1, hd, h1, h2, h3, RUN, Ed, knd, kndR, resV, binInt, mnmxV, mnmx2, fillL, unV, lenV, extractV, partV, loadAt, Nat.reduceAdd, Nat.reduceBEq, Nat.reduceEqDiff, Nat.reduceLT, Nat.reduceLeDiff, Nat.reduceMul, Nat.reduceSub, reduceIte, Int.reduceEq, Int.reduceNe, Int.reduceLT, Int.reduceLE, Int.reduceAdd, Int.reduceSub, Int.reduceMul, Int.reduceNeg, Int.reduceMod, Int.reduceDiv, Int.reduceTMod, Int.reduceTDiv, Int.reduceToNat, okChain_i, okLoads_nil, okLoads_in, okLoads_eq]
      · have hd : rt a b = false := by simp [rt, h3]
        simp (maxDischargeDepth := 8) only [r39, b39, c39_0, c39_1, hd, h1, h2, h3, RUN, Ed, knd, kndR, resV, binInt, mnmxV, mnmx2, fillL, unV, lenV, extractV, partV, loadAt, Nat.reduceAdd, Nat.reduceBEq, Nat.reduceEqDiff, Nat.reduceLT, Nat.reduceLeDiff, Nat.reduceMul, Nat.reduceSub, reduceIte, Int.reduceEq, Int.reduceNe, Int.reduceLT, Int.reduceLE, Int.reduceAdd, Int.reduceSub, Int.reduceMul, Int.reduceNeg, Int.reduceMod, Int.reduceDiv, Int.reduceTMod, Int.reduceTDiv, Int.reduceToNat, okChain_i, okLoads_nil, okLoads_in, okLoads_eq]
    · have hd : rt a b = false := by simp [rt, h2]
      simp (maxDischargeDepth := 8) only [r39, b39, c39_0, c39_1, hd, h1, h2, RUN, Ed, knd, kndR, resV, binInt, mnmxV, mnmx2, fillL, unV, lenV, extractV, partV, loadAt, Nat.reduceAdd, Nat.reduceBEq, Nat.reduceEqDiff, Nat.reduceLT, Nat.reduceLeDiff, Nat.reduceMul, Nat.reduceSub, reduceIte, Int.reduceEq, Int.reduceNe, Int.reduceLT, Int.reduceLE, Int.reduceAdd, Int.reduceSub, Int.reduceMul, Int.reduceNeg, Int.reduceMod, Int.reduceDiv, Int.reduceTMod, Int.reduceTDiv, Int.reduceToNat, okChain_i, okLoads_nil, okLoads_in, okLoads_eq]
  · have hd : rt a b = false := by simp [rt, h1]
    simp (maxDischargeDepth := 8) only [r39, b39, c39_0, c39_1, hd, h1, RUN, Ed, knd, kndR, resV, binInt, mnmxV, mnmx2, fillL, unV, lenV, extractV, partV, loadAt, Nat.reduceAdd, Nat.reduceBEq, Nat.reduceEqDiff, Nat.reduceLT, Nat.reduceLeDiff, Nat.reduceMul, Nat.reduceSub, reduceIte, Int.reduceEq, Int.reduceNe, Int.reduceLT, Int.reduceLE, Int.reduceAdd, Int.reduceSub, Int.reduceMul, Int.reduceNeg, Int.reduceMod, Int.reduceDiv, Int.reduceTMod, Int.reduceTDiv, Int.reduceToNat, okChain_i, okLoads_nil, okLoads_in, okLoads_eq]
theorem goodSpan_f (a b : Int) (H : Heap) : D Tryd.prog hints 46 [.agg ⟨[.int .i64 a, .int .i64 b]⟩] H = some (.bool (rt a b), H ++ [some ⟨true, 24, [.int .i64 a, .int .i64 b]⟩]) := by
  rw [D_eq p46 _ _ (Nat.le_of_ble_eq_true rfl)]
  by_cases h1 : 0 ≤ a
  · by_cases h2 : a ≤ b
    · by_cases h3 : b ≤ 1073741824
      · have hd : rt a b = true := by simp [rt, h1, h2, h3]
        simp (maxDischargeDepth := 8) only [r46, b46, c46_0, c46_1, hd, h1, h2, h3, RUN, Ed, knd, kndR, resV, binInt, mnmxV, mnmx2, fillL, unV, lenV, extractV, partV, loadAt, Nat.reduceAdd, Nat.reduceBEq, Nat.reduceEqDiff, Nat.reduceLT, Nat.reduceLeDiff, Nat.reduceMul, Nat.reduceSub, reduceIte, Int.reduceEq, Int.reduceNe, Int.reduceLT, Int.reduceLE, Int.reduceAdd, Int.reduceSub, Int.reduceMul, Int.reduceNeg, Int.reduceMod, Int.reduceDiv, Int.reduceTMod, Int.reduceTDiv, Int.reduceToNat, okChain_i, okLoads_nil, okLoads_in, okLoads_eq]
      · have hd : rt a b = false := by simp [rt, h3]
        simp (maxDischargeDepth := 8) only [r46, b46, c46_0, c46_1, hd, h1, h2, h3, RUN, Ed, knd, kndR, resV, binInt, mnmxV, mnmx2, fillL, unV, lenV, extractV, partV, loadAt, Nat.reduceAdd, Nat.reduceBEq, Nat.reduceEqDiff, Nat.reduceLT, Nat.reduceLeDiff, Nat.reduceMul, Nat.reduceSub, reduceIte, Int.reduceEq, Int.reduceNe, Int.reduceLT, Int.reduceLE, Int.reduceAdd, Int.reduceSub, Int.reduceMul, Int.reduceNeg, Int.reduceMod, Int.reduceDiv, Int.reduceTMod, Int.reduceTDiv, Int.reduceToNat, okChain_i, okLoads_nil, okLoads_in, okLoads_eq]
    · have hd : rt a b = false := by simp [rt, h2]
      simp (maxDischargeDepth := 8) only [r46, b46, c46_0, c46_1, hd, h1, h2, RUN, Ed, knd, kndR, resV, binInt, mnmxV, mnmx2, fillL, unV, lenV, extractV, partV, loadAt, Nat.reduceAdd, Nat.reduceBEq, Nat.reduceEqDiff, Nat.reduceLT, Nat.reduceLeDiff, Nat.reduceMul, Nat.reduceSub, reduceIte, Int.reduceEq, Int.reduceNe, Int.reduceLT, Int.reduceLE, Int.reduceAdd, Int.reduceSub, Int.reduceMul, Int.reduceNeg, Int.reduceMod, Int.reduceDiv, Int.reduceTMod, Int.reduceTDiv, Int.reduceToNat, okChain_i, okLoads_nil, okLoads_in, okLoads_eq]
  · have hd : rt a b = false := by simp [rt, h1]
    simp (maxDischargeDepth := 8) only [r46, b46, c46_0, c46_1, hd, h1, RUN, Ed, knd, kndR, resV, binInt, mnmxV, mnmx2, fillL, unV, lenV, extractV, partV, loadAt, Nat.reduceAdd, Nat.reduceBEq, Nat.reduceEqDiff, Nat.reduceLT, Nat.reduceLeDiff, Nat.reduceMul, Nat.reduceSub, reduceIte, Int.reduceEq, Int.reduceNe, Int.reduceLT, Int.reduceLE, Int.reduceAdd, Int.reduceSub, Int.reduceMul, Int.reduceNeg, Int.reduceMod, Int.reduceDiv, Int.reduceTMod, Int.reduceTDiv, Int.reduceToNat, okChain_i, okLoads_nil, okLoads_in, okLoads_eq]
/-- What is amiss with a record. -/
def amiss (r : Rec) : Option Nat := if good r = true then none else some 0
theorem check_f (r : Rec) (H : Heap) (hE : EH all7 H) : ∃ X, D Tryd.prog hints 13 [.agg ⟨r.L⟩] H = some (EV (amiss r), H ++ X) := by
  obtain ⟨s, m, l, a, b, c, d⟩ := r
  have e1 := fun F => right_f a b F
  have e2 := fun F => right_f c d F
  have q13 : ∀ F, D Tryd.prog hints 13 [.agg ⟨(⟨s, m, l, a, b, c, d⟩ : Rec).L⟩] F = done r13.res (E Tryd.prog hints r13.body (frame0 [.agg ⟨(⟨s, m, l, a, b, c, d⟩ : Rec).L⟩]) F) := fun F => D_eq p13 _ _ (Nat.le_of_ble_eq_true rfl)
  obtain ⟨ty, er⟩ := hE 0 (by omega) rfl
  have ir := live_ltG er
  rw [q13]
  by_cases h1 : m < 1
  · have hg : amiss ⟨s, m, l, a, b, c, d⟩ = some 0 := by unfold amiss good; simp only; rw [if_neg]; simp; omega
    rw [hg]
    refine ⟨?X1, ?run1⟩
    case run1 =>
      simp (maxDischargeDepth := 8) only [r13, b13, c13_0, c13_1, c13_2, c13_3, Rec.L, EV, h1, er, ir, g0, RUN, Ed, knd, kndR, resV, binInt, mnmxV, mnmx2, fillL, unV, lenV, extractV, partV, loadAt, Nat.reduceAdd, Nat.reduceBEq, Nat.reduceEqDiff, Nat.reduceLT, Nat.reduceLeDiff, Nat.reduceMul, Nat.reduceSub, reduceIte, Int.reduceEq, Int.reduceNe, Int.reduceLT, Int.reduceLE, Int.reduceAdd, Int.reduceSub, Int.reduceMul, Int.reduceNeg, Int.reduceMod, Int.reduceDiv, Int.reduceTMod, Int.reduceTDiv, Int.reduceToNat, okChain_i, okLoads_nil, okLoads_in, okLoads_eq]
      rfl
  by_cases h2 : 5 < m
  · have hg : amiss ⟨s, m, l, a, b, c, d⟩ = some 0 := by unfold amiss good; simp only; rw [if_neg]; simp; omega
    rw [hg]
    refine ⟨?X2, ?run2⟩
    case run2 =>
      simp (maxDischargeDepth := 8) only [r13, b13, c13_0, c13_1, c13_2, c13_3, Rec.L, EV, h1, h2, er, ir, g0, RUN, Ed, knd, kndR, resV, binInt, mnmxV, mnmx2, fillL, unV, lenV, extractV, partV, loadAt, Nat.reduceAdd, Nat.reduceBEq, Nat.reduceEqDiff, Nat.reduceLT, Nat.reduceLeDiff, Nat.reduceMul, Nat.reduceSub, reduceIte, Int.reduceEq, Int.reduceNe, Int.reduceLT, Int.reduceLE, Int.reduceAdd, Int.reduceSub, Int.reduceMul, Int.reduceNeg, Int.reduceMod, Int.reduceDiv, Int.reduceTMod, Int.reduceTDiv, Int.reduceToNat, okChain_i, okLoads_nil, okLoads_in, okLoads_eq]
      rfl
  by_cases h3 : 2097152 ≤ l
  · have hg : amiss ⟨s, m, l, a, b, c, d⟩ = some 0 := by unfold amiss good; simp only; rw [if_neg]; simp; omega
    rw [hg]
    refine ⟨?X3, ?run3⟩
    case run3 =>
      simp (maxDischargeDepth := 8) only [r13, b13, c13_0, c13_1, c13_2, c13_3, Rec.L, EV, h1, h2, h3, er, ir, g0, RUN, Ed, knd, kndR, resV, binInt, mnmxV, mnmx2, fillL, unV, lenV, extractV, partV, loadAt, Nat.reduceAdd, Nat.reduceBEq, Nat.reduceEqDiff, Nat.reduceLT, Nat.reduceLeDiff, Nat.reduceMul, Nat.reduceSub, reduceIte, Int.reduceEq, Int.reduceNe, Int.reduceLT, Int.reduceLE, Int.reduceAdd, Int.reduceSub, Int.reduceMul, Int.reduceNeg, Int.reduceMod, Int.reduceDiv, Int.reduceTMod, Int.reduceTDiv, Int.reduceToNat, okChain_i, okLoads_nil, okLoads_in, okLoads_eq]
      rfl
  have hb : decide (1 ≤ m ∧ m ≤ 5 ∧ l < 2097152) = true := by rw [decide_eq_true_iff]; omega
  cases h4 : rt a b
  · have hg : amiss ⟨s, m, l, a, b, c, d⟩ = some 0 := by unfold amiss good; simp [h4]
    rw [hg]
    rw [h4] at e1
    refine ⟨?X4, ?run4⟩
    case run4 =>
      simp (maxDischargeDepth := 8) only [r13, b13, c13_0, c13_1, c13_2, c13_3, Rec.L, EV, h1, h2, h3, e1, er, ir, g0, RUN, Ed, knd, kndR, resV, binInt, mnmxV, mnmx2, fillL, unV, lenV, extractV, partV, loadAt, Nat.reduceAdd, Nat.reduceBEq, Nat.reduceEqDiff, Nat.reduceLT, Nat.reduceLeDiff, Nat.reduceMul, Nat.reduceSub, reduceIte, Int.reduceEq, Int.reduceNe, Int.reduceLT, Int.reduceLE, Int.reduceAdd, Int.reduceSub, Int.reduceMul, Int.reduceNeg, Int.reduceMod, Int.reduceDiv, Int.reduceTMod, Int.reduceTDiv, Int.reduceToNat, okChain_i, okLoads_nil, okLoads_in, okLoads_eq]
      rfl
  · rw [h4] at e1
    cases h5 : rt c d
    · have hg : amiss ⟨s, m, l, a, b, c, d⟩ = some 0 := by unfold amiss good; simp [h5]
      rw [hg]
      rw [h5] at e2
      refine ⟨?X5, ?run5⟩
      case run5 =>
        simp (maxDischargeDepth := 8) only [r13, b13, c13_0, c13_1, c13_2, c13_3, Rec.L, EV, h1, h2, h3, e1, e2, er, ir, g0, RUN, Ed, knd, kndR, resV, binInt, mnmxV, mnmx2, fillL, unV, lenV, extractV, partV, loadAt, Nat.reduceAdd, Nat.reduceBEq, Nat.reduceEqDiff, Nat.reduceLT, Nat.reduceLeDiff, Nat.reduceMul, Nat.reduceSub, reduceIte, Int.reduceEq, Int.reduceNe, Int.reduceLT, Int.reduceLE, Int.reduceAdd, Int.reduceSub, Int.reduceMul, Int.reduceNeg, Int.reduceMod, Int.reduceDiv, Int.reduceTMod, Int.reduceTDiv, Int.reduceToNat, okChain_i, okLoads_nil, okLoads_in, okLoads_eq]
        rfl
    · have hg : amiss ⟨s, m, l, a, b, c, d⟩ = none := by unfold amiss good; simp only [h4, h5, hb]; rfl
      rw [hg]
      rw [h5] at e2
      refine ⟨?X6, ?run6⟩
      case run6 =>
        simp (maxDischargeDepth := 8) only [r13, b13, c13_0, c13_1, c13_2, c13_3, Rec.L, EV, h1, h2, h3, e1, e2, RUN, Ed, knd, kndR, resV, binInt, mnmxV, mnmx2, fillL, unV, lenV, extractV, partV, loadAt, Nat.reduceAdd, Nat.reduceBEq, Nat.reduceEqDiff, Nat.reduceLT, Nat.reduceLeDiff, Nat.reduceMul, Nat.reduceSub, reduceIte, Int.reduceEq, Int.reduceNe, Int.reduceLT, Int.reduceLE, Int.reduceAdd, Int.reduceSub, Int.reduceMul, Int.reduceNeg, Int.reduceMod, Int.reduceDiv, Int.reduceTMod, Int.reduceTDiv, Int.reduceToNat, okChain_i, okLoads_nil, okLoads_in, okLoads_eq]
        rfl
theorem goodR_f (r : Rec) (H : Heap) : ∃ X, D Tryd.prog hints 17 [.agg ⟨r.L⟩] H = some (.bool (good r), H ++ X) := by
  obtain ⟨s, m, l, a, b, c, d⟩ := r
  have e1 := fun F => goodSpan_f a b F
  have e2 := fun F => goodSpan_f c d F
  rw [D_eq p17 _ _ (Nat.le_of_ble_eq_true rfl)]
  by_cases h1' : ¬ (1 ≤ m)
  · have h1 : ¬ (1 ≤ m) := h1'
    have hg : good ⟨s, m, l, a, b, c, d⟩ = false := by unfold good; simp only; rw [decide_eq_false (by omega)]; rfl
    rw [hg]
    refine ⟨?Y1, ?runy1⟩
    case runy1 =>
      simp (maxDischargeDepth := 8) only [r17, b17, c17_0, c17_1, Rec.L, h1, RUN, Ed, knd, kndR, resV, binInt, mnmxV, mnmx2, fillL, unV, lenV, extractV, partV, loadAt, Nat.reduceAdd, Nat.reduceBEq, Nat.reduceEqDiff, Nat.reduceLT, Nat.reduceLeDiff, Nat.reduceMul, Nat.reduceSub, reduceIte, Int.reduceEq, Int.reduceNe, Int.reduceLT, Int.reduceLE, Int.reduceAdd, Int.reduceSub, Int.reduceMul, Int.reduceNeg, Int.reduceMod, Int.reduceDiv, Int.reduceTMod, Int.reduceTDiv, Int.reduceToNat, okChain_i, okLoads_nil, okLoads_in, okLoads_eq]
      rfl
  have h1 := Decidable.not_not.1 h1'
  by_cases h2' : ¬ (m ≤ 5)
  · have h2 : ¬ (m ≤ 5) := h2'
    have hg : good ⟨s, m, l, a, b, c, d⟩ = false := by unfold good; simp only; rw [decide_eq_false (by omega)]; rfl
    rw [hg]
    refine ⟨?Y2, ?runy2⟩
    case runy2 =>
      simp (maxDischargeDepth := 8) only [r17, b17, c17_0, c17_1, Rec.L, h1, h2, RUN, Ed, knd, kndR, resV, binInt, mnmxV, mnmx2, fillL, unV, lenV, extractV, partV, loadAt, Nat.reduceAdd, Nat.reduceBEq, Nat.reduceEqDiff, Nat.reduceLT, Nat.reduceLeDiff, Nat.reduceMul, Nat.reduceSub, reduceIte, Int.reduceEq, Int.reduceNe, Int.reduceLT, Int.reduceLE, Int.reduceAdd, Int.reduceSub, Int.reduceMul, Int.reduceNeg, Int.reduceMod, Int.reduceDiv, Int.reduceTMod, Int.reduceTDiv, Int.reduceToNat, okChain_i, okLoads_nil, okLoads_in, okLoads_eq]
      rfl
  have h2 := Decidable.not_not.1 h2'
  by_cases h3' : ¬ (l < 2097152)
  · have h3 : ¬ (l < 2097152) := h3'
    have hg : good ⟨s, m, l, a, b, c, d⟩ = false := by unfold good; simp only; rw [decide_eq_false (by omega)]; rfl
    rw [hg]
    refine ⟨?Y3, ?runy3⟩
    case runy3 =>
      simp (maxDischargeDepth := 8) only [r17, b17, c17_0, c17_1, Rec.L, h1, h2, h3, RUN, Ed, knd, kndR, resV, binInt, mnmxV, mnmx2, fillL, unV, lenV, extractV, partV, loadAt, Nat.reduceAdd, Nat.reduceBEq, Nat.reduceEqDiff, Nat.reduceLT, Nat.reduceLeDiff, Nat.reduceMul, Nat.reduceSub, reduceIte, Int.reduceEq, Int.reduceNe, Int.reduceLT, Int.reduceLE, Int.reduceAdd, Int.reduceSub, Int.reduceMul, Int.reduceNeg, Int.reduceMod, Int.reduceDiv, Int.reduceTMod, Int.reduceTDiv, Int.reduceToNat, okChain_i, okLoads_nil, okLoads_in, okLoads_eq]
      rfl
  have h3 := Decidable.not_not.1 h3'
  have hb : decide (1 ≤ m ∧ m ≤ 5 ∧ l < 2097152) = true := by rw [decide_eq_true_iff]; omega
  cases h4 : rt a b
  · have hg : good ⟨s, m, l, a, b, c, d⟩ = false := by unfold good; simp [h4]
    rw [hg]
    rw [h4] at e1
    refine ⟨?X4, ?run4⟩
    case run4 =>
      simp (maxDischargeDepth := 8) only [r17, b17, c17_0, c17_1, Rec.L, h1, h2, h3, e1, RUN, Ed, knd, kndR, resV, binInt, mnmxV, mnmx2, fillL, unV, lenV, extractV, partV, loadAt, Nat.reduceAdd, Nat.reduceBEq, Nat.reduceEqDiff, Nat.reduceLT, Nat.reduceLeDiff, Nat.reduceMul, Nat.reduceSub, reduceIte, Int.reduceEq, Int.reduceNe, Int.reduceLT, Int.reduceLE, Int.reduceAdd, Int.reduceSub, Int.reduceMul, Int.reduceNeg, Int.reduceMod, Int.reduceDiv, Int.reduceTMod, Int.reduceTDiv, Int.reduceToNat, okChain_i, okLoads_nil, okLoads_in, okLoads_eq]
      rfl
  · rw [h4] at e1
    have hg : good ⟨s, m, l, a, b, c, d⟩ = rt c d := by unfold good; simp only [h4, hb]; simp
    rw [hg]
    refine ⟨?X5, ?run5⟩
    case run5 =>
      simp (maxDischargeDepth := 8) only [r17, b17, c17_0, c17_1, Rec.L, h1, h2, h3, e1, e2, RUN, Ed, knd, kndR, resV, binInt, mnmxV, mnmx2, fillL, unV, lenV, extractV, partV, loadAt, Nat.reduceAdd, Nat.reduceBEq, Nat.reduceEqDiff, Nat.reduceLT, Nat.reduceLeDiff, Nat.reduceMul, Nat.reduceSub, reduceIte, Int.reduceEq, Int.reduceNe, Int.reduceLT, Int.reduceLE, Int.reduceAdd, Int.reduceSub, Int.reduceMul, Int.reduceNeg, Int.reduceMod, Int.reduceDiv, Int.reduceTMod, Int.reduceTDiv, Int.reduceToNat, okChain_i, okLoads_nil, okLoads_in, okLoads_eq]
      rfl
theorem sameSpan_f (a b c d : Int) (H : Heap) : D Tryd.prog hints 38 [.agg ⟨[.int .i64 a, .int .i64 b]⟩, .agg ⟨[.int .i64 c, .int .i64 d]⟩] H = some (.bool (decide (a = c ∧ b = d)), H ++ [some ⟨true, 24, [.int .i64 a, .int .i64 b]⟩, some ⟨true, 24, [.int .i64 c, .int .i64 d]⟩]) := by
  rw [D_eq p38 _ _ (Nat.le_of_ble_eq_true rfl)]
  by_cases h1 : a = c
  · have d1 : decide (a = c) = true := by simpa using h1
    have hd : decide (a = c ∧ b = d) = decide (b = d) := decide_eq_decide.2 (by simp [h1])
    rw [hd]
    simp (maxDischargeDepth := 8) only [r38, b38, c38_0, c38_1, d1, RUN, Ed, knd, kndR, resV, binInt, mnmxV, mnmx2, fillL, unV, lenV, extractV, partV, loadAt, Nat.reduceAdd, Nat.reduceBEq, Nat.reduceEqDiff, Nat.reduceLT, Nat.reduceLeDiff, Nat.reduceMul, Nat.reduceSub, reduceIte, Int.reduceEq, Int.reduceNe, Int.reduceLT, Int.reduceLE, Int.reduceAdd, Int.reduceSub, Int.reduceMul, Int.reduceNeg, Int.reduceMod, Int.reduceDiv, Int.reduceTMod, Int.reduceTDiv, Int.reduceToNat, okChain_i, okLoads_nil, okLoads_in, okLoads_eq]
  · have d1 : decide (a = c) = false := by simpa using h1
    have hd : decide (a = c ∧ b = d) = false := by simp [h1]
    rw [hd]
    simp (maxDischargeDepth := 8) only [r38, b38, c38_0, c38_1, d1, RUN, Ed, knd, kndR, resV, binInt, mnmxV, mnmx2, fillL, unV, lenV, extractV, partV, loadAt, Nat.reduceAdd, Nat.reduceBEq, Nat.reduceEqDiff, Nat.reduceLT, Nat.reduceLeDiff, Nat.reduceMul, Nat.reduceSub, reduceIte, Int.reduceEq, Int.reduceNe, Int.reduceLT, Int.reduceLE, Int.reduceAdd, Int.reduceSub, Int.reduceMul, Int.reduceNeg, Int.reduceMod, Int.reduceDiv, Int.reduceTMod, Int.reduceTDiv, Int.reduceToNat, okChain_i, okLoads_nil, okLoads_in, okLoads_eq]
theorem sameRec_f (r q : Rec) (H : Heap) : ∃ X, D Tryd.prog hints 19 [.agg ⟨r.L⟩, .agg ⟨q.L⟩] H = some (.bool (decide (r = q)), H ++ X) := by
  rw [decide_eq_decide.2 (Rec.ext' (r := r) (q := q))]
  obtain ⟨s, m, l, a, b, c, d⟩ := r
  obtain ⟨s', m', l', a', b', c', d'⟩ := q
  have e1 := fun F => sameSpan_f a b a' b' F
  have e2 := fun F => sameSpan_f c d c' d' F
  simp only
  rw [D_eq p19 _ _ (Nat.le_of_ble_eq_true rfl)]
  by_cases h1' : ¬ (s = s')
  · have d1 : decide (s = s') = false := by simpa using h1'
    have hd : decide (s = s' ∧ m = m' ∧ l = l' ∧ (a = a' ∧ b = b') ∧ c = c' ∧ d = d') = false := by rw [decide_eq_false_iff_not]; exact fun hh => h1' hh.1
    rw [hd]
    refine ⟨?Z1, ?runz1⟩
    case runz1 =>
      simp (maxDischargeDepth := 8) only [r19, b19, c19_0, c19_1, Rec.L, d1, RUN, Ed, knd, kndR, resV, binInt, mnmxV, mnmx2, fillL, unV, lenV, extractV, partV, loadAt, Nat.reduceAdd, Nat.reduceBEq, Nat.reduceEqDiff, Nat.reduceLT, Nat.reduceLeDiff, Nat.reduceMul, Nat.reduceSub, reduceIte, Int.reduceEq, Int.reduceNe, Int.reduceLT, Int.reduceLE, Int.reduceAdd, Int.reduceSub, Int.reduceMul, Int.reduceNeg, Int.reduceMod, Int.reduceDiv, Int.reduceTMod, Int.reduceTDiv, Int.reduceToNat, okChain_i, okLoads_nil, okLoads_in, okLoads_eq]
      rfl
  have h1 := Decidable.not_not.1 h1'
  have d1 : decide (s = s') = true := by simpa using h1
  by_cases h2' : ¬ (m = m')
  · have d2 : decide (m = m') = false := by simpa using h2'
    have hd : decide (s = s' ∧ m = m' ∧ l = l' ∧ (a = a' ∧ b = b') ∧ c = c' ∧ d = d') = false := by rw [decide_eq_false_iff_not]; exact fun hh => h2' hh.2.1
    rw [hd]
    refine ⟨?Z2, ?runz2⟩
    case runz2 =>
      simp (maxDischargeDepth := 8) only [r19, b19, c19_0, c19_1, Rec.L, d1, d2, RUN, Ed, knd, kndR, resV, binInt, mnmxV, mnmx2, fillL, unV, lenV, extractV, partV, loadAt, Nat.reduceAdd, Nat.reduceBEq, Nat.reduceEqDiff, Nat.reduceLT, Nat.reduceLeDiff, Nat.reduceMul, Nat.reduceSub, reduceIte, Int.reduceEq, Int.reduceNe, Int.reduceLT, Int.reduceLE, Int.reduceAdd, Int.reduceSub, Int.reduceMul, Int.reduceNeg, Int.reduceMod, Int.reduceDiv, Int.reduceTMod, Int.reduceTDiv, Int.reduceToNat, okChain_i, okLoads_nil, okLoads_in, okLoads_eq]
      rfl
  have h2 := Decidable.not_not.1 h2'
  have d2 : decide (m = m') = true := by simpa using h2
  by_cases h3' : ¬ (l = l')
  · have d3 : decide (l = l') = false := by simpa using h3'
    have hd : decide (s = s' ∧ m = m' ∧ l = l' ∧ (a = a' ∧ b = b') ∧ c = c' ∧ d = d') = false := by rw [decide_eq_false_iff_not]; exact fun hh => h3' hh.2.2.1
    rw [hd]
    refine ⟨?Z3, ?runz3⟩
    case runz3 =>
      simp (maxDischargeDepth := 8) only [r19, b19, c19_0, c19_1, Rec.L, d1, d2, d3, RUN, Ed, knd, kndR, resV, binInt, mnmxV, mnmx2, fillL, unV, lenV, extractV, partV, loadAt, Nat.reduceAdd, Nat.reduceBEq, Nat.reduceEqDiff, Nat.reduceLT, Nat.reduceLeDiff, Nat.reduceMul, Nat.reduceSub, reduceIte, Int.reduceEq, Int.reduceNe, Int.reduceLT, Int.reduceLE, Int.reduceAdd, Int.reduceSub, Int.reduceMul, Int.reduceNeg, Int.reduceMod, Int.reduceDiv, Int.reduceTMod, Int.reduceTDiv, Int.reduceToNat, okChain_i, okLoads_nil, okLoads_in, okLoads_eq]
      rfl
  have h3 := Decidable.not_not.1 h3'
  have d3 : decide (l = l') = true := by simpa using h3
  by_cases h4 : a = a' ∧ b = b'
  · have d4 : decide (a = a' ∧ b = b') = true := by simpa using h4
    have hd : decide (s = s' ∧ m = m' ∧ l = l' ∧ (a = a' ∧ b = b') ∧ c = c' ∧ d = d') = decide (c = c' ∧ d = d') := decide_eq_decide.2 (by simp [h1, h2, h3, h4])
    rw [hd]
    rw [d4] at e1
    refine ⟨?X4, ?run4⟩
    case run4 =>
      simp (maxDischargeDepth := 8) only [r19, b19, c19_0, c19_1, Rec.L, d1, d2, d3, e1, e2, RUN, Ed, knd, kndR, resV, binInt, mnmxV, mnmx2, fillL, unV, lenV, extractV, partV, loadAt, Nat.reduceAdd, Nat.reduceBEq, Nat.reduceEqDiff, Nat.reduceLT, Nat.reduceLeDiff, Nat.reduceMul, Nat.reduceSub, reduceIte, Int.reduceEq, Int.reduceNe, Int.reduceLT, Int.reduceLE, Int.reduceAdd, Int.reduceSub, Int.reduceMul, Int.reduceNeg, Int.reduceMod, Int.reduceDiv, Int.reduceTMod, Int.reduceTDiv, Int.reduceToNat, okChain_i, okLoads_nil, okLoads_in, okLoads_eq]
      rfl
  · have d4 : decide (a = a' ∧ b = b') = false := by simpa using h4
    have hd : decide (s = s' ∧ m = m' ∧ l = l' ∧ (a = a' ∧ b = b') ∧ c = c' ∧ d = d') = false := by rw [decide_eq_false_iff_not]; exact fun h => h4 h.2.2.2.1
    rw [hd]
    rw [d4] at e1
    refine ⟨?X5, ?run5⟩
    case run5 =>
      simp (maxDischargeDepth := 8) only [r19, b19, c19_0, c19_1, Rec.L, d1, d2, d3, e1, RUN, Ed, knd, kndR, resV, binInt, mnmxV, mnmx2, fillL, unV, lenV, extractV, partV, loadAt, Nat.reduceAdd, Nat.reduceBEq, Nat.reduceEqDiff, Nat.reduceLT, Nat.reduceLeDiff, Nat.reduceMul, Nat.reduceSub, reduceIte, Int.reduceEq, Int.reduceNe, Int.reduceLT, Int.reduceLE, Int.reduceAdd, Int.reduceSub, Int.reduceMul, Int.reduceNeg, Int.reduceMod, Int.reduceDiv, Int.reduceTMod, Int.reduceTDiv, Int.reduceToNat, okChain_i, okLoads_nil, okLoads_in, okLoads_eq]
      rfl
end Go.Proofs.YtdipdpkdmiokeaaDoor.Sim
