/- FreshNewer over the plain heap. -/
import Derived.Test.YtoknmodbdlfdmaaFre3
import Derived.Test.YtoknmodbdlfdmaaSim21
namespace Go.Proofs.Ytoknmodbdlfdmaa.Sim
open Go
set_option linter.unusedSimpArgs false
set_option linter.unusedVariables false
theorem wrap8 (n : Int) : IntKind.u8.wrap n = n % 256 := by
  simp only [IntKind.wrap, IntKind.bits, IntKind.signed]
  simp
theorem newer_cases (a b : Int) (ha : 0 ≤ a ∧ a ≤ 255) (hb : 0 ≤ b ∧ b ≤ 255) :
    (a = b ∧ newerB a b = false ∧ newerB b a = false) ∨ (a ≠ b ∧ IntKind.u8.wrap (a - b) = 128 ∧ newerB a b = false ∧ newerB b a = false) ∨
    (a ≠ b ∧ IntKind.u8.wrap (a - b) ≠ 128 ∧ newerB a b = true ∧ newerB b a = false) ∨ (a ≠ b ∧ IntKind.u8.wrap (a - b) ≠ 128 ∧ newerB a b = false ∧ newerB b a = true) := by
  unfold newerB
  simp only [wrap8, Bool.and_eq_true, decide_eq_true_eq, Bool.and_eq_false_iff, decide_eq_false_iff_not]
  omega
theorem chan_num (ch : Int) : chan (num ch 47 + 1) = true := by
  have := num_bd ch 47 (by omega)
  unfold chan
  simp only [Bool.and_eq_true, decide_eq_true_eq]
  omega
theorem newer (a b v w ch : Int) (ha : 0 ≤ a ∧ a ≤ 255) (hb : 0 ≤ b ∧ b ≤ 255) (H : Heap) : Ok (K 3 [.int .u8 a, .int .u8 b, .int .i64 v, .int .i64 w, .int .i64 ch] H) := by
  have q3 : K 3 [.int .u8 a, .int .u8 b, .int .i64 v, .int .i64 w, .int .i64 ch] H = done r3.res (E Try.prog hints r3.body (frame0 [.int .u8 a, .int .u8 b, .int .i64 v, .int .i64 w, .int .i64 ch]) H) := D_eq p3 _ _ (Nat.le_of_ble_eq_true rfl)
  have hc := chan_num ch
  have hnb := num_bd ch 47 (by omega)
  have m1 := fun H => number_f ch 47 (by omega) (by omega) H
  generalize num ch 47 = n at *
  obtain ⟨c, hcn⟩ : ∃ c, c = n + 1 := ⟨_, rfl⟩
  have hw1 : IntKind.i64.wrap (n + 1) = c := by rw [hcn]; exact wrap64 _ (by omega) (by omega)
  rw [← hcn] at hc
  obtain ⟨F0, e0, x0⟩ := first_f H
  obtain ⟨p, F1, e1, k1, x1, _⟩ := new_f 3 F0
  have hs : clampZ 3 0 1000 = 3 := by rfl
  rw [hs] at k1
  obtain ⟨F2, e2, k2, s2⟩ := put_f k1 c b v
  have c1 : putB (fun _ => none) c b = true := by unfold putB; rw [hc]; rfl
  have f2 : putF (fun _ => none) c b v = fun d => if d = c then some (v, b, 0) else none := by unfold putF; rw [if_pos c1]
  rw [c1] at e2; rw [f2] at k2
  obtain ⟨F3, e3, k3, s3⟩ := put_f k2 c a w
  have c2 : putB (fun d => if d = c then some (v, b, 0) else none) c a = newerB a b := by simp [putB, hc]
  rw [c2] at e3
  obtain ⟨X4, e4⟩ := get_f k3 c
  have n1 := fun a b H => newer_f a b H
  rcases newer_cases a b ha hb with ⟨t1, t2, t3⟩ | ⟨t1, t4, t2, t3⟩ | ⟨t1, t4, t2, t3⟩ | ⟨t1, t4, t2, t3⟩
  · have hv : valF (putF (fun d => if d = c then some (v, b, 0) else none) c a w) c = v := by unfold valF putF; rw [c2, t2, if_neg (by decide)]; simp
    have hi : isF (putF (fun d => if d = c then some (v, b, 0) else none) c a w) 3 c = true := by unfold isF putF; rw [c2, t2, if_neg (by decide)]; simp
    rw [hv, hi] at e4
    rw [t2] at e3
    subst t1
    simp only [K] at e0 e1 e2 e3 e4 n1 q3 m1
    rw [K, q3]
    simp (maxDischargeDepth := 8) only [r3, b3, c3_0, c3_1, c3_2, c3_3, c3_4, c3_5, c3_6, c3_7, c3_8, c3_9, c3_10, c3_11, c3_12, c3_13, c3_14, c3_15, c3_16, e0, e1, e2, e3, e4, n1, m1, hw1, t2, t3, RUN, Ed, knd, kndR, resV, binInt, mnmxV, mnmx2, fillL, unV, lenV, extractV, partV, loadAt, Nat.reduceAdd, Nat.reduceBEq, Nat.reduceEqDiff, Nat.reduceLT, Nat.reduceLeDiff, Nat.reduceMul, Nat.reduceSub, reduceIte, Int.reduceEq, Int.reduceNe, Int.reduceLT, Int.reduceLE, Int.reduceAdd, Int.reduceSub, Int.reduceMul, Int.reduceNeg, Int.reduceMod, Int.reduceDiv, Int.reduceTMod, Int.reduceTDiv, Int.reduceToNat, okChain_i, okLoads_nil, okLoads_in, okLoads_eq]
    exact Ok.mk _
  · have hv : valF (putF (fun d => if d = c then some (v, b, 0) else none) c a w) c = v := by unfold valF putF; rw [c2, t2, if_neg (by decide)]; simp
    have hi : isF (putF (fun d => if d = c then some (v, b, 0) else none) c a w) 3 c = true := by unfold isF putF; rw [c2, t2, if_neg (by decide)]; simp
    rw [hv, hi] at e4
    rw [t2] at e3
    simp only [K] at e0 e1 e2 e3 e4 n1 q3 m1
    rw [K, q3]
    simp (maxDischargeDepth := 8) only [r3, b3, c3_0, c3_1, c3_2, c3_3, c3_4, c3_5, c3_6, c3_7, c3_8, c3_9, c3_10, c3_11, c3_12, c3_13, c3_14, c3_15, c3_16, e0, e1, e2, e3, e4, n1, m1, hw1, t1, t2, t3, t4, RUN, Ed, knd, kndR, resV, binInt, mnmxV, mnmx2, fillL, unV, lenV, extractV, partV, loadAt, Nat.reduceAdd, Nat.reduceBEq, Nat.reduceEqDiff, Nat.reduceLT, Nat.reduceLeDiff, Nat.reduceMul, Nat.reduceSub, reduceIte, Int.reduceEq, Int.reduceNe, Int.reduceLT, Int.reduceLE, Int.reduceAdd, Int.reduceSub, Int.reduceMul, Int.reduceNeg, Int.reduceMod, Int.reduceDiv, Int.reduceTMod, Int.reduceTDiv, Int.reduceToNat, okChain_i, okLoads_nil, okLoads_in, okLoads_eq]
    exact Ok.mk _
  · have hv : valF (putF (fun d => if d = c then some (v, b, 0) else none) c a w) c = w := by unfold valF putF; rw [c2, t2, if_pos rfl]; simp
    have hi : isF (putF (fun d => if d = c then some (v, b, 0) else none) c a w) 3 c = true := by unfold isF putF; rw [c2, t2, if_pos rfl]; simp
    rw [hv, hi] at e4
    rw [t2] at e3
    simp only [K] at e0 e1 e2 e3 e4 n1 q3 m1
    rw [K, q3]
    simp (maxDischargeDepth := 8) only [r3, b3, c3_0, c3_1, c3_2, c3_3, c3_4, c3_5, c3_6, c3_7, c3_8, c3_9, c3_10, c3_11, c3_12, c3_13, c3_14, c3_15, c3_16, e0, e1, e2, e3, e4, n1, m1, hw1, t1, t2, t3, t4, RUN, Ed, knd, kndR, resV, binInt, mnmxV, mnmx2, fillL, unV, lenV, extractV, partV, loadAt, Nat.reduceAdd, Nat.reduceBEq, Nat.reduceEqDiff, Nat.reduceLT, Nat.reduceLeDiff, Nat.reduceMul, Nat.reduceSub, reduceIte, Int.reduceEq, Int.reduceNe, Int.reduceLT, Int.reduceLE, Int.reduceAdd, Int.reduceSub, Int.reduceMul, Int.reduceNeg, Int.reduceMod, Int.reduceDiv, Int.reduceTMod, Int.reduceTDiv, Int.reduceToNat, okChain_i, okLoads_nil, okLoads_in, okLoads_eq]
    exact Ok.mk _
  · have hv : valF (putF (fun d => if d = c then some (v, b, 0) else none) c a w) c = v := by unfold valF putF; rw [c2, t2, if_neg (by decide)]; simp
    have hi : isF (putF (fun d => if d = c then some (v, b, 0) else none) c a w) 3 c = true := by unfold isF putF; rw [c2, t2, if_neg (by decide)]; simp
    rw [hv, hi] at e4
    rw [t2] at e3
    simp only [K] at e0 e1 e2 e3 e4 n1 q3 m1
    rw [K, q3]
    simp (maxDischargeDepth := 8) only [r3, b3, c3_0, c3_1, c3_2, c3_3, c3_4, c3_5, c3_6, c3_7, c3_8, c3_9, c3_10, c3_11, c3_12, c3_13, c3_14, c3_15, c3_16, e0, e1, e2, e3, e4, n1, m1, hw1, t1, t2, t3, t4, RUN, Ed, knd, kndR, resV, binInt, mnmxV, mnmx2, fillL, unV, lenV, extractV, partV, loadAt, Nat.reduceAdd, Nat.reduceBEq, Nat.reduceEqDiff, Nat.reduceLT, Nat.reduceLeDiff, Nat.reduceMul, Nat.reduceSub, reduceIte, Int.reduceEq, Int.reduceNe, Int.reduceLT, Int.reduceLE, Int.reduceAdd, Int.reduceSub, Int.reduceMul, Int.reduceNeg, Int.reduceMod, Int.reduceDiv, Int.reduceTMod, Int.reduceTDiv, Int.reduceToNat, okChain_i, okLoads_nil, okLoads_in, okLoads_eq]
    exact Ok.mk _
end Go.Proofs.Ytoknmodbdlfdmaa.Sim
