/- Number, and the configurations of the statements, over the plain heap. -/
import Derived.Test.YtceildmghmigaaaDoorFSee
import Derived.Test.YtceildmghmigaaaDoorSim21
namespace Go.Proofs.YtceildmghmigaaaDoor.Sim
open Go
set_option linter.unusedSimpArgs false
set_option linter.unusedVariables false
theorem number_f (n b : Int) (H : Heap) (h1 : -9223372036854775808 ≤ n) (h2 : n ≤ 9223372036854775807) (hb : 0 < b) (hb2 : b ≤ 1048576) : K 9 [.int .i64 n, .int .i64 b] H = some (.int .i64 (n % b), H) := by
  have hb0 : ¬ b = 0 := by omega
  have ht := Int.tmod_eq_emod (a := n) (b := b)
  have he0 := Int.emod_nonneg n hb0
  have he1 := Int.emod_lt_of_pos n hb
  have hbn : (b.natAbs : Int) = b := by omega
  rw [K, D_eq p9 _ _ (Nat.le_of_ble_eq_true rfl)]
  by_cases hn : n.tmod b < 0
  · have hr : n.tmod b + b = n % b := by
      split at ht
      · omega
      · omega
    have hw := wrap64 (n % b) (by omega) (by omega)
    simp (maxDischargeDepth := 8) only [r9, b9, c9_0, c9_1, c9_2, c9_3, c9_4, hb0, hn, hw, hr, RUN, Ed, knd, kndR, resV, binInt, mnmxV, mnmx2, fillL, unV, lenV, extractV, partV, loadAt, Nat.reduceAdd, Nat.reduceBEq, Nat.reduceEqDiff, Nat.reduceLT, Nat.reduceLeDiff, Nat.reduceMul, Nat.reduceSub, reduceIte, Int.reduceEq, Int.reduceNe, Int.reduceLT, Int.reduceLE, Int.reduceAdd, Int.reduceSub, Int.reduceMul, Int.reduceNeg, Int.reduceMod, Int.reduceDiv, Int.reduceTMod, Int.reduceTDiv, Int.reduceToNat, okChain_i, okLoads_nil, okLoads_in, okLoads_eq]
  · have hr : n.tmod b = n % b := by
      split at ht
      · omega
      · omega
    simp (maxDischargeDepth := 8) only [r9, b9, c9_0, c9_1, c9_2, c9_3, c9_4, hb0, hn, RUN, Ed, knd, kndR, resV, binInt, mnmxV, mnmx2, fillL, unV, lenV, extractV, partV, loadAt, Nat.reduceAdd, Nat.reduceBEq, Nat.reduceEqDiff, Nat.reduceLT, Nat.reduceLeDiff, Nat.reduceMul, Nat.reduceSub, reduceIte, Int.reduceEq, Int.reduceNe, Int.reduceLT, Int.reduceLE, Int.reduceAdd, Int.reduceSub, Int.reduceMul, Int.reduceNeg, Int.reduceMod, Int.reduceDiv, Int.reduceTMod, Int.reduceTDiv, Int.reduceToNat, okChain_i, okLoads_nil, okLoads_in, okLoads_eq]
    rw [hr]
/-- A configuration: the first five, the other numbers that vary, the table, the feeders. -/
structure Cv where
  a0 : Int
  a1 : Int
  a2 : Int
  a3 : Int
  a4 : Int
  a18 : Int
  a24 : Int
  a25 : Int
  o : Value
  f : Value
def cfgL (c : Cv) : List Value :=
  [.int .i64 c.a0, .int .i64 c.a1, .int .i64 c.a2, .int .i64 c.a3, .int .i64 c.a4, .int .i64 100000, .int .i64 0, .int .i64 500, .int .i64 20000, .int .i64 10000, .int .i64 12000, .int .i64 3000, .int .i64 4200, .int .i64 300, .int .i64 600, .int .i64 1000, .int .i64 20, .int .i64 100, .int .i64 c.a18, .int .i64 50, c.o, .int .i64 3000, .int .i64 500, .int .i64 3000, .int .i64 c.a24, .int .i64 c.a25, c.f]
def cv0 (n : Int) (h : Nat) : Cv := ⟨1 + n % 1048576 % 4, 1 + n % 1048576 / 4 % 3, 1 + n % 1048576 / 12 % 4, 1 + n % 1048576 / 48 % 9, 1 + n % 1048576 / 432 % 5, 0, 0, 500, .slice (some ⟨h + 2, 0, none⟩) 4 2, .slice none 0 0⟩
def ocvB : Option Blk := some ⟨true, 39, [.int .i64 0, .int .i64 20000, .int .i64 20000, .int .i64 23000, .int .i64 80000, .int .i64 25000, .int .i64 100000, .int .i64 28000]⟩
theorem config0_f (n : Int) (H : Heap) (h1 : -9223372036854775808 ≤ n) (h2 : n ≤ 9223372036854775807) : K 8 [.int .i64 n, .int .i64 0, .int .i64 0] H = some (.agg ⟨cfgL (cv0 n H.length)⟩, H ++ [some ⟨true, 26, cfgL (cv0 n H.length)⟩, some ⟨true, 26, cfgL (cv0 n H.length)⟩, ocvB]) := by
  rw [K, D_eq p8 _ _ (Nat.le_of_ble_eq_true rfl)]
  have hn := number_f n 1048576 
  simp only [K] at hn
  have h0 := number_f 0 1048576 
  simp only [K] at h0
  simp (maxDischargeDepth := 8) only [r8, b8, c8_0, c8_1, c8_2, c8_3, c8_4, c8_5, c8_6, hn _ h1 h2 (by omega) (by omega), h0 _ (by omega) (by omega) (by omega) (by omega), RUN, Ed, knd, kndR, resV, binInt, mnmxV, mnmx2, fillL, unV, lenV, extractV, partV, loadAt, Nat.reduceAdd, Nat.reduceBEq, Nat.reduceEqDiff, Nat.reduceLT, Nat.reduceLeDiff, Nat.reduceMul, Nat.reduceSub, reduceIte, Int.reduceEq, Int.reduceNe, Int.reduceLT, Int.reduceLE, Int.reduceAdd, Int.reduceSub, Int.reduceMul, Int.reduceNeg, Int.reduceMod, Int.reduceDiv, Int.reduceTMod, Int.reduceTDiv, Int.reduceToNat, okChain_i, okLoads_nil, okLoads_in, okLoads_eq]
  rw [El]
  simp (maxDischargeDepth := 8) only [l8_0, c8_7, c8_10, RUN, Ed, knd, kndR, resV, binInt, mnmxV, mnmx2, fillL, unV, lenV, extractV, partV, loadAt, Nat.reduceAdd, Nat.reduceBEq, Nat.reduceEqDiff, Nat.reduceLT, Nat.reduceLeDiff, Nat.reduceMul, Nat.reduceSub, reduceIte, Int.reduceEq, Int.reduceNe, Int.reduceLT, Int.reduceLE, Int.reduceAdd, Int.reduceSub, Int.reduceMul, Int.reduceNeg, Int.reduceMod, Int.reduceDiv, Int.reduceTMod, Int.reduceTDiv, Int.reduceToNat, okChain_i, okLoads_nil, okLoads_in, okLoads_eq]
  simp (disch := omega) only [wrap64, tdivL, tmodL]
  rfl
end Go.Proofs.YtceildmghmigaaaDoor.Sim
