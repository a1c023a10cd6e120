/- The buses of chapter 24 over the plain heap. -/
import Derived.Test.YtncpbbdgckkdmaaCfg
import Derived.Test.YtncpbbdgckkdmaaSim21
namespace Go.Proofs.Ytncpbbdgckkdmaa.Sim
open Go
set_option linter.unusedSimpArgs false
set_option linter.unusedVariables false
theorem cfg_len (c : Cv) : (cfgL c).length = 27 := (rfl)
theorem cfg_take (c : Cv) : (cfgL c).take 27 = cfgL c := (rfl)
theorem cfg_1 (c : Cv) : (cfgL c)[1]? = some (.int .i64 c.a1) := (rfl)
theorem cfg_8 (c : Cv) : (cfgL c)[8]? = some (.int .i64 20000) := (rfl)
theorem cfgB (n : Int) (h : Nat) : max (min (cv0 n h).a1 1000) 1 = (cv0 n h).a1 ∧ 1 ≤ (cv0 n h).a1 ∧ (cv0 n h).a1 ≤ 3 := by
  simp only [cv0]; omega
theorem lt3_0 : (0 : Int) < ((3 : Nat) : Int) := by decide
theorem lt3_1 : (1 : Int) < ((3 : Nat) : Int) := by decide
theorem lt3_2 : (2 : Int) < ((3 : Nat) : Int) := by decide
def busB (t : Int) (a b c : Nat) : Option Blk := some ⟨true, 76, [.int .i64 t, .pointer (some ⟨a, 0, none⟩), .pointer (some ⟨b, 0, none⟩), .pointer (some ⟨c, 0, none⟩)]⟩
theorem lnew_f (c : Cv) (H : Heap) : K 16 [.agg ⟨cfgL c⟩] H = some (.pointer (some ⟨H.length + 1, 0, none⟩), H ++ [some ⟨true, 26, cfgL c⟩, busB 20000 (H.length + 2) (H.length + 3) (H.length + 4), F (max (min c.a1 1000) 1) 0 false, F (max (min c.a1 1000) 1) 0 false, F (max (min c.a1 1000) 1) 0 false]) := by
  have e1 := fun (n : Int) (G : Heap) => new_f n G
  simp only [K] at e1
  rw [K, D_eq p16 _ _ (Nat.le_of_ble_eq_true rfl)]
  simp (maxDischargeDepth := 8) only [r16, b16, c16_0, c16_1, c16_2, cfg_8, RUN, Ed, knd, kndR, resV, binInt, mnmxV, mnmx2, fillL, unV, lenV, extractV, partV, loadAt, Nat.reduceAdd, Nat.reduceBEq, Nat.reduceEqDiff, Nat.reduceLT, Nat.reduceLeDiff, Nat.reduceMul, Nat.reduceSub, reduceIte, Int.reduceEq, Int.reduceNe, Int.reduceLT, Int.reduceLE, Int.reduceAdd, Int.reduceSub, Int.reduceMul, Int.reduceNeg, Int.reduceMod, Int.reduceDiv, Int.reduceTMod, Int.reduceTDiv, Int.reduceToNat, okChain_i, okLoads_nil, okLoads_in, okLoads_eq]
  rw [El]
  simp (maxDischargeDepth := 8) only [l16_0, c16_3, c16_4, c16_5, c16_6, cfg_1, e1, lt3_0, lt3_1, lt3_2, RUN, Ed, knd, kndR, resV, binInt, mnmxV, mnmx2, fillL, unV, lenV, extractV, partV, loadAt, Nat.reduceAdd, Nat.reduceBEq, Nat.reduceEqDiff, Nat.reduceLT, Nat.reduceLeDiff, Nat.reduceMul, Nat.reduceSub, reduceIte, Int.reduceEq, Int.reduceNe, Int.reduceLT, Int.reduceLE, Int.reduceAdd, Int.reduceSub, Int.reduceMul, Int.reduceNeg, Int.reduceMod, Int.reduceDiv, Int.reduceTMod, Int.reduceTDiv, Int.reduceToNat, okChain_i, okLoads_nil, okLoads_in, okLoads_eq]
  rw [El]
  simp (maxDischargeDepth := 8) only [c16_3, c16_4, c16_5, c16_6, cfg_1, e1, lt3_0, lt3_1, lt3_2, RUN, Ed, knd, kndR, resV, binInt, mnmxV, mnmx2, fillL, unV, lenV, extractV, partV, loadAt, Nat.reduceAdd, Nat.reduceBEq, Nat.reduceEqDiff, Nat.reduceLT, Nat.reduceLeDiff, Nat.reduceMul, Nat.reduceSub, reduceIte, Int.reduceEq, Int.reduceNe, Int.reduceLT, Int.reduceLE, Int.reduceAdd, Int.reduceSub, Int.reduceMul, Int.reduceNeg, Int.reduceMod, Int.reduceDiv, Int.reduceTMod, Int.reduceTDiv, Int.reduceToNat, okChain_i, okLoads_nil, okLoads_in, okLoads_eq]
  rw [El]
  simp (maxDischargeDepth := 8) only [c16_3, c16_4, c16_5, c16_6, cfg_1, e1, lt3_0, lt3_1, lt3_2, RUN, Ed, knd, kndR, resV, binInt, mnmxV, mnmx2, fillL, unV, lenV, extractV, partV, loadAt, Nat.reduceAdd, Nat.reduceBEq, Nat.reduceEqDiff, Nat.reduceLT, Nat.reduceLeDiff, Nat.reduceMul, Nat.reduceSub, reduceIte, Int.reduceEq, Int.reduceNe, Int.reduceLT, Int.reduceLE, Int.reduceAdd, Int.reduceSub, Int.reduceMul, Int.reduceNeg, Int.reduceMod, Int.reduceDiv, Int.reduceTMod, Int.reduceTDiv, Int.reduceToNat, okChain_i, okLoads_nil, okLoads_in, okLoads_eq]
  rw [El]
  simp (maxDischargeDepth := 8) only [c16_3, c16_4, c16_5, c16_6, c16_7, cfg_1, e1, lt3_0, lt3_1, lt3_2, RUN, Ed, knd, kndR, resV, binInt, mnmxV, mnmx2, fillL, unV, lenV, extractV, partV, loadAt, Nat.reduceAdd, Nat.reduceBEq, Nat.reduceEqDiff, Nat.reduceLT, Nat.reduceLeDiff, Nat.reduceMul, Nat.reduceSub, reduceIte, Int.reduceEq, Int.reduceNe, Int.reduceLT, Int.reduceLE, Int.reduceAdd, Int.reduceSub, Int.reduceMul, Int.reduceNeg, Int.reduceMod, Int.reduceDiv, Int.reduceTMod, Int.reduceTDiv, Int.reduceToNat, okChain_i, okLoads_nil, okLoads_in, okLoads_eq]
  rfl
theorem idxV_s (g : Bool) (l e : Nat) (cs : Array Value) (k : IntKind) (j : Int) (h0 : 0 ≤ j) (h1 : j < l) : idxVV g l e (.agg cs) (.int k j) = partV g (j.toNat * e) e (.agg cs) := if_pos ⟨h0, h1⟩
structure Bus (H : Heap) (g a b c : Nat) (t n : Int) (x y z : Int × Bool) : Prop where
  g : live H g = busB t a b c
  a : live H a = F n x.1 x.2
  b : live H b = F n y.1 y.2
  c : live H c = F n z.1 z.2
def outB (x y z : Bool) : Option Blk := some ⟨true, 39, [.bool x, .bool y, .bool z]⟩
theorem locked_f (H : Heap) (g a b c : Nat) (t n : Int) (x y z : Int × Bool) (h : Bus H g a b c t n x y z) :
    K 19 [.pointer (some ⟨g, 0, none⟩)] H = some (.agg ⟨[.bool x.2, .bool y.2, .bool z.2]⟩, H ++ [outB x.2 y.2 z.2, outB x.2 y.2 z.2]) := by
  have hg := live_lt h.g
  have ha := live_lt h.a
  have hb := live_lt h.b
  have hc := live_lt h.c
  have q (X : Heap) : live (H ++ X) g = busB t a b c := by rw [live_app _ _ _ hg]; exact h.g
  have e1 := fun (X : Heap) => state_f a (H ++ X) n x.1 x.2 (by rw [live_app _ _ _ ha]; exact h.a)
  have e2 := fun (X : Heap) => state_f b (H ++ X) n y.1 y.2 (by rw [live_app _ _ _ hb]; exact h.b)
  have e3 := fun (X : Heap) => state_f c (H ++ X) n z.1 z.2 (by rw [live_app _ _ _ hc]; exact h.c)
  simp only [K] at e1 e2 e3
  simp only [busB] at q
  rw [K, D_eq p19 _ _ (Nat.le_of_ble_eq_true rfl)]
  simp (maxDischargeDepth := 8) only [r19, b19, c19_0, c19_1, c19_2, q, RUN, Ed, knd, kndR, resV, binInt, mnmxV, mnmx2, fillL, unV, lenV, extractV, partV, loadAt, Nat.reduceAdd, Nat.reduceBEq, Nat.reduceEqDiff, Nat.reduceLT, Nat.reduceLeDiff, Nat.reduceMul, Nat.reduceSub, reduceIte, Int.reduceEq, Int.reduceNe, Int.reduceLT, Int.reduceLE, Int.reduceAdd, Int.reduceSub, Int.reduceMul, Int.reduceNeg, Int.reduceMod, Int.reduceDiv, Int.reduceTMod, Int.reduceTDiv, Int.reduceToNat, okChain_i, okLoads_nil, okLoads_in, okLoads_eq]
  rw [El]
  simp (maxDischargeDepth := 8) only [l19_0, c19_3, c19_4, c19_5, c19_6, e1, e2, e3, lt3_0, lt3_1, lt3_2, idxV_s, RUN, Ed, knd, kndR, resV, binInt, mnmxV, mnmx2, fillL, unV, lenV, extractV, partV, loadAt, Nat.reduceAdd, Nat.reduceBEq, Nat.reduceEqDiff, Nat.reduceLT, Nat.reduceLeDiff, Nat.reduceMul, Nat.reduceSub, reduceIte, Int.reduceEq, Int.reduceNe, Int.reduceLT, Int.reduceLE, Int.reduceAdd, Int.reduceSub, Int.reduceMul, Int.reduceNeg, Int.reduceMod, Int.reduceDiv, Int.reduceTMod, Int.reduceTDiv, Int.reduceToNat, okChain_i, okLoads_nil, okLoads_in, okLoads_eq]
  rw [El]
  simp (maxDischargeDepth := 8) only [c19_3, c19_4, c19_5, c19_6, e1, e2, e3, lt3_0, lt3_1, lt3_2, idxV_s, RUN, Ed, knd, kndR, resV, binInt, mnmxV, mnmx2, fillL, unV, lenV, extractV, partV, loadAt, Nat.reduceAdd, Nat.reduceBEq, Nat.reduceEqDiff, Nat.reduceLT, Nat.reduceLeDiff, Nat.reduceMul, Nat.reduceSub, reduceIte, Int.reduceEq, Int.reduceNe, Int.reduceLT, Int.reduceLE, Int.reduceAdd, Int.reduceSub, Int.reduceMul, Int.reduceNeg, Int.reduceMod, Int.reduceDiv, Int.reduceTMod, Int.reduceTDiv, Int.reduceToNat, okChain_i, okLoads_nil, okLoads_in, okLoads_eq]
  rw [El]
  simp (maxDischargeDepth := 8) only [c19_3, c19_4, c19_5, c19_6, e1, e2, e3, lt3_0, lt3_1, lt3_2, idxV_s, RUN, Ed, knd, kndR, resV, binInt, mnmxV, mnmx2, fillL, unV, lenV, extractV, partV, loadAt, Nat.reduceAdd, Nat.reduceBEq, Nat.reduceEqDiff, Nat.reduceLT, Nat.reduceLeDiff, Nat.reduceMul, Nat.reduceSub, reduceIte, Int.reduceEq, Int.reduceNe, Int.reduceLT, Int.reduceLE, Int.reduceAdd, Int.reduceSub, Int.reduceMul, Int.reduceNeg, Int.reduceMod, Int.reduceDiv, Int.reduceTMod, Int.reduceTDiv, Int.reduceToNat, okChain_i, okLoads_nil, okLoads_in, okLoads_eq]
  rw [El]
  simp (maxDischargeDepth := 8) only [c19_3, c19_4, c19_5, c19_6, c19_7, e1, e2, e3, lt3_0, lt3_1, lt3_2, idxV_s, RUN, Ed, knd, kndR, resV, binInt, mnmxV, mnmx2, fillL, unV, lenV, extractV, partV, loadAt, Nat.reduceAdd, Nat.reduceBEq, Nat.reduceEqDiff, Nat.reduceLT, Nat.reduceLeDiff, Nat.reduceMul, Nat.reduceSub, reduceIte, Int.reduceEq, Int.reduceNe, Int.reduceLT, Int.reduceLE, Int.reduceAdd, Int.reduceSub, Int.reduceMul, Int.reduceNeg, Int.reduceMod, Int.reduceDiv, Int.reduceTMod, Int.reduceTDiv, Int.reduceToNat, okChain_i, okLoads_nil, okLoads_in, okLoads_eq]
  try rfl
end Go.Proofs.Ytncpbbdgckkdmaa.Sim
