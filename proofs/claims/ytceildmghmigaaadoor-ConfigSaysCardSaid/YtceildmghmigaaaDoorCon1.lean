/- Errors with a place, over the plain heap. -/
import Derived.Test.YtceildmghmigaaaDoorCfg3
import Derived.Test.YtceildmghmigaaaDoorSim21
import Derived.Test.YtceildmghmigaaaDoorSim24
namespace Go.Proofs.YtceildmghmigaaaDoor.Sim
open Go
set_option linter.unusedSimpArgs false
set_option linter.unusedVariables false
theorem EH.ext {on : Nat → Bool} {H G : Heap} (h : EH on H) (e : Ext H G) : EH on G := fun i hi ho => by obtain ⟨ty, x⟩ := h i hi ho; exact ⟨ty, e.live x⟩
def AtV (p : Nat) : Value := .iface 49 (.pointer (some ⟨p, 0, none⟩))
theorem placed_f (a b : Int) (ha : ¬ a = 0) (H : Heap) : D Tryd.prog hints 12 [.int .i64 a, .int .i64 b] H = some (.agg ⟨[.int .i64 a, .bool true, .int .i64 b]⟩, H ++ [some ⟨true, 35, [.int .i64 a, .bool true, .int .i64 b]⟩]) := by
  rw [D_eq p12 _ _ (Nat.le_of_ble_eq_true rfl)]
  simp (maxDischargeDepth := 8) only [r12, b12, c12_0, c12_1, c12_2, c12_3, ha, RUN, Ed, knd, kndR, resV, binInt, mnmxV, mnmx2, fillL, unV, lenV, extractV, partV, loadAt, Nat.reduceAdd, Nat.reduceBEq, Nat.reduceEqDiff, Nat.reduceLT, Nat.reduceLeDiff, Nat.reduceMul, Nat.reduceSub, reduceIte, Int.reduceEq, Int.reduceNe, Int.reduceLT, Int.reduceLE, Int.reduceAdd, Int.reduceSub, Int.reduceMul, Int.reduceNeg, Int.reduceMod, Int.reduceDiv, Int.reduceTMod, Int.reduceTDiv, Int.reduceToNat, okChain_i, okLoads_nil, okLoads_in, okLoads_eq]
theorem noneF_f (H : Heap) : D Tryd.prog hints 22 [] H = some (.agg ⟨[.int .i64 0, .bool false, .int .i64 0]⟩, H ++ [some ⟨true, 35, [.int .i64 0, .bool false, .int .i64 0]⟩]) := by
  rw [D_eq p22 _ _ (Nat.le_of_ble_eq_true rfl)]
  simp (maxDischargeDepth := 8) only [r22, b22, c22_0, c22_1, RUN, Ed, knd, kndR, resV, binInt, mnmxV, mnmx2, fillL, unV, lenV, extractV, partV, loadAt, Nat.reduceAdd, Nat.reduceBEq, Nat.reduceEqDiff, Nat.reduceLT, Nat.reduceLeDiff, Nat.reduceMul, Nat.reduceSub, reduceIte, Int.reduceEq, Int.reduceNe, Int.reduceLT, Int.reduceLE, Int.reduceAdd, Int.reduceSub, Int.reduceMul, Int.reduceNeg, Int.reduceMod, Int.reduceDiv, Int.reduceTMod, Int.reduceTDiv, Int.reduceToNat, okChain_i, okLoads_nil, okLoads_in, okLoads_eq]
theorem sameF_f (a c : Int) (b d : Bool) (p q : Int) (H : Heap) : D Tryd.prog hints 19 [.agg ⟨[.int .i64 a, .bool b, .int .i64 p]⟩, .agg ⟨[.int .i64 c, .bool d, .int .i64 q]⟩] H
    = some (.bool (decide (a = c ∧ b = d ∧ p = q)), H ++ [some ⟨true, 35, [.int .i64 a, .bool b, .int .i64 p]⟩, some ⟨true, 35, [.int .i64 c, .bool d, .int .i64 q]⟩]) := by
  rw [D_eq p19 _ _ (Nat.le_of_ble_eq_true rfl)]
  by_cases h : a = c
  · have hd : decide (a = c) = true := by simpa using h
    by_cases hb : b = d
    · have he : (b == d) = true := by simpa using hb
      have hall : decide (a = c ∧ b = d ∧ p = q) = decide (p = q) := decide_eq_decide.2 (by simp [h, hb])
      rw [hall]
      simp (maxDischargeDepth := 8) only [r19, b19, c19_0, c19_1, hd, he, RUN, Ed, knd, kndR, resV, binInt, mnmxV, mnmx2, fillL, unV, lenV, extractV, partV, loadAt, Nat.reduceAdd, Nat.reduceBEq, Nat.reduceEqDiff, Nat.reduceLT, Nat.reduceLeDiff, Nat.reduceMul, Nat.reduceSub, reduceIte, Int.reduceEq, Int.reduceNe, Int.reduceLT, Int.reduceLE, Int.reduceAdd, Int.reduceSub, Int.reduceMul, Int.reduceNeg, Int.reduceMod, Int.reduceDiv, Int.reduceTMod, Int.reduceTDiv, Int.reduceToNat, okChain_i, okLoads_nil, okLoads_in, okLoads_eq]
    · have he : (b == d) = false := by simpa using hb
      have hall : decide (a = c ∧ b = d ∧ p = q) = false := by rw [decide_eq_false_iff_not]; exact fun x => hb x.2.1
      rw [hall]
      simp (maxDischargeDepth := 8) only [r19, b19, c19_0, c19_1, hd, he, RUN, Ed, knd, kndR, resV, binInt, mnmxV, mnmx2, fillL, unV, lenV, extractV, partV, loadAt, Nat.reduceAdd, Nat.reduceBEq, Nat.reduceEqDiff, Nat.reduceLT, Nat.reduceLeDiff, Nat.reduceMul, Nat.reduceSub, reduceIte, Int.reduceEq, Int.reduceNe, Int.reduceLT, Int.reduceLE, Int.reduceAdd, Int.reduceSub, Int.reduceMul, Int.reduceNeg, Int.reduceMod, Int.reduceDiv, Int.reduceTMod, Int.reduceTDiv, Int.reduceToNat, okChain_i, okLoads_nil, okLoads_in, okLoads_eq]
  · have hd : decide (a = c) = false := by simpa using h
    have hall : decide (a = c ∧ b = d ∧ p = q) = false := by rw [decide_eq_false_iff_not]; exact fun x => h x.1
    rw [hall]
    simp (maxDischargeDepth := 8) only [r19, b19, c19_0, c19_1, hd, RUN, Ed, knd, kndR, resV, binInt, mnmxV, mnmx2, fillL, unV, lenV, extractV, partV, loadAt, Nat.reduceAdd, Nat.reduceBEq, Nat.reduceEqDiff, Nat.reduceLT, Nat.reduceLeDiff, Nat.reduceMul, Nat.reduceSub, reduceIte, Int.reduceEq, Int.reduceNe, Int.reduceLT, Int.reduceLE, Int.reduceAdd, Int.reduceSub, Int.reduceMul, Int.reduceNeg, Int.reduceMod, Int.reduceDiv, Int.reduceTMod, Int.reduceTDiv, Int.reduceToNat, okChain_i, okLoads_nil, okLoads_in, okLoads_eq]
theorem faultAt_f (p : Nat) (pos : Int) (H : Heap) (h : EH all7 H) (hp : live H p = some ⟨true, 51, [.int .i64 pos, Err 5]⟩) : ∃ X, D Tryd.prog hints 20 [AtV p] H = some (.agg ⟨[.int .i64 106, .bool true, .int .i64 pos]⟩, H ++ X) := by
  have ip := live_ltG hp
  have ip' := fun X => live_more0 hp X
  have e2 : ∀ X, D Tryd.prog hints 26 [Err 5] (H ++ X) = some (.int .i64 106, (H ++ X) ++ [some ⟨true, 32, [Err 0, Err 1, Err 2, Err 3, Err 4, Err 5, Err 6]⟩]) := fun X => sentinel_f 5 (by omega) _ (h.more X)
  have e3 := fun F => placed_f 106 pos (by decide) F
  have hl : ∀ X : Heap, p < (H ++ X).length := fun X => by rw [List.length_append]; omega
  refine ⟨?X2, ?run2⟩
  case run2 =>
    rw [D_eq p20 _ _ (Nat.le_of_ble_eq_true rfl)]
    simp (maxDischargeDepth := 8) only [r20, b20, c20_0, c20_1, c20_2, c20_3, c20_4, c20_5, c20_6, c20_7, c20_8, AtV, same_En, hp, ip, ip', hl, e2, e3, fullOf_appG, fullOf_mapG, List.length_map, RUN, Ed, knd, kndR, resV, binInt, mnmxV, mnmx2, fillL, unV, lenV, extractV, partV, loadAt, Nat.reduceAdd, Nat.reduceBEq, Nat.reduceEqDiff, Nat.reduceLT, Nat.reduceLeDiff, Nat.reduceMul, Nat.reduceSub, reduceIte, Int.reduceEq, Int.reduceNe, Int.reduceLT, Int.reduceLE, Int.reduceAdd, Int.reduceSub, Int.reduceMul, Int.reduceNeg, Int.reduceMod, Int.reduceDiv, Int.reduceTMod, Int.reduceTDiv, Int.reduceToNat, okChain_i, okLoads_nil, okLoads_in, okLoads_eq]
    rfl
theorem faultN_f (H : Heap) : ∃ X, D Tryd.prog hints 20 [.nilIface] H = some (.agg ⟨[.int .i64 0, .bool false, .int .i64 0]⟩, H ++ X) := by
  have e1 := fun F => noneF_f F
  refine ⟨?X2, ?run2⟩
  case run2 =>
    rw [D_eq p20 _ _ (Nat.le_of_ble_eq_true rfl)]
    simp (maxDischargeDepth := 8) only [r20, b20, c20_0, c20_1, c20_2, c20_3, c20_4, c20_5, c20_6, c20_7, c20_8, e1, RUN, Ed, knd, kndR, resV, binInt, mnmxV, mnmx2, fillL, unV, lenV, extractV, partV, loadAt, Nat.reduceAdd, Nat.reduceBEq, Nat.reduceEqDiff, Nat.reduceLT, Nat.reduceLeDiff, Nat.reduceMul, Nat.reduceSub, reduceIte, Int.reduceEq, Int.reduceNe, Int.reduceLT, Int.reduceLE, Int.reduceAdd, Int.reduceSub, Int.reduceMul, Int.reduceNeg, Int.reduceMod, Int.reduceDiv, Int.reduceTMod, Int.reduceTDiv, Int.reduceToNat, okChain_i, okLoads_nil, okLoads_in, okLoads_eq]
    rfl
theorem sameAt_f (p : Nat) (pos q : Int) (H : Heap) (h : EH all7 H) (hp : live H p = some ⟨true, 51, [.int .i64 pos, Err 5]⟩) : ∃ X, D Tryd.prog hints 10 [AtV p, .agg ⟨[.int .i64 106, .bool true, .int .i64 q]⟩] H = some (.bool (decide (pos = q)), H ++ X) := by
  obtain ⟨X1, e1⟩ := faultAt_f p pos _ (h.more [some ⟨true, 35, [.int .i64 106, .bool true, .int .i64 q]⟩]) (live_more0 hp _)
  have e3 := fun F => sameF_f 106 106 true true pos q F
  have hd : decide ((106 : Int) = 106 ∧ true = true ∧ pos = q) = decide (pos = q) := decide_eq_decide.2 (by simp)
  rw [hd] at e3
  refine ⟨?X2, ?run2⟩
  case run2 =>
    rw [D_eq p10 _ _ (Nat.le_of_ble_eq_true rfl)]
    simp (maxDischargeDepth := 8) only [r10, b10, c10_0, c10_1, e1, e3, fullOf_appG, fullOf_mapG, List.length_map, RUN, Ed, knd, kndR, resV, binInt, mnmxV, mnmx2, fillL, unV, lenV, extractV, partV, loadAt, Nat.reduceAdd, Nat.reduceBEq, Nat.reduceEqDiff, Nat.reduceLT, Nat.reduceLeDiff, Nat.reduceMul, Nat.reduceSub, reduceIte, Int.reduceEq, Int.reduceNe, Int.reduceLT, Int.reduceLE, Int.reduceAdd, Int.reduceSub, Int.reduceMul, Int.reduceNeg, Int.reduceMod, Int.reduceDiv, Int.reduceTMod, Int.reduceTDiv, Int.reduceToNat, okChain_i, okLoads_nil, okLoads_in, okLoads_eq]
    rfl
end Go.Proofs.YtceildmghmigaaaDoor.Sim
