/- Configurations out of any three numbers, over the plain heap: the whole function. -/
import Derived.Test.YtceildmghmigaaaDoorCfg2
import Derived.Test.YtceildmghmigaaaDoorSim21
namespace Go.Proofs.YtceildmghmigaaaDoor.Sim
open Go
set_option linter.unusedSimpArgs false
set_option linter.unusedVariables false
def cfg0 : List Value := List.replicate 20 (.int .i64 0) ++ .slice none 0 0 :: List.replicate 5 (.int .i64 0) ++ [.slice none 0 0]
theorem configG_f (n m k : Int) (H : Heap) (hn : -9223372036854775808 ≤ n ∧ n ≤ 9223372036854775807) (hm : -9223372036854775808 ≤ m ∧ m ≤ 9223372036854775807) (hk : -9223372036854775808 ≤ k ∧ k ≤ 9223372036854775807) :
    CfgR H n m k (K 8 [.int .i64 n, .int .i64 m, .int .i64 k] H) := by
  rw [K, D_eq p8 _ _ (Nat.le_of_ble_eq_true rfl)]
  have e1 := fun G => number_f n 1048576 G hn.1 hn.2 (by omega) (by omega)
  have e2 := fun G => number_f m 1048576 G hm.1 hm.2 (by omega) (by omega)
  have e3 := fun G => number_f k 1048576 G hk.1 hk.2 (by omega) (by omega)
  simp only [K] at e1 e2 e3
  have hN0 := Int.emod_nonneg n (show (1048576 : Int) ≠ 0 by decide)
  have hN1 := Int.emod_lt_of_pos n (show (0 : Int) < 1048576 by decide)
  have hM0 := Int.emod_nonneg m (show (1048576 : Int) ≠ 0 by decide)
  have hM1 := Int.emod_lt_of_pos m (show (0 : Int) < 1048576 by decide)
  have hK0 := Int.emod_nonneg k (show (1048576 : Int) ≠ 0 by decide)
  have hK1 := Int.emod_lt_of_pos k (show (0 : Int) < 1048576 by decide)
  simp (maxDischargeDepth := 8) only [r8, b8, c8_0, c8_1, c8_2, c8_3, c8_4, c8_5, c8_6, e1, e2, e3, RUN, Ed, knd, kndR, resV, binInt, mnmxV, mnmx2, fillL, unV, lenV, extractV, partV, loadAt, Nat.reduceAdd, Nat.reduceBEq, Nat.reduceEqDiff, Nat.reduceLT, Nat.reduceLeDiff, Nat.reduceMul, Nat.reduceSub, reduceIte, Int.reduceEq, Int.reduceNe, Int.reduceLT, Int.reduceLE, Int.reduceAdd, Int.reduceSub, Int.reduceMul, Int.reduceNeg, Int.reduceMod, Int.reduceDiv, Int.reduceTMod, Int.reduceTDiv, Int.reduceToNat, okChain_i, okLoads_nil, okLoads_in, okLoads_eq]
  simp (disch := omega) only [wrap64, tdivL, tmodL]
  refine cut_loopG (R := CfgR H n m k) (fun ρ G => S13 H.length (m % 1048576) (k % 1048576) 0 ρ ∧ M13 H n m k 0 G) (fun ρ G => S13 H.length (m % 1048576) (k % 1048576) (feedN m) ρ ∧ M13 H n m k (feedN m) G) ?_ (fun ρ G h => loop13 H n m k ρ G h) ?_
  · refine ⟨⟨?_, ?_, ?_, ?_, ?_⟩, ⟨⟨.slice none 0 0, (live_app_add _ _ _).trans rfl, .inl ⟨rfl, rfl⟩⟩, ⟨cfg0, (live_app_len _ _).trans rfl, rfl⟩, (live_app_add _ _ _).trans rfl, fun j b hj => live_more0 hj _⟩⟩
    all_goals first | (simp (maxDischargeDepth := 8) only [RUN, Ed, knd, kndR, resV, binInt, mnmxV, mnmx2, fillL, unV, lenV, extractV, partV, loadAt, Nat.reduceAdd, Nat.reduceBEq, Nat.reduceEqDiff, Nat.reduceLT, Nat.reduceLeDiff, Nat.reduceMul, Nat.reduceSub, reduceIte, Int.reduceEq, Int.reduceNe, Int.reduceLT, Int.reduceLE, Int.reduceAdd, Int.reduceSub, Int.reduceMul, Int.reduceNeg, Int.reduceMod, Int.reduceDiv, Int.reduceTMod, Int.reduceTDiv, Int.reduceToNat, okChain_i, okLoads_nil, okLoads_in, okLoads_eq]; done) | (simp (maxDischargeDepth := 8) only [RUN, Ed, knd, kndR, resV, binInt, mnmxV, mnmx2, fillL, unV, lenV, extractV, partV, loadAt, Nat.reduceAdd, Nat.reduceBEq, Nat.reduceEqDiff, Nat.reduceLT, Nat.reduceLeDiff, Nat.reduceMul, Nat.reduceSub, reduceIte, Int.reduceEq, Int.reduceNe, Int.reduceLT, Int.reduceLE, Int.reduceAdd, Int.reduceSub, Int.reduceMul, Int.reduceNeg, Int.reduceMod, Int.reduceDiv, Int.reduceTMod, Int.reduceTDiv, Int.reduceToNat, okChain_i, okLoads_nil, okLoads_in, okLoads_eq]; rfl)
  · rintro ρ G ⟨⟨q1, q2, q6, q7, q8⟩, ⟨⟨f, hf, hfd⟩, ⟨z, hz, hzl⟩, hoc, hold⟩⟩
    have hg0 := live_lt hz
    have hzd : z.drop 27 = [] := List.drop_eq_nil_of_le (by omega)
    have hz27 : 27 ≤ z.length := by omega
    have h1 := cfgG_one n m k H.length f hfd.one
    refine ⟨f, ?G3, ?run3, ?inv3⟩
    case run3 =>
      simp (maxDischargeDepth := 8) only [c8_10, q6, q7, hf, hz, hg0, cfgG_len, cfgG_take, hzd, hz27, h1, RUN, Ed, knd, kndR, resV, binInt, mnmxV, mnmx2, fillL, unV, lenV, extractV, partV, loadAt, Nat.reduceAdd, Nat.reduceBEq, Nat.reduceEqDiff, Nat.reduceLT, Nat.reduceLeDiff, Nat.reduceMul, Nat.reduceSub, reduceIte, Int.reduceEq, Int.reduceNe, Int.reduceLT, Int.reduceLE, Int.reduceAdd, Int.reduceSub, Int.reduceMul, Int.reduceNeg, Int.reduceMod, Int.reduceDiv, Int.reduceTMod, Int.reduceTDiv, Int.reduceToNat, okChain_i, okLoads_nil, okLoads_in, okLoads_eq]
      rfl
    case inv3 =>
      have hl : ∀ (j : Nat) (b : Blk) (x : Option Blk), live G j = some b → j ≠ H.length → live (G.set H.length x) j = some b := fun j b x h hne => by rw [live_set_ne _ _ _ _ (Ne.symm hne)]; exact h
      refine ⟨?_, hl _ _ _ hoc (by omega), fun j b hj => hl _ _ _ (hold j b hj) (by have := live_lt hj; omega)⟩
      rcases hfd with ⟨h0, rfl⟩ | ⟨h0, b, rfl, hb, hbl⟩
      · exact .inl ⟨h0, rfl⟩
      · exact .inr ⟨h0, b, rfl, hl _ _ _ hb (by omega), hbl⟩
end Go.Proofs.YtceildmghmigaaaDoor.Sim
