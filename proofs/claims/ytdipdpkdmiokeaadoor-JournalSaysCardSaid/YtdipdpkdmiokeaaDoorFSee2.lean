/- What the statements ask of an error. -/
import Derived.Test.YtdipdpkdmiokeaaDoorFSee
import Derived.Test.YtdipdpkdmiokeaaDoorSim21
namespace Go.Proofs.YtdipdpkdmiokeaaDoor.Sim
open Go
set_option linter.unusedSimpArgs false
set_option linter.unusedVariables false
theorem fullOf_app (H0 : Heap) (a b : List (Nat × Option Blk)) : fullOf H0 (a ++ b) = fullOf (fullOf H0 a) b := by simp [fullOf]
theorem fullOf_map (H0 : Heap) (j : Nat) (X : Heap) : fullOf H0 (List.map (fun b => (j, b)) X) = H0 ++ X := by simp [fullOf, List.map_map, Function.comp_def]
def EV : Option Nat → Value
  | none => .nilIface
  | some i => Err i
def cd : Option Nat → Int
  | none => 0
  | some i => 101 + i
theorem bare_f (c : Int) (H : Heap) : K 48 [.int .i64 c] H = some (.agg ⟨[.int .i64 c, .bool false, .int .i64 0]⟩, H ++ [some ⟨true, 85, [.int .i64 c, .bool false, .int .i64 0]⟩]) := by
  rw [K, D_eq p48 _ _ (Nat.le_of_ble_eq_true rfl)]
  simp (maxDischargeDepth := 8) only [r48, b48, c48_0, c48_1, RUN, Ed, knd, kndR, resV, binInt, mnmxV, mnmx2, fillL, unV, lenV, extractV, partV, loadAt, Nat.reduceAdd, Nat.reduceBEq, Nat.reduceEqDiff, Nat.reduceLT, Nat.reduceLeDiff, Nat.reduceMul, Nat.reduceSub, reduceIte, Int.reduceEq, Int.reduceNe, Int.reduceLT, Int.reduceLE, Int.reduceAdd, Int.reduceSub, Int.reduceMul, Int.reduceNeg, Int.reduceMod, Int.reduceDiv, Int.reduceTMod, Int.reduceTDiv, Int.reduceToNat, okChain_i, okLoads_nil, okLoads_in, okLoads_eq]
theorem noneF_f (H : Heap) : K 58 [] H = some (.agg ⟨[.int .i64 0, .bool false, .int .i64 0]⟩, H ++ [some ⟨true, 85, [.int .i64 0, .bool false, .int .i64 0]⟩]) := by
  rw [K, D_eq p58 _ _ (Nat.le_of_ble_eq_true rfl)]
  simp (maxDischargeDepth := 8) only [r58, b58, c58_0, c58_1, RUN, Ed, knd, kndR, resV, binInt, mnmxV, mnmx2, fillL, unV, lenV, extractV, partV, loadAt, Nat.reduceAdd, Nat.reduceBEq, Nat.reduceEqDiff, Nat.reduceLT, Nat.reduceLeDiff, Nat.reduceMul, Nat.reduceSub, reduceIte, Int.reduceEq, Int.reduceNe, Int.reduceLT, Int.reduceLE, Int.reduceAdd, Int.reduceSub, Int.reduceMul, Int.reduceNeg, Int.reduceMod, Int.reduceDiv, Int.reduceTMod, Int.reduceTDiv, Int.reduceToNat, okChain_i, okLoads_nil, okLoads_in, okLoads_eq]
theorem sameF_f (a b : Int) (H : Heap) : K 56 [.agg ⟨[.int .i64 a, .bool false, .int .i64 0]⟩, .agg ⟨[.int .i64 b, .bool false, .int .i64 0]⟩] H
    = some (.bool (decide (a = b)), H ++ [some ⟨true, 85, [.int .i64 a, .bool false, .int .i64 0]⟩, some ⟨true, 85, [.int .i64 b, .bool false, .int .i64 0]⟩]) := by
  rw [K, D_eq p56 _ _ (Nat.le_of_ble_eq_true rfl)]
  by_cases h : a = b
  · have hd : decide (a = b) = true := by simpa using h
    simp (maxDischargeDepth := 8) only [r56, b56, c56_0, c56_1, hd, RUN, Ed, knd, kndR, resV, binInt, mnmxV, mnmx2, fillL, unV, lenV, extractV, partV, loadAt, Nat.reduceAdd, Nat.reduceBEq, Nat.reduceEqDiff, Nat.reduceLT, Nat.reduceLeDiff, Nat.reduceMul, Nat.reduceSub, reduceIte, Int.reduceEq, Int.reduceNe, Int.reduceLT, Int.reduceLE, Int.reduceAdd, Int.reduceSub, Int.reduceMul, Int.reduceNeg, Int.reduceMod, Int.reduceDiv, Int.reduceTMod, Int.reduceTDiv, Int.reduceToNat, okChain_i, okLoads_nil, okLoads_in, okLoads_eq]
  · have hd : decide (a = b) = false := by simpa using h
    simp (maxDischargeDepth := 8) only [r56, b56, c56_0, c56_1, hd, RUN, Ed, knd, kndR, resV, binInt, mnmxV, mnmx2, fillL, unV, lenV, extractV, partV, loadAt, Nat.reduceAdd, Nat.reduceBEq, Nat.reduceEqDiff, Nat.reduceLT, Nat.reduceLeDiff, Nat.reduceMul, Nat.reduceSub, reduceIte, Int.reduceEq, Int.reduceNe, Int.reduceLT, Int.reduceLE, Int.reduceAdd, Int.reduceSub, Int.reduceMul, Int.reduceNeg, Int.reduceMod, Int.reduceDiv, Int.reduceTMod, Int.reduceTDiv, Int.reduceToNat, okChain_i, okLoads_nil, okLoads_in, okLoads_eq]
theorem fault_f (e : Option Nat) (he : ∀ i, e = some i → i < 7) (H : Heap) (h : EH all7 H) : ∃ X, K 57 [EV e] H = some (.agg ⟨[.int .i64 (cd e), .bool false, .int .i64 0]⟩, H ++ X) := by
  cases e with
  | none =>
    have e1 := fun G => noneF_f G
    simp only [K] at e1
    refine ⟨?X, ?run⟩
    case run =>
      rw [K, D_eq p57 _ _ (Nat.le_of_ble_eq_true rfl)]
      simp (maxDischargeDepth := 8) only [EV, cd, r57, b57, c57_0, c57_1, c57_2, e1, RUN, Ed, knd, kndR, resV, binInt, mnmxV, mnmx2, fillL, unV, lenV, extractV, partV, loadAt, Nat.reduceAdd, Nat.reduceBEq, Nat.reduceEqDiff, Nat.reduceLT, Nat.reduceLeDiff, Nat.reduceMul, Nat.reduceSub, reduceIte, Int.reduceEq, Int.reduceNe, Int.reduceLT, Int.reduceLE, Int.reduceAdd, Int.reduceSub, Int.reduceMul, Int.reduceNeg, Int.reduceMod, Int.reduceDiv, Int.reduceTMod, Int.reduceTDiv, Int.reduceToNat, okChain_i, okLoads_nil, okLoads_in, okLoads_eq]
      rfl
  | some i =>
    have hi := he i rfl
    have e1 := fun G => bare_f (101 + i) G
    have e2 := fun X => sentinel_f i hi _ (h.more X)
    simp only [K] at e1 e2
    refine ⟨?X2, ?run2⟩
    case run2 =>
      rw [K, D_eq p57 _ _ (Nat.le_of_ble_eq_true rfl)]
      simp (maxDischargeDepth := 8) only [EV, cd, r57, b57, c57_0, c57_1, c57_2, c57_3, c57_4, c57_5, same_En, tass_E, e1, e2, RUN, Ed, knd, kndR, resV, binInt, mnmxV, mnmx2, fillL, unV, lenV, extractV, partV, loadAt, Nat.reduceAdd, Nat.reduceBEq, Nat.reduceEqDiff, Nat.reduceLT, Nat.reduceLeDiff, Nat.reduceMul, Nat.reduceSub, reduceIte, Int.reduceEq, Int.reduceNe, Int.reduceLT, Int.reduceLE, Int.reduceAdd, Int.reduceSub, Int.reduceMul, Int.reduceNeg, Int.reduceMod, Int.reduceDiv, Int.reduceTMod, Int.reduceTDiv, Int.reduceToNat, okChain_i, okLoads_nil, okLoads_in, okLoads_eq]
      rfl
theorem is_f (e : Option Nat) (he : ∀ i, e = some i → i < 7) (code : Int) (H : Heap) (h : EH all7 H) : ∃ X, K 18 [EV e, .int .i64 code] H = some (.bool (decide (cd e = code)), H ++ X) := by
  obtain ⟨X1, e1⟩ := fault_f e he _ (h.more [some ⟨true, 85, [.int .i64 code, .bool false, .int .i64 0]⟩, some ⟨true, 85, [.int .i64 code, .bool false, .int .i64 0]⟩])
  have e2 := fun G => bare_f code G
  have e3 := fun G => sameF_f (cd e) code G
  simp only [K] at e1 e2 e3
  have e4 : ∃ X, D Tryd.prog hints 47 [EV e, .agg ⟨[.int .i64 code, .bool false, .int .i64 0]⟩] (H ++ [some ⟨true, 85, [.int .i64 code, .bool false, .int .i64 0]⟩]) = some (.bool (decide (cd e = code)), H ++ X) := by
    refine ⟨?X2, ?run2⟩
    case run2 =>
      rw [D_eq p47 _ _ (Nat.le_of_ble_eq_true rfl)]
      simp (maxDischargeDepth := 8) only [r47, b47, c47_0, c47_1, e1, e2, e3, fullOf_app, fullOf_map, RUN, Ed, knd, kndR, resV, binInt, mnmxV, mnmx2, fillL, unV, lenV, extractV, partV, loadAt, Nat.reduceAdd, Nat.reduceBEq, Nat.reduceEqDiff, Nat.reduceLT, Nat.reduceLeDiff, Nat.reduceMul, Nat.reduceSub, reduceIte, Int.reduceEq, Int.reduceNe, Int.reduceLT, Int.reduceLE, Int.reduceAdd, Int.reduceSub, Int.reduceMul, Int.reduceNeg, Int.reduceMod, Int.reduceDiv, Int.reduceTMod, Int.reduceTDiv, Int.reduceToNat, okChain_i, okLoads_nil, okLoads_in, okLoads_eq]
      rfl
  obtain ⟨X4, e4⟩ := e4
  refine ⟨?X3, ?run3⟩
  case run3 =>
    rw [K, D_eq p18 _ _ (Nat.le_of_ble_eq_true rfl)]
    simp (maxDischargeDepth := 8) only [r18, b18, c18_0, c18_1, e2, e4, RUN, Ed, knd, kndR, resV, binInt, mnmxV, mnmx2, fillL, unV, lenV, extractV, partV, loadAt, Nat.reduceAdd, Nat.reduceBEq, Nat.reduceEqDiff, Nat.reduceLT, Nat.reduceLeDiff, Nat.reduceMul, Nat.reduceSub, reduceIte, Int.reduceEq, Int.reduceNe, Int.reduceLT, Int.reduceLE, Int.reduceAdd, Int.reduceSub, Int.reduceMul, Int.reduceNeg, Int.reduceMod, Int.reduceDiv, Int.reduceTMod, Int.reduceTDiv, Int.reduceToNat, okChain_i, okLoads_nil, okLoads_in, okLoads_eq]
    rfl
/-- As a rule, whatever the heap. -/
theorem is_all : ∃ X : Option Nat → Int → Heap → Heap, ∀ (e : Option Nat) (he : ∀ i, e = some i → i < 7) (code : Int) (H : Heap), EH all7 H → D Tryd.prog hints 18 [EV e, .int .i64 code] H = some (.bool (decide (cd e = code)), H ++ X e code H) := by
  have key : ∀ (e : Option Nat) (code : Int) (H : Heap), ∃ X : Heap, (∀ i, e = some i → i < 7) → EH all7 H → D Tryd.prog hints 18 [EV e, .int .i64 code] H = some (.bool (decide (cd e = code)), H ++ X) := by
    intro e code H
    by_cases he : ∀ i, e = some i → i < 7
    · by_cases hE : EH all7 H
      · obtain ⟨X, hx⟩ := is_f e he code H hE
        exact ⟨X, fun _ _ => hx⟩
      · exact ⟨[], fun _ h => absurd h hE⟩
    · exact ⟨[], fun h => absurd h he⟩
  exact ⟨fun e code H => Classical.choose (key e code H), fun e he code H hE => Classical.choose_spec (key e code H) he hE⟩
end Go.Proofs.YtdipdpkdmiokeaaDoor.Sim
