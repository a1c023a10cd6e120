/- Step of the buses of chapter 24 over the plain heap. Printed by gen_loc2.py. -/
import Derived.Test.YtncpbbdgckkdmaaLoc1
import Derived.Test.YtncpbbdgckkdmaaSim21
namespace Go.Proofs.Ytncpbbdgckkdmaa.Sim
open Go
set_option linter.unusedSimpArgs false
set_option linter.unusedVariables false
/-- What a cycle does to a bus's filter. -/
def lk (n t : Int) (s : Int × Bool) (v : Int) (f : Bool) : Int × Bool := if f && !s.2 then fst n s.1 s.2 (decide (t < v)) else s
theorem lk_f (n t : Int) (s : Int × Bool) (v : Int) : lk n t s v false = s := rfl
theorem lk_t (n t : Int) (c v : Int) (f : Bool) : lk n t (c, true) v f = (c, true) := by cases f <;> rfl
theorem lk_s (n t : Int) (c v : Int) : lk n t (c, false) v true = fst n c false (decide (t < v)) := rfl
theorem live_more {H : Heap} {i : Nat} {b : Blk} (h : live H i = some b) (X : Heap) : live (H ++ X) i = some b := by rw [live_app _ _ _ (live_lt h)]; exact h
def smp (v0 : Int) (f0 : Bool) (v1 : Int) (f1 : Bool) (v2 : Int) (f2 : Bool) : List Value := [.int .i64 v0, .bool f0, .int .i64 v1, .bool f1, .int .i64 v2, .bool f2]
theorem round0 (H : Heap) (ρ : Fr) (g a b c : Nat) (t n : Int) (s : Int × Bool) (v0 : Int) (f0 : Bool) (v1 : Int) (f1 : Bool) (v2 : Int) (f2 : Bool) (x4 : Value) (hgp : g ≠ a)
    (h0 : live H g = busB t a b c) (h1 : live H a = F n s.1 s.2) (hb : 0 ≤ s.1 ∧ s.1 ≤ 1000000) (q0 : ρ 0 = .pointer (some ⟨g, 0, none⟩)) (q4 : ρ 4 = x4) (q7 : ρ 7 = .agg ⟨smp v0 f0 v1 f1 v2 f2⟩) (q8 : ρ 8 = .int .i64 0) :
    ∃ ρ' H', E Try.prog hints l17_0 ρ H = some (.normal, ρ', H') ∧ (ρ' 0 = .pointer (some ⟨g, 0, none⟩) ∧ ρ' 4 = x4 ∧ ρ' 7 = .agg ⟨smp v0 f0 v1 f1 v2 f2⟩ ∧ ρ' 8 = .int .i64 1) ∧ live H' a = F n (lk n t s v0 f0).1 (lk n t s v0 f0).2 ∧ (∀ (i : Nat) (z : Blk), live H i = some z → i ≠ a → live H' i = some z) := by
  have hg := live_lt h0
  have hp := live_lt h1
  have gg := fun X => live_more h0 X
  have e30 := fun (X : Heap) => state_f a (H ++ X) n s.1 s.2 (live_more h1 X)
  have e31 := fun (X : Heap) (bb : Bool) => step_f a (H ++ X) n s.1 s.2 bb (live_more h1 X) (live_lt (live_more h1 X)) hb.1 hb.2
  try simp only [K] at e30
  try simp only [K] at e31
  try simp only [busB] at gg
  obtain ⟨sc, sb⟩ := s
  try simp only at e30 e31 hb h1
  cases f0
  · refine ⟨?ρ1, ?H1, ?run1, ?inv1⟩
    case run1 =>
      simp (maxDischargeDepth := 8) only [l17_0, c17_2, c17_3, c17_4, c17_5, c17_6, smp, q0, q4, q7, q8, hg, hp, gg, e30, e31, lt3_0, lt3_1, lt3_2, idxV_s, partV, RUN, Ed, knd, kndR, resV, binInt, mnmxV, mnmx2, fillL, unV, lenV, extractV, partV, loadAt, Nat.reduceAdd, Nat.reduceBEq, Nat.reduceEqDiff, Nat.reduceLT, Nat.reduceLeDiff, Nat.reduceMul, Nat.reduceSub, reduceIte, Int.reduceEq, Int.reduceNe, Int.reduceLT, Int.reduceLE, Int.reduceAdd, Int.reduceSub, Int.reduceMul, Int.reduceNeg, Int.reduceMod, Int.reduceDiv, Int.reduceTMod, Int.reduceTDiv, Int.reduceToNat, okChain_i, okLoads_nil, okLoads_in, okLoads_eq]
      rfl
    case inv1 =>
      refine ⟨⟨?_, ?_, ?_, ?_⟩, live_more h1 _, fun i z hz _ => live_more hz _⟩
      all_goals simp (maxDischargeDepth := 8) only [q0, q4, q7, smp, RUN, Ed, knd, kndR, resV, binInt, mnmxV, mnmx2, fillL, unV, lenV, extractV, partV, loadAt, Nat.reduceAdd, Nat.reduceBEq, Nat.reduceEqDiff, Nat.reduceLT, Nat.reduceLeDiff, Nat.reduceMul, Nat.reduceSub, reduceIte, Int.reduceEq, Int.reduceNe, Int.reduceLT, Int.reduceLE, Int.reduceAdd, Int.reduceSub, Int.reduceMul, Int.reduceNeg, Int.reduceMod, Int.reduceDiv, Int.reduceTMod, Int.reduceTDiv, Int.reduceToNat, okChain_i, okLoads_nil, okLoads_in, okLoads_eq]
  · cases sb
    · refine ⟨?ρ2, ?H2, ?run2, ?inv2⟩
      case run2 =>
        simp (maxDischargeDepth := 8) only [l17_0, c17_2, c17_3, c17_4, c17_5, c17_6, smp, q0, q4, q7, q8, hg, hp, gg, e30, e31, lt3_0, lt3_1, lt3_2, idxV_s, partV, RUN, Ed, knd, kndR, resV, binInt, mnmxV, mnmx2, fillL, unV, lenV, extractV, partV, loadAt, Nat.reduceAdd, Nat.reduceBEq, Nat.reduceEqDiff, Nat.reduceLT, Nat.reduceLeDiff, Nat.reduceMul, Nat.reduceSub, reduceIte, Int.reduceEq, Int.reduceNe, Int.reduceLT, Int.reduceLE, Int.reduceAdd, Int.reduceSub, Int.reduceMul, Int.reduceNeg, Int.reduceMod, Int.reduceDiv, Int.reduceTMod, Int.reduceTDiv, Int.reduceToNat, okChain_i, okLoads_nil, okLoads_in, okLoads_eq]
        rfl
      case inv2 =>
        refine ⟨⟨?_, ?_, ?_, ?_⟩, ?_, fun i z hz hi => ?_⟩
        · simp (maxDischargeDepth := 8) only [q0, q4, q7, smp, RUN, Ed, knd, kndR, resV, binInt, mnmxV, mnmx2, fillL, unV, lenV, extractV, partV, loadAt, Nat.reduceAdd, Nat.reduceBEq, Nat.reduceEqDiff, Nat.reduceLT, Nat.reduceLeDiff, Nat.reduceMul, Nat.reduceSub, reduceIte, Int.reduceEq, Int.reduceNe, Int.reduceLT, Int.reduceLE, Int.reduceAdd, Int.reduceSub, Int.reduceMul, Int.reduceNeg, Int.reduceMod, Int.reduceDiv, Int.reduceTMod, Int.reduceTDiv, Int.reduceToNat, okChain_i, okLoads_nil, okLoads_in, okLoads_eq]
        · simp (maxDischargeDepth := 8) only [q0, q4, q7, smp, RUN, Ed, knd, kndR, resV, binInt, mnmxV, mnmx2, fillL, unV, lenV, extractV, partV, loadAt, Nat.reduceAdd, Nat.reduceBEq, Nat.reduceEqDiff, Nat.reduceLT, Nat.reduceLeDiff, Nat.reduceMul, Nat.reduceSub, reduceIte, Int.reduceEq, Int.reduceNe, Int.reduceLT, Int.reduceLE, Int.reduceAdd, Int.reduceSub, Int.reduceMul, Int.reduceNeg, Int.reduceMod, Int.reduceDiv, Int.reduceTMod, Int.reduceTDiv, Int.reduceToNat, okChain_i, okLoads_nil, okLoads_in, okLoads_eq]
        · simp (maxDischargeDepth := 8) only [q0, q4, q7, smp, RUN, Ed, knd, kndR, resV, binInt, mnmxV, mnmx2, fillL, unV, lenV, extractV, partV, loadAt, Nat.reduceAdd, Nat.reduceBEq, Nat.reduceEqDiff, Nat.reduceLT, Nat.reduceLeDiff, Nat.reduceMul, Nat.reduceSub, reduceIte, Int.reduceEq, Int.reduceNe, Int.reduceLT, Int.reduceLE, Int.reduceAdd, Int.reduceSub, Int.reduceMul, Int.reduceNeg, Int.reduceMod, Int.reduceDiv, Int.reduceTMod, Int.reduceTDiv, Int.reduceToNat, okChain_i, okLoads_nil, okLoads_in, okLoads_eq]
        · simp (maxDischargeDepth := 8) only [q0, q4, q7, smp, RUN, Ed, knd, kndR, resV, binInt, mnmxV, mnmx2, fillL, unV, lenV, extractV, partV, loadAt, Nat.reduceAdd, Nat.reduceBEq, Nat.reduceEqDiff, Nat.reduceLT, Nat.reduceLeDiff, Nat.reduceMul, Nat.reduceSub, reduceIte, Int.reduceEq, Int.reduceNe, Int.reduceLT, Int.reduceLE, Int.reduceAdd, Int.reduceSub, Int.reduceMul, Int.reduceNeg, Int.reduceMod, Int.reduceDiv, Int.reduceTMod, Int.reduceTDiv, Int.reduceToNat, okChain_i, okLoads_nil, okLoads_in, okLoads_eq]
        · rw [lk_s]
          rw [live_app _ _ _ (by simpa using hp)]
          exact live_set_eq _ _ _ hp
        · rw [live_app _ _ _ (by simpa using live_lt hz), live_set_ne _ _ _ _ (Ne.symm hi)]
          exact hz
    · refine ⟨?ρ3, ?H3, ?run3, ?inv3⟩
      case run3 =>
        simp (maxDischargeDepth := 8) only [l17_0, c17_2, c17_3, c17_4, c17_5, c17_6, smp, q0, q4, q7, q8, hg, hp, gg, e30, e31, lt3_0, lt3_1, lt3_2, idxV_s, partV, RUN, Ed, knd, kndR, resV, binInt, mnmxV, mnmx2, fillL, unV, lenV, extractV, partV, loadAt, Nat.reduceAdd, Nat.reduceBEq, Nat.reduceEqDiff, Nat.reduceLT, Nat.reduceLeDiff, Nat.reduceMul, Nat.reduceSub, reduceIte, Int.reduceEq, Int.reduceNe, Int.reduceLT, Int.reduceLE, Int.reduceAdd, Int.reduceSub, Int.reduceMul, Int.reduceNeg, Int.reduceMod, Int.reduceDiv, Int.reduceTMod, Int.reduceTDiv, Int.reduceToNat, okChain_i, okLoads_nil, okLoads_in, okLoads_eq]
        rfl
      case inv3 =>
        refine ⟨⟨?_, ?_, ?_, ?_⟩, live_more h1 _, fun i z hz _ => live_more hz _⟩
        all_goals simp (maxDischargeDepth := 8) only [q0, q4, q7, smp, RUN, Ed, knd, kndR, resV, binInt, mnmxV, mnmx2, fillL, unV, lenV, extractV, partV, loadAt, Nat.reduceAdd, Nat.reduceBEq, Nat.reduceEqDiff, Nat.reduceLT, Nat.reduceLeDiff, Nat.reduceMul, Nat.reduceSub, reduceIte, Int.reduceEq, Int.reduceNe, Int.reduceLT, Int.reduceLE, Int.reduceAdd, Int.reduceSub, Int.reduceMul, Int.reduceNeg, Int.reduceMod, Int.reduceDiv, Int.reduceTMod, Int.reduceTDiv, Int.reduceToNat, okChain_i, okLoads_nil, okLoads_in, okLoads_eq]
theorem round1 (H : Heap) (ρ : Fr) (g a b c : Nat) (t n : Int) (s : Int × Bool) (v0 : Int) (f0 : Bool) (v1 : Int) (f1 : Bool) (v2 : Int) (f2 : Bool) (x4 : Value) (hgp : g ≠ b)
    (h0 : live H g = busB t a b c) (h1 : live H b = F n s.1 s.2) (hb : 0 ≤ s.1 ∧ s.1 ≤ 1000000) (q0 : ρ 0 = .pointer (some ⟨g, 0, none⟩)) (q4 : ρ 4 = x4) (q7 : ρ 7 = .agg ⟨smp v0 f0 v1 f1 v2 f2⟩) (q8 : ρ 8 = .int .i64 1) :
    ∃ ρ' H', E Try.prog hints l17_0 ρ H = some (.normal, ρ', H') ∧ (ρ' 0 = .pointer (some ⟨g, 0, none⟩) ∧ ρ' 4 = x4 ∧ ρ' 7 = .agg ⟨smp v0 f0 v1 f1 v2 f2⟩ ∧ ρ' 8 = .int .i64 2) ∧ live H' b = F n (lk n t s v1 f1).1 (lk n t s v1 f1).2 ∧ (∀ (i : Nat) (z : Blk), live H i = some z → i ≠ b → live H' i = some z) := by
  have hg := live_lt h0
  have hp := live_lt h1
  have gg := fun X => live_more h0 X
  have e30 := fun (X : Heap) => state_f b (H ++ X) n s.1 s.2 (live_more h1 X)
  have e31 := fun (X : Heap) (bb : Bool) => step_f b (H ++ X) n s.1 s.2 bb (live_more h1 X) (live_lt (live_more h1 X)) hb.1 hb.2
  try simp only [K] at e30
  try simp only [K] at e31
  try simp only [busB] at gg
  obtain ⟨sc, sb⟩ := s
  try simp only at e30 e31 hb h1
  cases f1
  · refine ⟨?ρ1, ?H1, ?run1, ?inv1⟩
    case run1 =>
      simp (maxDischargeDepth := 8) only [l17_0, c17_2, c17_3, c17_4, c17_5, c17_6, smp, q0, q4, q7, q8, hg, hp, gg, e30, e31, lt3_0, lt3_1, lt3_2, idxV_s, partV, RUN, Ed, knd, kndR, resV, binInt, mnmxV, mnmx2, fillL, unV, lenV, extractV, partV, loadAt, Nat.reduceAdd, Nat.reduceBEq, Nat.reduceEqDiff, Nat.reduceLT, Nat.reduceLeDiff, Nat.reduceMul, Nat.reduceSub, reduceIte, Int.reduceEq, Int.reduceNe, Int.reduceLT, Int.reduceLE, Int.reduceAdd, Int.reduceSub, Int.reduceMul, Int.reduceNeg, Int.reduceMod, Int.reduceDiv, Int.reduceTMod, Int.reduceTDiv, Int.reduceToNat, okChain_i, okLoads_nil, okLoads_in, okLoads_eq]
      rfl
    case inv1 =>
      refine ⟨⟨?_, ?_, ?_, ?_⟩, live_more h1 _, fun i z hz _ => live_more hz _⟩
      all_goals simp (maxDischargeDepth := 8) only [q0, q4, q7, smp, RUN, Ed, knd, kndR, resV, binInt, mnmxV, mnmx2, fillL, unV, lenV, extractV, partV, loadAt, Nat.reduceAdd, Nat.reduceBEq, Nat.reduceEqDiff, Nat.reduceLT, Nat.reduceLeDiff, Nat.reduceMul, Nat.reduceSub, reduceIte, Int.reduceEq, Int.reduceNe, Int.reduceLT, Int.reduceLE, Int.reduceAdd, Int.reduceSub, Int.reduceMul, Int.reduceNeg, Int.reduceMod, Int.reduceDiv, Int.reduceTMod, Int.reduceTDiv, Int.reduceToNat, okChain_i, okLoads_nil, okLoads_in, okLoads_eq]
  · cases sb
    · refine ⟨?ρ2, ?H2, ?run2, ?inv2⟩
      case run2 =>
        simp (maxDischargeDepth := 8) only [l17_0, c17_2, c17_3, c17_4, c17_5, c17_6, smp, q0, q4, q7, q8, hg, hp, gg, e30, e31, lt3_0, lt3_1, lt3_2, idxV_s, partV, RUN, Ed, knd, kndR, resV, binInt, mnmxV, mnmx2, fillL, unV, lenV, extractV, partV, loadAt, Nat.reduceAdd, Nat.reduceBEq, Nat.reduceEqDiff, Nat.reduceLT, Nat.reduceLeDiff, Nat.reduceMul, Nat.reduceSub, reduceIte, Int.reduceEq, Int.reduceNe, Int.reduceLT, Int.reduceLE, Int.reduceAdd, Int.reduceSub, Int.reduceMul, Int.reduceNeg, Int.reduceMod, Int.reduceDiv, Int.reduceTMod, Int.reduceTDiv, Int.reduceToNat, okChain_i, okLoads_nil, okLoads_in, okLoads_eq]
        rfl
      case inv2 =>
        refine ⟨⟨?_, ?_, ?_, ?_⟩, ?_, fun i z hz hi => ?_⟩
        · simp (maxDischargeDepth := 8) only [q0, q4, q7, smp, RUN, Ed, knd, kndR, resV, binInt, mnmxV, mnmx2, fillL, unV, lenV, extractV, partV, loadAt, Nat.reduceAdd, Nat.reduceBEq, Nat.reduceEqDiff, Nat.reduceLT, Nat.reduceLeDiff, Nat.reduceMul, Nat.reduceSub, reduceIte, Int.reduceEq, Int.reduceNe, Int.reduceLT, Int.reduceLE, Int.reduceAdd, Int.reduceSub, Int.reduceMul, Int.reduceNeg, Int.reduceMod, Int.reduceDiv, Int.reduceTMod, Int.reduceTDiv, Int.reduceToNat, okChain_i, okLoads_nil, okLoads_in, okLoads_eq]
        · simp (maxDischargeDepth := 8) only [q0, q4, q7, smp, RUN, Ed, knd, kndR, resV, binInt, mnmxV, mnmx2, fillL, unV, lenV, extractV, partV, loadAt, Nat.reduceAdd, Nat.reduceBEq, Nat.reduceEqDiff, Nat.reduceLT, Nat.reduceLeDiff, Nat.reduceMul, Nat.reduceSub, reduceIte, Int.reduceEq, Int.reduceNe, Int.reduceLT, Int.reduceLE, Int.reduceAdd, Int.reduceSub, Int.reduceMul, Int.reduceNeg, Int.reduceMod, Int.reduceDiv, Int.reduceTMod, Int.reduceTDiv, Int.reduceToNat, okChain_i, okLoads_nil, okLoads_in, okLoads_eq]
        · simp (maxDischargeDepth := 8) only [q0, q4, q7, smp, RUN, Ed, knd, kndR, resV, binInt, mnmxV, mnmx2, fillL, unV, lenV, extractV, partV, loadAt, Nat.reduceAdd, Nat.reduceBEq, Nat.reduceEqDiff, Nat.reduceLT, Nat.reduceLeDiff, Nat.reduceMul, Nat.reduceSub, reduceIte, Int.reduceEq, Int.reduceNe, Int.reduceLT, Int.reduceLE, Int.reduceAdd, Int.reduceSub, Int.reduceMul, Int.reduceNeg, Int.reduceMod, Int.reduceDiv, Int.reduceTMod, Int.reduceTDiv, Int.reduceToNat, okChain_i, okLoads_nil, okLoads_in, okLoads_eq]
        · simp (maxDischargeDepth := 8) only [q0, q4, q7, smp, RUN, Ed, knd, kndR, resV, binInt, mnmxV, mnmx2, fillL, unV, lenV, extractV, partV, loadAt, Nat.reduceAdd, Nat.reduceBEq, Nat.reduceEqDiff, Nat.reduceLT, Nat.reduceLeDiff, Nat.reduceMul, Nat.reduceSub, reduceIte, Int.reduceEq, Int.reduceNe, Int.reduceLT, Int.reduceLE, Int.reduceAdd, Int.reduceSub, Int.reduceMul, Int.reduceNeg, Int.reduceMod, Int.reduceDiv, Int.reduceTMod, Int.reduceTDiv, Int.reduceToNat, okChain_i, okLoads_nil, okLoads_in, okLoads_eq]
        · rw [lk_s]
          rw [live_app _ _ _ (by simpa using hp)]
          exact live_set_eq _ _ _ hp
        · rw [live_app _ _ _ (by simpa using live_lt hz), live_set_ne _ _ _ _ (Ne.symm hi)]
          exact hz
    · refine ⟨?ρ3, ?H3, ?run3, ?inv3⟩
      case run3 =>
        simp (maxDischargeDepth := 8) only [l17_0, c17_2, c17_3, c17_4, c17_5, c17_6, smp, q0, q4, q7, q8, hg, hp, gg, e30, e31, lt3_0, lt3_1, lt3_2, idxV_s, partV, RUN, Ed, knd, kndR, resV, binInt, mnmxV, mnmx2, fillL, unV, lenV, extractV, partV, loadAt, Nat.reduceAdd, Nat.reduceBEq, Nat.reduceEqDiff, Nat.reduceLT, Nat.reduceLeDiff, Nat.reduceMul, Nat.reduceSub, reduceIte, Int.reduceEq, Int.reduceNe, Int.reduceLT, Int.reduceLE, Int.reduceAdd, Int.reduceSub, Int.reduceMul, Int.reduceNeg, Int.reduceMod, Int.reduceDiv, Int.reduceTMod, Int.reduceTDiv, Int.reduceToNat, okChain_i, okLoads_nil, okLoads_in, okLoads_eq]
        rfl
      case inv3 =>
        refine ⟨⟨?_, ?_, ?_, ?_⟩, live_more h1 _, fun i z hz _ => live_more hz _⟩
        all_goals simp (maxDischargeDepth := 8) only [q0, q4, q7, smp, RUN, Ed, knd, kndR, resV, binInt, mnmxV, mnmx2, fillL, unV, lenV, extractV, partV, loadAt, Nat.reduceAdd, Nat.reduceBEq, Nat.reduceEqDiff, Nat.reduceLT, Nat.reduceLeDiff, Nat.reduceMul, Nat.reduceSub, reduceIte, Int.reduceEq, Int.reduceNe, Int.reduceLT, Int.reduceLE, Int.reduceAdd, Int.reduceSub, Int.reduceMul, Int.reduceNeg, Int.reduceMod, Int.reduceDiv, Int.reduceTMod, Int.reduceTDiv, Int.reduceToNat, okChain_i, okLoads_nil, okLoads_in, okLoads_eq]
theorem round2 (H : Heap) (ρ : Fr) (g a b c : Nat) (t n : Int) (s : Int × Bool) (v0 : Int) (f0 : Bool) (v1 : Int) (f1 : Bool) (v2 : Int) (f2 : Bool) (x4 : Value) (hgp : g ≠ c)
    (h0 : live H g = busB t a b c) (h1 : live H c = F n s.1 s.2) (hb : 0 ≤ s.1 ∧ s.1 ≤ 1000000) (q0 : ρ 0 = .pointer (some ⟨g, 0, none⟩)) (q4 : ρ 4 = x4) (q7 : ρ 7 = .agg ⟨smp v0 f0 v1 f1 v2 f2⟩) (q8 : ρ 8 = .int .i64 2) :
    ∃ ρ' H', E Try.prog hints l17_0 ρ H = some (.normal, ρ', H') ∧ (ρ' 0 = .pointer (some ⟨g, 0, none⟩) ∧ ρ' 4 = x4 ∧ ρ' 7 = .agg ⟨smp v0 f0 v1 f1 v2 f2⟩ ∧ ρ' 8 = .int .i64 3) ∧ live H' c = F n (lk n t s v2 f2).1 (lk n t s v2 f2).2 ∧ (∀ (i : Nat) (z : Blk), live H i = some z → i ≠ c → live H' i = some z) := by
  have hg := live_lt h0
  have hp := live_lt h1
  have gg := fun X => live_more h0 X
  have e30 := fun (X : Heap) => state_f c (H ++ X) n s.1 s.2 (live_more h1 X)
  have e31 := fun (X : Heap) (bb : Bool) => step_f c (H ++ X) n s.1 s.2 bb (live_more h1 X) (live_lt (live_more h1 X)) hb.1 hb.2
  try simp only [K] at e30
  try simp only [K] at e31
  try simp only [busB] at gg
  obtain ⟨sc, sb⟩ := s
  try simp only at e30 e31 hb h1
  cases f2
  · refine ⟨?ρ1, ?H1, ?run1, ?inv1⟩
    case run1 =>
      simp (maxDischargeDepth := 8) only [l17_0, c17_2, c17_3, c17_4, c17_5, c17_6, smp, q0, q4, q7, q8, hg, hp, gg, e30, e31, lt3_0, lt3_1, lt3_2, idxV_s, partV, RUN, Ed, knd, kndR, resV, binInt, mnmxV, mnmx2, fillL, unV, lenV, extractV, partV, loadAt, Nat.reduceAdd, Nat.reduceBEq, Nat.reduceEqDiff, Nat.reduceLT, Nat.reduceLeDiff, Nat.reduceMul, Nat.reduceSub, reduceIte, Int.reduceEq, Int.reduceNe, Int.reduceLT, Int.reduceLE, Int.reduceAdd, Int.reduceSub, Int.reduceMul, Int.reduceNeg, Int.reduceMod, Int.reduceDiv, Int.reduceTMod, Int.reduceTDiv, Int.reduceToNat, okChain_i, okLoads_nil, okLoads_in, okLoads_eq]
      rfl
    case inv1 =>
      refine ⟨⟨?_, ?_, ?_, ?_⟩, live_more h1 _, fun i z hz _ => live_more hz _⟩
      all_goals simp (maxDischargeDepth := 8) only [q0, q4, q7, smp, RUN, Ed, knd, kndR, resV, binInt, mnmxV, mnmx2, fillL, unV, lenV, extractV, partV, loadAt, Nat.reduceAdd, Nat.reduceBEq, Nat.reduceEqDiff, Nat.reduceLT, Nat.reduceLeDiff, Nat.reduceMul, Nat.reduceSub, reduceIte, Int.reduceEq, Int.reduceNe, Int.reduceLT, Int.reduceLE, Int.reduceAdd, Int.reduceSub, Int.reduceMul, Int.reduceNeg, Int.reduceMod, Int.reduceDiv, Int.reduceTMod, Int.reduceTDiv, Int.reduceToNat, okChain_i, okLoads_nil, okLoads_in, okLoads_eq]
  · cases sb
    · refine ⟨?ρ2, ?H2, ?run2, ?inv2⟩
      case run2 =>
        simp (maxDischargeDepth := 8) only [l17_0, c17_2, c17_3, c17_4, c17_5, c17_6, smp, q0, q4, q7, q8, hg, hp, gg, e30, e31, lt3_0, lt3_1, lt3_2, idxV_s, partV, RUN, Ed, knd, kndR, resV, binInt, mnmxV, mnmx2, fillL, unV, lenV, extractV, partV, loadAt, Nat.reduceAdd, Nat.reduceBEq, Nat.reduceEqDiff, Nat.reduceLT, Nat.reduceLeDiff, Nat.reduceMul, Nat.reduceSub, reduceIte, Int.reduceEq, Int.reduceNe, Int.reduceLT, Int.reduceLE, Int.reduceAdd, Int.reduceSub, Int.reduceMul, Int.reduceNeg, Int.reduceMod, Int.reduceDiv, Int.reduceTMod, Int.reduceTDiv, Int.reduceToNat, okChain_i, okLoads_nil, okLoads_in, okLoads_eq]
        rfl
      case inv2 =>
        refine ⟨⟨?_, ?_, ?_, ?_⟩, ?_, fun i z hz hi => ?_⟩
        · simp (maxDischargeDepth := 8) only [q0, q4, q7, smp, RUN, Ed, knd, kndR, resV, binInt, mnmxV, mnmx2, fillL, unV, lenV, extractV, partV, loadAt, Nat.reduceAdd, Nat.reduceBEq, Nat.reduceEqDiff, Nat.reduceLT, Nat.reduceLeDiff, Nat.reduceMul, Nat.reduceSub, reduceIte, Int.reduceEq, Int.reduceNe, Int.reduceLT, Int.reduceLE, Int.reduceAdd, Int.reduceSub, Int.reduceMul, Int.reduceNeg, Int.reduceMod, Int.reduceDiv, Int.reduceTMod, Int.reduceTDiv, Int.reduceToNat, okChain_i, okLoads_nil, okLoads_in, okLoads_eq]
        · simp (maxDischargeDepth := 8) only [q0, q4, q7, smp, RUN, Ed, knd, kndR, resV, binInt, mnmxV, mnmx2, fillL, unV, lenV, extractV, partV, loadAt, Nat.reduceAdd, Nat.reduceBEq, Nat.reduceEqDiff, Nat.reduceLT, Nat.reduceLeDiff, Nat.reduceMul, Nat.reduceSub, reduceIte, Int.reduceEq, Int.reduceNe, Int.reduceLT, Int.reduceLE, Int.reduceAdd, Int.reduceSub, Int.reduceMul, Int.reduceNeg, Int.reduceMod, Int.reduceDiv, Int.reduceTMod, Int.reduceTDiv, Int.reduceToNat, okChain_i, okLoads_nil, okLoads_in, okLoads_eq]
        · simp (maxDischargeDepth := 8) only [q0, q4, q7, smp, RUN, Ed, knd, kndR, resV, binInt, mnmxV, mnmx2, fillL, unV, lenV, extractV, partV, loadAt, Nat.reduceAdd, Nat.reduceBEq, Nat.reduceEqDiff, Nat.reduceLT, Nat.reduceLeDiff, Nat.reduceMul, Nat.reduceSub, reduceIte, Int.reduceEq, Int.reduceNe, Int.reduceLT, Int.reduceLE, Int.reduceAdd, Int.reduceSub, Int.reduceMul, Int.reduceNeg, Int.reduceMod, Int.reduceDiv, Int.reduceTMod, Int.reduceTDiv, Int.reduceToNat, okChain_i, okLoads_nil, okLoads_in, okLoads_eq]
        · simp (maxDischargeDepth := 8) only [q0, q4, q7, smp, RUN, Ed, knd, kndR, resV, binInt, mnmxV, mnmx2, fillL, unV, lenV, extractV, partV, loadAt, Nat.reduceAdd, Nat.reduceBEq, Nat.reduceEqDiff, Nat.reduceLT, Nat.reduceLeDiff, Nat.reduceMul, Nat.reduceSub, reduceIte, Int.reduceEq, Int.reduceNe, Int.reduceLT, Int.reduceLE, Int.reduceAdd, Int.reduceSub, Int.reduceMul, Int.reduceNeg, Int.reduceMod, Int.reduceDiv, Int.reduceTMod, Int.reduceTDiv, Int.reduceToNat, okChain_i, okLoads_nil, okLoads_in, okLoads_eq]
        · rw [lk_s]
          rw [live_app _ _ _ (by simpa using hp)]
          exact live_set_eq _ _ _ hp
        · rw [live_app _ _ _ (by simpa using live_lt hz), live_set_ne _ _ _ _ (Ne.symm hi)]
          exact hz
    · refine ⟨?ρ3, ?H3, ?run3, ?inv3⟩
      case run3 =>
        simp (maxDischargeDepth := 8) only [l17_0, c17_2, c17_3, c17_4, c17_5, c17_6, smp, q0, q4, q7, q8, hg, hp, gg, e30, e31, lt3_0, lt3_1, lt3_2, idxV_s, partV, RUN, Ed, knd, kndR, resV, binInt, mnmxV, mnmx2, fillL, unV, lenV, extractV, partV, loadAt, Nat.reduceAdd, Nat.reduceBEq, Nat.reduceEqDiff, Nat.reduceLT, Nat.reduceLeDiff, Nat.reduceMul, Nat.reduceSub, reduceIte, Int.reduceEq, Int.reduceNe, Int.reduceLT, Int.reduceLE, Int.reduceAdd, Int.reduceSub, Int.reduceMul, Int.reduceNeg, Int.reduceMod, Int.reduceDiv, Int.reduceTMod, Int.reduceTDiv, Int.reduceToNat, okChain_i, okLoads_nil, okLoads_in, okLoads_eq]
        rfl
      case inv3 =>
        refine ⟨⟨?_, ?_, ?_, ?_⟩, live_more h1 _, fun i z hz _ => live_more hz _⟩
        all_goals simp (maxDischargeDepth := 8) only [q0, q4, q7, smp, RUN, Ed, knd, kndR, resV, binInt, mnmxV, mnmx2, fillL, unV, lenV, extractV, partV, loadAt, Nat.reduceAdd, Nat.reduceBEq, Nat.reduceEqDiff, Nat.reduceLT, Nat.reduceLeDiff, Nat.reduceMul, Nat.reduceSub, reduceIte, Int.reduceEq, Int.reduceNe, Int.reduceLT, Int.reduceLE, Int.reduceAdd, Int.reduceSub, Int.reduceMul, Int.reduceNeg, Int.reduceMod, Int.reduceDiv, Int.reduceTMod, Int.reduceTDiv, Int.reduceToNat, okChain_i, okLoads_nil, okLoads_in, okLoads_eq]
end Go.Proofs.Ytncpbbdgckkdmaa.Sim
