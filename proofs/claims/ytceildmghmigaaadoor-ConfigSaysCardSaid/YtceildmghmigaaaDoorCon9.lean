/- Tables that may not be, over the plain heap. -/
import Derived.Test.YtceildmghmigaaaDoorCon6
import Derived.Test.YtceildmghmigaaaDoorSim21
namespace Go.Proofs.YtceildmghmigaaaDoor.Sim
open Go
set_option linter.unusedSimpArgs false
set_option linter.unusedVariables false
def inP (x : Int) : Prop := -1073741824 ≤ x ∧ x ≤ 1073741824
instance (x : Int) : Decidable (inP x) := by unfold inP; exact inferInstance
/-- A point is as it has to be behind the one before. -/
def okP (l : List Pt) (j : Nat) : Prop := (inP (l.getD j (0, 0)).1 ∧ inP (l.getD j (0, 0)).2) ∧ (j = 0 ∨ ((l.getD (j - 1) (0, 0)).1 < (l.getD j (0, 0)).1 ∧ (l.getD (j - 1) (0, 0)).2 ≤ (l.getD j (0, 0)).2))
instance (l : List Pt) (j : Nat) : Decidable (okP l j) := by unfold okP; exact inferInstance
theorem outG_f (x : Int) (H : Heap) : D Tryd.prog hints 35 [.int .i64 x] H = some (.bool (!decide (inP x)), H) := by
  rw [D_eq p35 _ _ (Nat.le_of_ble_eq_true rfl)]
  unfold inP
  by_cases a1 : x < -1073741824
  · have hd : decide (-1073741824 ≤ x ∧ x ≤ 1073741824) = false := by rw [decide_eq_false_iff_not]; omega
    rw [hd]
    simp (maxDischargeDepth := 8) only [r35, b35, c35_0, c35_1, a1, RUN, Ed, knd, kndR, resV, binInt, mnmxV, mnmx2, fillL, unV, lenV, extractV, partV, loadAt, Nat.reduceAdd, Nat.reduceBEq, Nat.reduceEqDiff, Nat.reduceLT, Nat.reduceLeDiff, Nat.reduceMul, Nat.reduceSub, reduceIte, Int.reduceEq, Int.reduceNe, Int.reduceLT, Int.reduceLE, Int.reduceAdd, Int.reduceSub, Int.reduceMul, Int.reduceNeg, Int.reduceMod, Int.reduceDiv, Int.reduceTMod, Int.reduceTDiv, Int.reduceToNat, okChain_i, okLoads_nil, okLoads_in, okLoads_eq]
  · by_cases a2 : 1073741824 < x
    · have hd : decide (-1073741824 ≤ x ∧ x ≤ 1073741824) = false := by rw [decide_eq_false_iff_not]; omega
      rw [hd]
      simp (maxDischargeDepth := 8) only [r35, b35, c35_0, c35_1, a1, a2, RUN, Ed, knd, kndR, resV, binInt, mnmxV, mnmx2, fillL, unV, lenV, extractV, partV, loadAt, Nat.reduceAdd, Nat.reduceBEq, Nat.reduceEqDiff, Nat.reduceLT, Nat.reduceLeDiff, Nat.reduceMul, Nat.reduceSub, reduceIte, Int.reduceEq, Int.reduceNe, Int.reduceLT, Int.reduceLE, Int.reduceAdd, Int.reduceSub, Int.reduceMul, Int.reduceNeg, Int.reduceMod, Int.reduceDiv, Int.reduceTMod, Int.reduceTDiv, Int.reduceToNat, okChain_i, okLoads_nil, okLoads_in, okLoads_eq]
    · have hd : decide (-1073741824 ≤ x ∧ x ≤ 1073741824) = true := by rw [decide_eq_true_iff]; omega
      rw [hd]
      simp (maxDischargeDepth := 8) only [r35, b35, c35_0, c35_1, a1, a2, RUN, Ed, knd, kndR, resV, binInt, mnmxV, mnmx2, fillL, unV, lenV, extractV, partV, loadAt, Nat.reduceAdd, Nat.reduceBEq, Nat.reduceEqDiff, Nat.reduceLT, Nat.reduceLeDiff, Nat.reduceMul, Nat.reduceSub, reduceIte, Int.reduceEq, Int.reduceNe, Int.reduceLT, Int.reduceLE, Int.reduceAdd, Int.reduceSub, Int.reduceMul, Int.reduceNeg, Int.reduceMod, Int.reduceDiv, Int.reduceTMod, Int.reduceTDiv, Int.reduceToNat, okChain_i, okLoads_nil, okLoads_in, okLoads_eq]
theorem getD_get {l : List Pt} {j : Nat} (h : j < l.length) : l[j]? = some (l.getD j (0, 0)) := by
  rw [List.getD_eq_getElem?_getD, List.getElem?_eq_getElem h]; rfl
theorem bad29 (H : Heap) (hE : EH all7 H) (v : Value) (l : List Pt) (hl : l.length ≤ 64) (hv : PS H v l) (j : Nat) (hj : j < l.length) (ρ : Fr) (G : Heap) (hG : Ext H G) (q0 : ρ 0 = v) (q15 : ρ 15 = v) (q16 : ρ 16 = .int .i64 l.length) (q17 : ρ 17 = .int .i64 j) :
    (okP l j → ∃ ρ' F, E Tryd.prog hints l29_0 ρ G = some (.normal, ρ', F) ∧ Ext H F ∧ ρ' 0 = v ∧ ρ' 15 = v ∧ ρ' 16 = .int .i64 l.length ∧ ρ' 17 = .int .i64 (j + 1 : Nat)) ∧
    (¬ okP l j → ∃ ρ' F q, E Tryd.prog hints l29_0 ρ G = some (.ret, ρ', F) ∧ Ext H F ∧ ρ' 2 = AtV q) := by
  have hp := getD_get hj
  obtain ⟨i, x1, ow, ty, cells, x2, x3, x4, x5, x6⟩ := (hv.ext hG).idx hp
  have i2 := live_ltG x2
  have hlt : (j : Int) < (l.length : Int) := by omega
  have wj := wrap64 ((j : Int) + 1) (by omega) (by omega)
  have oo := fun x F => outG_f x F
  have hE1 := hE.ext hG
  obtain ⟨t0, r0⟩ := hE1 0 (by omega) rfl
  obtain ⟨t4, r4⟩ := hE1 4 (by omega) rfl
  have r0' := fun X => live_more0 r0 X
  have r4' := fun X => live_more0 r4 X
  have j0 := live_ltG r0
  have j4 := live_ltG r4
  have j0' : ∀ X : Heap, 0 < (G ++ X).length := fun X => by rw [List.length_append]; omega
  have j4' : ∀ X : Heap, 4 < (G ++ X).length := fun X => by rw [List.length_append]; omega
  have hlow : 7 ≤ G.length := by
    obtain ⟨t, h6⟩ := hE1 6 (by omega) rfl
    have := live_ltG h6; omega
  unfold okP
  by_cases a1 : inP (l.getD j (0, 0)).1
  case neg =>
    have d1 : decide (inP (l.getD j (0, 0)).1) = false := by simpa using a1
    refine ⟨fun h => absurd h.1.1 a1, fun _ => ?_⟩
    generalize l.getD j (0, 0) = p at *
    obtain ⟨px, py⟩ := p
    simp only at x4 x5 x6 d1
    refine ⟨?ρ1, _, ?q1, ?run1, hG.app ?X1, ?e1⟩
    case run1 =>
      simp (maxDischargeDepth := 8) only [l29_0, c29_0, c29_1, c29_2, c29_3, c29_4, c29_5, c29_6, c29_7, c29_8, c29_9, c29_10, c29_11, c29_12, c29_13, q0, q15, q16, q17, hlt, x1, x2, x3, x4, i2, oo, d1, r0, r0', j0, j0', g3, one_E, cells_E, RUN, Ed, knd, kndR, resV, binInt, mnmxV, mnmx2, fillL, unV, lenV, extractV, partV, loadAt, Nat.reduceAdd, Nat.reduceBEq, Nat.reduceEqDiff, Nat.reduceLT, Nat.reduceLeDiff, Nat.reduceMul, Nat.reduceSub, reduceIte, Int.reduceEq, Int.reduceNe, Int.reduceLT, Int.reduceLE, Int.reduceAdd, Int.reduceSub, Int.reduceMul, Int.reduceNeg, Int.reduceMod, Int.reduceDiv, Int.reduceTMod, Int.reduceTDiv, Int.reduceToNat, okChain_i, okLoads_nil, okLoads_in, okLoads_eq]
      rfl
    case e1 =>
      simp (maxDischargeDepth := 8) only [AtV, RUN, Ed, knd, kndR, resV, binInt, mnmxV, mnmx2, fillL, unV, lenV, extractV, partV, loadAt, Nat.reduceAdd, Nat.reduceBEq, Nat.reduceEqDiff, Nat.reduceLT, Nat.reduceLeDiff, Nat.reduceMul, Nat.reduceSub, reduceIte, Int.reduceEq, Int.reduceNe, Int.reduceLT, Int.reduceLE, Int.reduceAdd, Int.reduceSub, Int.reduceMul, Int.reduceNeg, Int.reduceMod, Int.reduceDiv, Int.reduceTMod, Int.reduceTDiv, Int.reduceToNat, okChain_i, okLoads_nil, okLoads_in, okLoads_eq]
      rfl
  have d1 : decide (inP (l.getD j (0, 0)).1) = true := by simpa using a1
  by_cases a2 : inP (l.getD j (0, 0)).2
  case neg =>
    have d2 : decide (inP (l.getD j (0, 0)).2) = false := by simpa using a2
    refine ⟨fun h => absurd h.1.2 a2, fun _ => ?_⟩
    generalize l.getD j (0, 0) = p at *
    obtain ⟨px, py⟩ := p
    simp only at x4 x5 x6 d1 d2
    refine ⟨?ρ2, _, ?q2, ?run2, hG.app ?X2, ?e2⟩
    case run2 =>
      simp (maxDischargeDepth := 8) only [l29_0, c29_0, c29_1, c29_2, c29_3, c29_4, c29_5, c29_6, c29_7, c29_8, c29_9, c29_10, c29_11, c29_12, c29_13, q0, q15, q16, q17, hlt, x1, x2, x3, x4, i2, oo, d1, d2, r0, r0', j0, j0', g3, one_E, cells_E, RUN, Ed, knd, kndR, resV, binInt, mnmxV, mnmx2, fillL, unV, lenV, extractV, partV, loadAt, Nat.reduceAdd, Nat.reduceBEq, Nat.reduceEqDiff, Nat.reduceLT, Nat.reduceLeDiff, Nat.reduceMul, Nat.reduceSub, reduceIte, Int.reduceEq, Int.reduceNe, Int.reduceLT, Int.reduceLE, Int.reduceAdd, Int.reduceSub, Int.reduceMul, Int.reduceNeg, Int.reduceMod, Int.reduceDiv, Int.reduceTMod, Int.reduceTDiv, Int.reduceToNat, okChain_i, okLoads_nil, okLoads_in, okLoads_eq]
      rfl
    case e2 =>
      simp (maxDischargeDepth := 8) only [AtV, RUN, Ed, knd, kndR, resV, binInt, mnmxV, mnmx2, fillL, unV, lenV, extractV, partV, loadAt, Nat.reduceAdd, Nat.reduceBEq, Nat.reduceEqDiff, Nat.reduceLT, Nat.reduceLeDiff, Nat.reduceMul, Nat.reduceSub, reduceIte, Int.reduceEq, Int.reduceNe, Int.reduceLT, Int.reduceLE, Int.reduceAdd, Int.reduceSub, Int.reduceMul, Int.reduceNeg, Int.reduceMod, Int.reduceDiv, Int.reduceTMod, Int.reduceTDiv, Int.reduceToNat, okChain_i, okLoads_nil, okLoads_in, okLoads_eq]
      rfl
  have d2 : decide (inP (l.getD j (0, 0)).2) = true := by simpa using a2
  by_cases h0 : j = 0
  · refine ⟨fun _ => ?_, fun h => absurd ⟨⟨a1, a2⟩, .inl h0⟩ h⟩
    have hz : ¬ (0 : Int) < (j : Int) := by omega
    generalize l.getD j (0, 0) = p at *
    obtain ⟨px, py⟩ := p
    simp only at x4 x5 x6 d1 d2
    refine ⟨?ρ3, _, ?run3, hG.app ?X3, ?_, ?_, ?_, ?_⟩
    case run3 =>
      simp (maxDischargeDepth := 8) only [l29_0, c29_0, c29_1, c29_2, c29_3, c29_4, c29_5, c29_6, c29_7, c29_8, c29_9, c29_10, c29_11, c29_12, c29_13, q0, q15, q16, q17, hlt, x1, x2, x3, x4, i2, oo, d1, d2, hz, wj, RUN, Ed, knd, kndR, resV, binInt, mnmxV, mnmx2, fillL, unV, lenV, extractV, partV, loadAt, Nat.reduceAdd, Nat.reduceBEq, Nat.reduceEqDiff, Nat.reduceLT, Nat.reduceLeDiff, Nat.reduceMul, Nat.reduceSub, reduceIte, Int.reduceEq, Int.reduceNe, Int.reduceLT, Int.reduceLE, Int.reduceAdd, Int.reduceSub, Int.reduceMul, Int.reduceNeg, Int.reduceMod, Int.reduceDiv, Int.reduceTMod, Int.reduceTDiv, Int.reduceToNat, okChain_i, okLoads_nil, okLoads_in, okLoads_eq]
      rfl
    all_goals first | (simp (maxDischargeDepth := 8) only [q0, q15, q16, RUN, Ed, knd, kndR, resV, binInt, mnmxV, mnmx2, fillL, unV, lenV, extractV, partV, loadAt, Nat.reduceAdd, Nat.reduceBEq, Nat.reduceEqDiff, Nat.reduceLT, Nat.reduceLeDiff, Nat.reduceMul, Nat.reduceSub, reduceIte, Int.reduceEq, Int.reduceNe, Int.reduceLT, Int.reduceLE, Int.reduceAdd, Int.reduceSub, Int.reduceMul, Int.reduceNeg, Int.reduceMod, Int.reduceDiv, Int.reduceTMod, Int.reduceTDiv, Int.reduceToNat, okChain_i, okLoads_nil, okLoads_in, okLoads_eq]; done) | (simp (maxDischargeDepth := 8) only [q0, q15, q16, RUN, Ed, knd, kndR, resV, binInt, mnmxV, mnmx2, fillL, unV, lenV, extractV, partV, loadAt, Nat.reduceAdd, Nat.reduceBEq, Nat.reduceEqDiff, Nat.reduceLT, Nat.reduceLeDiff, Nat.reduceMul, Nat.reduceSub, reduceIte, Int.reduceEq, Int.reduceNe, Int.reduceLT, Int.reduceLE, Int.reduceAdd, Int.reduceSub, Int.reduceMul, Int.reduceNeg, Int.reduceMod, Int.reduceDiv, Int.reduceTMod, Int.reduceTDiv, Int.reduceToNat, okChain_i, okLoads_nil, okLoads_in, okLoads_eq]; rfl)
  have hz : (0 : Int) < (j : Int) := by omega
  have hq := getD_get (l := l) (j := j - 1) (by omega)
  obtain ⟨i', y1, ow', ty', cells', y2, y3, y4, y5, y6⟩ := (hv.ext hG).idx hq
  have i3 := live_ltG y2
  have wk : IntKind.i64.wrap ((j : Int) - 1) = ((j - 1 : Nat) : Int) := by rw [wrap64 _ (by omega) (by omega)]; omega
  generalize hk : j - 1 = k at *
  by_cases a3 : (l.getD k (0, 0)).1 < (l.getD j (0, 0)).1
  case neg =>
    have n3 : (l.getD j (0, 0)).1 ≤ (l.getD k (0, 0)).1 := by omega
    refine ⟨fun h => absurd h.2 (by rintro (h | h); exact h0 h; exact a3 h.1), fun _ => ?_⟩
    generalize l.getD j (0, 0) = p at *
    generalize l.getD k (0, 0) = q at *
    obtain ⟨px, py⟩ := p
    obtain ⟨qx, qy⟩ := q
    simp only at x4 x5 x6 y4 y5 y6 d1 d2 n3
    refine ⟨?ρ4, _, ?q4, ?run4, hG.app ?X4, ?e4⟩
    case run4 =>
      simp (maxDischargeDepth := 8) only [l29_0, c29_0, c29_1, c29_2, c29_3, c29_4, c29_5, c29_6, c29_7, c29_8, c29_9, c29_10, c29_11, c29_12, c29_13, q0, q15, q16, q17, hlt, x1, x2, x3, x4, i2, oo, d1, d2, hz, wk, y1, y2, y5, y6, i3, n3, r4, r4', j4, j4', g4, one_E, cells_E, RUN, Ed, knd, kndR, resV, binInt, mnmxV, mnmx2, fillL, unV, lenV, extractV, partV, loadAt, Nat.reduceAdd, Nat.reduceBEq, Nat.reduceEqDiff, Nat.reduceLT, Nat.reduceLeDiff, Nat.reduceMul, Nat.reduceSub, reduceIte, Int.reduceEq, Int.reduceNe, Int.reduceLT, Int.reduceLE, Int.reduceAdd, Int.reduceSub, Int.reduceMul, Int.reduceNeg, Int.reduceMod, Int.reduceDiv, Int.reduceTMod, Int.reduceTDiv, Int.reduceToNat, okChain_i, okLoads_nil, okLoads_in, okLoads_eq]
      rfl
    case e4 =>
      simp (maxDischargeDepth := 8) only [AtV, RUN, Ed, knd, kndR, resV, binInt, mnmxV, mnmx2, fillL, unV, lenV, extractV, partV, loadAt, Nat.reduceAdd, Nat.reduceBEq, Nat.reduceEqDiff, Nat.reduceLT, Nat.reduceLeDiff, Nat.reduceMul, Nat.reduceSub, reduceIte, Int.reduceEq, Int.reduceNe, Int.reduceLT, Int.reduceLE, Int.reduceAdd, Int.reduceSub, Int.reduceMul, Int.reduceNeg, Int.reduceMod, Int.reduceDiv, Int.reduceTMod, Int.reduceTDiv, Int.reduceToNat, okChain_i, okLoads_nil, okLoads_in, okLoads_eq]
      rfl
  have n3 : ¬ (l.getD j (0, 0)).1 ≤ (l.getD k (0, 0)).1 := by omega
  by_cases a4 : (l.getD k (0, 0)).2 ≤ (l.getD j (0, 0)).2
  case neg =>
    have n4 : (l.getD j (0, 0)).2 < (l.getD k (0, 0)).2 := by omega
    refine ⟨fun h => absurd h.2 (by rintro (h | h); exact h0 h; exact a4 h.2), fun _ => ?_⟩
    generalize l.getD j (0, 0) = p at *
    generalize l.getD k (0, 0) = q at *
    obtain ⟨px, py⟩ := p
    obtain ⟨qx, qy⟩ := q
    simp only at x4 x5 x6 y4 y5 y6 d1 d2 n3 n4
    refine ⟨?ρ5, _, ?q5, ?run5, hG.app ?X5, ?e5⟩
    case run5 =>
      simp (maxDischargeDepth := 8) only [l29_0, c29_0, c29_1, c29_2, c29_3, c29_4, c29_5, c29_6, c29_7, c29_8, c29_9, c29_10, c29_11, c29_12, c29_13, q0, q15, q16, q17, hlt, x1, x2, x3, x4, i2, oo, d1, d2, hz, wk, y1, y2, y5, y6, i3, n3, n4, r4, r4', j4, j4', g4, one_E, cells_E, RUN, Ed, knd, kndR, resV, binInt, mnmxV, mnmx2, fillL, unV, lenV, extractV, partV, loadAt, Nat.reduceAdd, Nat.reduceBEq, Nat.reduceEqDiff, Nat.reduceLT, Nat.reduceLeDiff, Nat.reduceMul, Nat.reduceSub, reduceIte, Int.reduceEq, Int.reduceNe, Int.reduceLT, Int.reduceLE, Int.reduceAdd, Int.reduceSub, Int.reduceMul, Int.reduceNeg, Int.reduceMod, Int.reduceDiv, Int.reduceTMod, Int.reduceTDiv, Int.reduceToNat, okChain_i, okLoads_nil, okLoads_in, okLoads_eq]
      rfl
    case e5 =>
      simp (maxDischargeDepth := 8) only [AtV, RUN, Ed, knd, kndR, resV, binInt, mnmxV, mnmx2, fillL, unV, lenV, extractV, partV, loadAt, Nat.reduceAdd, Nat.reduceBEq, Nat.reduceEqDiff, Nat.reduceLT, Nat.reduceLeDiff, Nat.reduceMul, Nat.reduceSub, reduceIte, Int.reduceEq, Int.reduceNe, Int.reduceLT, Int.reduceLE, Int.reduceAdd, Int.reduceSub, Int.reduceMul, Int.reduceNeg, Int.reduceMod, Int.reduceDiv, Int.reduceTMod, Int.reduceTDiv, Int.reduceToNat, okChain_i, okLoads_nil, okLoads_in, okLoads_eq]
      rfl
  have n4 : ¬ (l.getD j (0, 0)).2 < (l.getD k (0, 0)).2 := by omega
  refine ⟨fun _ => ?_, fun h => absurd ⟨⟨a1, a2⟩, .inr ⟨a3, a4⟩⟩ h⟩
  generalize l.getD j (0, 0) = p at *
  generalize l.getD k (0, 0) = q at *
  obtain ⟨px, py⟩ := p
  obtain ⟨qx, qy⟩ := q
  simp only at x4 x5 x6 y4 y5 y6 d1 d2 n3 n4
  refine ⟨?ρ6, _, ?run6, hG.app ?X6, ?_, ?_, ?_, ?_⟩
  case run6 =>
    simp (maxDischargeDepth := 8) only [l29_0, c29_0, c29_1, c29_2, c29_3, c29_4, c29_5, c29_6, c29_7, c29_8, c29_9, c29_10, c29_11, c29_12, c29_13, q0, q15, q16, q17, hlt, x1, x2, x3, x4, i2, oo, d1, d2, hz, wj, wk, y1, y2, y5, y6, i3, n3, n4, RUN, Ed, knd, kndR, resV, binInt, mnmxV, mnmx2, fillL, unV, lenV, extractV, partV, loadAt, Nat.reduceAdd, Nat.reduceBEq, Nat.reduceEqDiff, Nat.reduceLT, Nat.reduceLeDiff, Nat.reduceMul, Nat.reduceSub, reduceIte, Int.reduceEq, Int.reduceNe, Int.reduceLT, Int.reduceLE, Int.reduceAdd, Int.reduceSub, Int.reduceMul, Int.reduceNeg, Int.reduceMod, Int.reduceDiv, Int.reduceTMod, Int.reduceTDiv, Int.reduceToNat, okChain_i, okLoads_nil, okLoads_in, okLoads_eq]
    rfl
  all_goals first | (simp (maxDischargeDepth := 8) only [q0, q15, q16, RUN, Ed, knd, kndR, resV, binInt, mnmxV, mnmx2, fillL, unV, lenV, extractV, partV, loadAt, Nat.reduceAdd, Nat.reduceBEq, Nat.reduceEqDiff, Nat.reduceLT, Nat.reduceLeDiff, Nat.reduceMul, Nat.reduceSub, reduceIte, Int.reduceEq, Int.reduceNe, Int.reduceLT, Int.reduceLE, Int.reduceAdd, Int.reduceSub, Int.reduceMul, Int.reduceNeg, Int.reduceMod, Int.reduceDiv, Int.reduceTMod, Int.reduceTDiv, Int.reduceToNat, okChain_i, okLoads_nil, okLoads_in, okLoads_eq]; done) | (simp (maxDischargeDepth := 8) only [q0, q15, q16, RUN, Ed, knd, kndR, resV, binInt, mnmxV, mnmx2, fillL, unV, lenV, extractV, partV, loadAt, Nat.reduceAdd, Nat.reduceBEq, Nat.reduceEqDiff, Nat.reduceLT, Nat.reduceLeDiff, Nat.reduceMul, Nat.reduceSub, reduceIte, Int.reduceEq, Int.reduceNe, Int.reduceLT, Int.reduceLE, Int.reduceAdd, Int.reduceSub, Int.reduceMul, Int.reduceNeg, Int.reduceMod, Int.reduceDiv, Int.reduceTMod, Int.reduceTDiv, Int.reduceToNat, okChain_i, okLoads_nil, okLoads_in, okLoads_eq]; rfl)
end Go.Proofs.YtceildmghmigaaaDoor.Sim
