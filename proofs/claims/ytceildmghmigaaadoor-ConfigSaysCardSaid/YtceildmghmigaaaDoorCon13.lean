/- The document's CheckConfig: its loops. -/
import Derived.Test.YtceildmghmigaaaDoorCon12
import Derived.Test.YtceildmghmigaaaDoorSim21
namespace Go.Proofs.YtceildmghmigaaaDoor.Sim
open Go
set_option linter.unusedSimpArgs false
set_option linter.unusedVariables false
def TS (H : Heap) (v : Value) (A : List Int) : Prop := ∃ (i e : Nat) (ow : Bool) (ty : TypeId), v = .slice (some ⟨i, 0, none⟩) A.length e ∧ live H i = some ⟨ow, ty, A.map (Value.int .i64)⟩
theorem TS.len {H : Heap} {v : Value} {A : List Int} (h : TS H v A) : lenV false v = some (.int .i64 A.length) := by
  obtain ⟨i, e, ow, ty, rfl, _⟩ := h; rfl
theorem TS.ext {H G : Heap} {v : Value} {A : List Int} (h : TS H v A) (e : Ext H G) : TS G v A := by
  obtain ⟨i, e', ow, ty, h1, h2⟩ := h
  exact ⟨i, e', ow, ty, h1, e.live h2⟩
theorem TS.idx {H : Heap} {v : Value} {A : List Int} (h : TS H v A) {j : Nat} (hj : j < A.length) : ∃ i, idxSV 1 v (.int .i64 j) = some (.pointer (some ⟨i, j, none⟩)) ∧ ∃ ow ty cells, live H i = some ⟨ow, ty, cells⟩ ∧ cells[j]? = some (.int .i64 (A.getD j 0)) := by
  obtain ⟨i, e, ow, ty, rfl, h2⟩ := h
  refine ⟨i, ?_, ow, ty, _, h2, ?_⟩
  · rw [idxS_s _ _ _ _ _ _ _ (by omega) (by omega)]
    simp
  · rw [List.getElem?_map, List.getD_eq_getElem?_getD, List.getElem?_eq_getElem hj]; rfl
def ok5 (A : List Int) (j : Nat) : Prop := 1 ≤ A.getD j 0 ∧ A.getD j 0 ≤ 100
theorem loop14a (G : Heap) (u : Value) (A : List Int) (h5 : A.length = 5) (hT : TS G u A) (ρ0 : Fr) (q4 : ρ0 4 = u) (q5 : ρ0 5 = .int .i64 (0 : Nat)) :
    ((∀ j, 0 ≤ j → j < 5 → ok5 A j) → ∃ ρ' F, E Tryd.prog hints (.loop l14_0) ρ0 G = some (.exit 0, ρ', F) ∧ F = G) ∧
    (∀ j, 0 ≤ j → j < 5 → ¬ ok5 A j → (∀ i, 0 ≤ i → i < j → ok5 A i) → ∃ ρ' F, E Tryd.prog hints (.loop l14_0) ρ0 G = some (.ret, ρ', F) ∧ (F = G ∧ ρ' 2 = .int .i64 (j + 1 : Nat))) := by
  refine loop_first (P := Tryd.prog) (hs := hints) (b := l14_0) (id := 0) (N := 5) (ok5 A) (fun j ρ F => F = G ∧ ρ 4 = u ∧ ρ 5 = .int .i64 j) (fun ρ F => F = G) (fun j ρ F => F = G ∧ ρ 2 = .int .i64 (j + 1 : Nat)) ?_ ?_ 5 0 (by omega) ρ0 G ⟨rfl, q4, q5⟩
  · rintro j ρ F hj ⟨rfl, r4, r5⟩
    obtain ⟨i, x1, ow, ty, cells, x2, x3⟩ := hT.idx (j := j) (by omega)
    have i2 := live_ltG x2
    have hlt : (j : Int) < 5 := by omega
    have wj := wrap64 ((j : Int) + 1) (by omega) (by omega)
    unfold ok5
    generalize A.getD j 0 = a at *
    by_cases c1 : a < 1
    · refine ⟨fun h => absurd h.1 (by omega), fun _ => ⟨?ρ1, F, ?run1, rfl, ?_⟩⟩
      case run1 =>
        simp (maxDischargeDepth := 8) only [l14_0, c14_0, c14_1, c14_2, c14_3, c14_4, c14_5, c14_6, c14_7, c14_8, c14_9, c14_10, c14_11, c14_12, c14_13, c14_14, c14_15, c14_16, c14_17, c14_18, c14_19, c14_20, c14_21, c14_22, c14_23, c14_24, c14_25, c14_26, c14_27, c14_28, c14_29, c14_30, c14_31, c14_32, c14_33, c14_34, r4, r5, hlt, x1, x2, x3, i2, c1, wj, RUN, Ed, knd, kndR, resV, binInt, mnmxV, mnmx2, fillL, unV, lenV, extractV, partV, loadAt, Nat.reduceAdd, Nat.reduceBEq, Nat.reduceEqDiff, Nat.reduceLT, Nat.reduceLeDiff, Nat.reduceMul, Nat.reduceSub, reduceIte, Int.reduceEq, Int.reduceNe, Int.reduceLT, Int.reduceLE, Int.reduceAdd, Int.reduceSub, Int.reduceMul, Int.reduceNeg, Int.reduceMod, Int.reduceDiv, Int.reduceTMod, Int.reduceTDiv, Int.reduceToNat, okChain_i, okLoads_nil, okLoads_in, okLoads_eq]
        rfl
      first | (simp (maxDischargeDepth := 8) only [RUN, Ed, knd, kndR, resV, binInt, mnmxV, mnmx2, fillL, unV, lenV, extractV, partV, loadAt, Nat.reduceAdd, Nat.reduceBEq, Nat.reduceEqDiff, Nat.reduceLT, Nat.reduceLeDiff, Nat.reduceMul, Nat.reduceSub, reduceIte, Int.reduceEq, Int.reduceNe, Int.reduceLT, Int.reduceLE, Int.reduceAdd, Int.reduceSub, Int.reduceMul, Int.reduceNeg, Int.reduceMod, Int.reduceDiv, Int.reduceTMod, Int.reduceTDiv, Int.reduceToNat, okChain_i, okLoads_nil, okLoads_in, okLoads_eq]; done) | (simp (maxDischargeDepth := 8) only [RUN, Ed, knd, kndR, resV, binInt, mnmxV, mnmx2, fillL, unV, lenV, extractV, partV, loadAt, Nat.reduceAdd, Nat.reduceBEq, Nat.reduceEqDiff, Nat.reduceLT, Nat.reduceLeDiff, Nat.reduceMul, Nat.reduceSub, reduceIte, Int.reduceEq, Int.reduceNe, Int.reduceLT, Int.reduceLE, Int.reduceAdd, Int.reduceSub, Int.reduceMul, Int.reduceNeg, Int.reduceMod, Int.reduceDiv, Int.reduceTMod, Int.reduceTDiv, Int.reduceToNat, okChain_i, okLoads_nil, okLoads_in, okLoads_eq]; rfl)
    by_cases c2 : 100 < a
    · refine ⟨fun h => absurd h.2 (by omega), fun _ => ⟨?ρ2, F, ?run2, rfl, ?_⟩⟩
      case run2 =>
        simp (maxDischargeDepth := 8) only [l14_0, c14_0, c14_1, c14_2, c14_3, c14_4, c14_5, c14_6, c14_7, c14_8, c14_9, c14_10, c14_11, c14_12, c14_13, c14_14, c14_15, c14_16, c14_17, c14_18, c14_19, c14_20, c14_21, c14_22, c14_23, c14_24, c14_25, c14_26, c14_27, c14_28, c14_29, c14_30, c14_31, c14_32, c14_33, c14_34, r4, r5, hlt, x1, x2, x3, i2, c1, c2, wj, RUN, Ed, knd, kndR, resV, binInt, mnmxV, mnmx2, fillL, unV, lenV, extractV, partV, loadAt, Nat.reduceAdd, Nat.reduceBEq, Nat.reduceEqDiff, Nat.reduceLT, Nat.reduceLeDiff, Nat.reduceMul, Nat.reduceSub, reduceIte, Int.reduceEq, Int.reduceNe, Int.reduceLT, Int.reduceLE, Int.reduceAdd, Int.reduceSub, Int.reduceMul, Int.reduceNeg, Int.reduceMod, Int.reduceDiv, Int.reduceTMod, Int.reduceTDiv, Int.reduceToNat, okChain_i, okLoads_nil, okLoads_in, okLoads_eq]
        rfl
      first | (simp (maxDischargeDepth := 8) only [RUN, Ed, knd, kndR, resV, binInt, mnmxV, mnmx2, fillL, unV, lenV, extractV, partV, loadAt, Nat.reduceAdd, Nat.reduceBEq, Nat.reduceEqDiff, Nat.reduceLT, Nat.reduceLeDiff, Nat.reduceMul, Nat.reduceSub, reduceIte, Int.reduceEq, Int.reduceNe, Int.reduceLT, Int.reduceLE, Int.reduceAdd, Int.reduceSub, Int.reduceMul, Int.reduceNeg, Int.reduceMod, Int.reduceDiv, Int.reduceTMod, Int.reduceTDiv, Int.reduceToNat, okChain_i, okLoads_nil, okLoads_in, okLoads_eq]; done) | (simp (maxDischargeDepth := 8) only [RUN, Ed, knd, kndR, resV, binInt, mnmxV, mnmx2, fillL, unV, lenV, extractV, partV, loadAt, Nat.reduceAdd, Nat.reduceBEq, Nat.reduceEqDiff, Nat.reduceLT, Nat.reduceLeDiff, Nat.reduceMul, Nat.reduceSub, reduceIte, Int.reduceEq, Int.reduceNe, Int.reduceLT, Int.reduceLE, Int.reduceAdd, Int.reduceSub, Int.reduceMul, Int.reduceNeg, Int.reduceMod, Int.reduceDiv, Int.reduceTMod, Int.reduceTDiv, Int.reduceToNat, okChain_i, okLoads_nil, okLoads_in, okLoads_eq]; rfl)
    · refine ⟨fun _ => ⟨?ρ3, F, ?run3, rfl, ?_, ?_⟩, fun h => absurd ⟨by omega, by omega⟩ h⟩
      case run3 =>
        simp (maxDischargeDepth := 8) only [l14_0, c14_0, c14_1, c14_2, c14_3, c14_4, c14_5, c14_6, c14_7, c14_8, c14_9, c14_10, c14_11, c14_12, c14_13, c14_14, c14_15, c14_16, c14_17, c14_18, c14_19, c14_20, c14_21, c14_22, c14_23, c14_24, c14_25, c14_26, c14_27, c14_28, c14_29, c14_30, c14_31, c14_32, c14_33, c14_34, r4, r5, hlt, x1, x2, x3, i2, c1, c2, wj, RUN, Ed, knd, kndR, resV, binInt, mnmxV, mnmx2, fillL, unV, lenV, extractV, partV, loadAt, Nat.reduceAdd, Nat.reduceBEq, Nat.reduceEqDiff, Nat.reduceLT, Nat.reduceLeDiff, Nat.reduceMul, Nat.reduceSub, reduceIte, Int.reduceEq, Int.reduceNe, Int.reduceLT, Int.reduceLE, Int.reduceAdd, Int.reduceSub, Int.reduceMul, Int.reduceNeg, Int.reduceMod, Int.reduceDiv, Int.reduceTMod, Int.reduceTDiv, Int.reduceToNat, okChain_i, okLoads_nil, okLoads_in, okLoads_eq]
        rfl
      all_goals first | (simp (maxDischargeDepth := 8) only [r4, RUN, Ed, knd, kndR, resV, binInt, mnmxV, mnmx2, fillL, unV, lenV, extractV, partV, loadAt, Nat.reduceAdd, Nat.reduceBEq, Nat.reduceEqDiff, Nat.reduceLT, Nat.reduceLeDiff, Nat.reduceMul, Nat.reduceSub, reduceIte, Int.reduceEq, Int.reduceNe, Int.reduceLT, Int.reduceLE, Int.reduceAdd, Int.reduceSub, Int.reduceMul, Int.reduceNeg, Int.reduceMod, Int.reduceDiv, Int.reduceTMod, Int.reduceTDiv, Int.reduceToNat, okChain_i, okLoads_nil, okLoads_in, okLoads_eq]; done) | (simp (maxDischargeDepth := 8) only [r4, RUN, Ed, knd, kndR, resV, binInt, mnmxV, mnmx2, fillL, unV, lenV, extractV, partV, loadAt, Nat.reduceAdd, Nat.reduceBEq, Nat.reduceEqDiff, Nat.reduceLT, Nat.reduceLeDiff, Nat.reduceMul, Nat.reduceSub, reduceIte, Int.reduceEq, Int.reduceNe, Int.reduceLT, Int.reduceLE, Int.reduceAdd, Int.reduceSub, Int.reduceMul, Int.reduceNeg, Int.reduceMod, Int.reduceDiv, Int.reduceTMod, Int.reduceTDiv, Int.reduceToNat, okChain_i, okLoads_nil, okLoads_in, okLoads_eq]; rfl)
  · rintro ρ F ⟨rfl, r4, r5⟩
    have r5' : ρ 5 = .int .i64 5 := r5
    refine ⟨?ρ4, F, ?run4, rfl⟩
    case run4 =>
      simp (maxDischargeDepth := 8) only [l14_0, c14_4, r5', RUN, Ed, knd, kndR, resV, binInt, mnmxV, mnmx2, fillL, unV, lenV, extractV, partV, loadAt, Nat.reduceAdd, Nat.reduceBEq, Nat.reduceEqDiff, Nat.reduceLT, Nat.reduceLeDiff, Nat.reduceMul, Nat.reduceSub, reduceIte, Int.reduceEq, Int.reduceNe, Int.reduceLT, Int.reduceLE, Int.reduceAdd, Int.reduceSub, Int.reduceMul, Int.reduceNeg, Int.reduceMod, Int.reduceDiv, Int.reduceTMod, Int.reduceTDiv, Int.reduceToNat, okChain_i, okLoads_nil, okLoads_in, okLoads_eq]
      rfl
def okL (A L B : List Int) (j : Nat) : Prop := L.getD j 0 ≤ A.getD j 0 ∧ A.getD j 0 ≤ B.getD j 0
theorem loop14b (G : Heap) (u ul uh : Value) (A L B : List Int) (h1 : A.length = 15) (h2 : L.length = 15) (h3 : B.length = 15) (hA : TS G u A) (hL : TS G ul L) (hB : TS G uh B) (ρ0 : Fr) (q6 : ρ0 6 = u) (q7 : ρ0 7 = ul) (q8 : ρ0 8 = uh) (q9 : ρ0 9 = .int .i64 (0 : Nat)) :
    ((∀ j, 0 ≤ j → j < 15 → okL A L B j) → ∃ ρ' F, E Tryd.prog hints (.loop l14_1) ρ0 G = some (.exit 2, ρ', F) ∧ F = G) ∧
    (∀ j, 0 ≤ j → j < 15 → ¬ okL A L B j → (∀ i, 0 ≤ i → i < j → okL A L B i) → ∃ ρ' F, E Tryd.prog hints (.loop l14_1) ρ0 G = some (.ret, ρ', F) ∧ (F = G ∧ ρ' 2 = .int .i64 (j + 6 : Nat))) := by
  refine loop_first (P := Tryd.prog) (hs := hints) (b := l14_1) (id := 2) (N := 15) (okL A L B) (fun j ρ F => F = G ∧ ρ 6 = u ∧ ρ 7 = ul ∧ ρ 8 = uh ∧ ρ 9 = .int .i64 j) (fun ρ F => F = G) (fun j ρ F => F = G ∧ ρ 2 = .int .i64 (j + 6 : Nat)) ?_ ?_ 15 0 (by omega) ρ0 G ⟨rfl, q6, q7, q8, q9⟩
  · rintro j ρ F hj ⟨rfl, r6, r7, r8, r9⟩
    obtain ⟨i, x1, ow, ty, cells, x2, x3⟩ := hA.idx (j := j) (by omega)
    obtain ⟨i', y1, ow', ty', cells', y2, y3⟩ := hL.idx (j := j) (by omega)
    obtain ⟨i'', z1, ow'', ty'', cells'', z2, z3⟩ := hB.idx (j := j) (by omega)
    have i2 := live_ltG x2
    have i3 := live_ltG y2
    have i4 := live_ltG z2
    have lA := hA.len
    rw [h1] at lA
    have lA' : lenV false u = some (.int .i64 15) := lA
    have hlt : (j : Int) < 15 := by omega
    have wj := wrap64 ((j : Int) + 1) (by omega) (by omega)
    have w6 := wrap64 ((j : Int) + 6) (by omega) (by omega)
    have eb := fun F => bound_f2 (A.getD j 0) (L.getD j 0) (B.getD j 0) F
    unfold okL
    generalize A.getD j 0 = a at *
    generalize L.getD j 0 = lo at *
    generalize B.getD j 0 = hi at *
    by_cases c1 : lo ≤ a ∧ a ≤ hi
    · rw [decide_eq_true c1] at eb
      refine ⟨fun _ => ⟨?ρ1, F, ?run1, rfl, ?_, ?_, ?_, ?_⟩, fun h => absurd c1 h⟩
      case run1 =>
        simp (maxDischargeDepth := 8) only [l14_1, c14_0, c14_1, c14_2, c14_3, c14_4, c14_5, c14_6, c14_7, c14_8, c14_9, c14_10, c14_11, c14_12, c14_13, c14_14, c14_15, c14_16, c14_17, c14_18, c14_19, c14_20, c14_21, c14_22, c14_23, c14_24, c14_25, c14_26, c14_27, c14_28, c14_29, c14_30, c14_31, c14_32, c14_33, c14_34, r6, r7, r8, r9, lA', hlt, x1, x2, x3, y1, y2, y3, z1, z2, z3, i2, i3, i4, eb, wj, RUN, Ed, knd, kndR, resV, binInt, mnmxV, mnmx2, fillL, unV, extractV, partV, loadAt, Nat.reduceAdd, Nat.reduceBEq, Nat.reduceEqDiff, Nat.reduceLT, Nat.reduceLeDiff, Nat.reduceMul, Nat.reduceSub, reduceIte, Int.reduceEq, Int.reduceNe, Int.reduceLT, Int.reduceLE, Int.reduceAdd, Int.reduceSub, Int.reduceMul, Int.reduceNeg, Int.reduceMod, Int.reduceDiv, Int.reduceTMod, Int.reduceTDiv, Int.reduceToNat, okChain_i, okLoads_nil, okLoads_in, okLoads_eq]
        rfl
      all_goals first | (simp (maxDischargeDepth := 8) only [r6, r7, r8, RUN, Ed, knd, kndR, resV, binInt, mnmxV, mnmx2, fillL, unV, lenV, extractV, partV, loadAt, Nat.reduceAdd, Nat.reduceBEq, Nat.reduceEqDiff, Nat.reduceLT, Nat.reduceLeDiff, Nat.reduceMul, Nat.reduceSub, reduceIte, Int.reduceEq, Int.reduceNe, Int.reduceLT, Int.reduceLE, Int.reduceAdd, Int.reduceSub, Int.reduceMul, Int.reduceNeg, Int.reduceMod, Int.reduceDiv, Int.reduceTMod, Int.reduceTDiv, Int.reduceToNat, okChain_i, okLoads_nil, okLoads_in, okLoads_eq]; done) | (simp (maxDischargeDepth := 8) only [r6, r7, r8, RUN, Ed, knd, kndR, resV, binInt, mnmxV, mnmx2, fillL, unV, lenV, extractV, partV, loadAt, Nat.reduceAdd, Nat.reduceBEq, Nat.reduceEqDiff, Nat.reduceLT, Nat.reduceLeDiff, Nat.reduceMul, Nat.reduceSub, reduceIte, Int.reduceEq, Int.reduceNe, Int.reduceLT, Int.reduceLE, Int.reduceAdd, Int.reduceSub, Int.reduceMul, Int.reduceNeg, Int.reduceMod, Int.reduceDiv, Int.reduceTMod, Int.reduceTDiv, Int.reduceToNat, okChain_i, okLoads_nil, okLoads_in, okLoads_eq]; rfl)
    · rw [decide_eq_false c1] at eb
      refine ⟨fun h => absurd h c1, fun _ => ⟨?ρ2, F, ?run2, rfl, ?_⟩⟩
      case run2 =>
        simp (maxDischargeDepth := 8) only [l14_1, c14_0, c14_1, c14_2, c14_3, c14_4, c14_5, c14_6, c14_7, c14_8, c14_9, c14_10, c14_11, c14_12, c14_13, c14_14, c14_15, c14_16, c14_17, c14_18, c14_19, c14_20, c14_21, c14_22, c14_23, c14_24, c14_25, c14_26, c14_27, c14_28, c14_29, c14_30, c14_31, c14_32, c14_33, c14_34, r6, r7, r8, r9, lA', hlt, x1, x2, x3, y1, y2, y3, z1, z2, z3, i2, i3, i4, eb, w6, RUN, Ed, knd, kndR, resV, binInt, mnmxV, mnmx2, fillL, unV, extractV, partV, loadAt, Nat.reduceAdd, Nat.reduceBEq, Nat.reduceEqDiff, Nat.reduceLT, Nat.reduceLeDiff, Nat.reduceMul, Nat.reduceSub, reduceIte, Int.reduceEq, Int.reduceNe, Int.reduceLT, Int.reduceLE, Int.reduceAdd, Int.reduceSub, Int.reduceMul, Int.reduceNeg, Int.reduceMod, Int.reduceDiv, Int.reduceTMod, Int.reduceTDiv, Int.reduceToNat, okChain_i, okLoads_nil, okLoads_in, okLoads_eq]
        rfl
      first | (simp (maxDischargeDepth := 8) only [RUN, Ed, knd, kndR, resV, binInt, mnmxV, mnmx2, fillL, unV, lenV, extractV, partV, loadAt, Nat.reduceAdd, Nat.reduceBEq, Nat.reduceEqDiff, Nat.reduceLT, Nat.reduceLeDiff, Nat.reduceMul, Nat.reduceSub, reduceIte, Int.reduceEq, Int.reduceNe, Int.reduceLT, Int.reduceLE, Int.reduceAdd, Int.reduceSub, Int.reduceMul, Int.reduceNeg, Int.reduceMod, Int.reduceDiv, Int.reduceTMod, Int.reduceTDiv, Int.reduceToNat, okChain_i, okLoads_nil, okLoads_in, okLoads_eq]; done) | (simp (maxDischargeDepth := 8) only [RUN, Ed, knd, kndR, resV, binInt, mnmxV, mnmx2, fillL, unV, lenV, extractV, partV, loadAt, Nat.reduceAdd, Nat.reduceBEq, Nat.reduceEqDiff, Nat.reduceLT, Nat.reduceLeDiff, Nat.reduceMul, Nat.reduceSub, reduceIte, Int.reduceEq, Int.reduceNe, Int.reduceLT, Int.reduceLE, Int.reduceAdd, Int.reduceSub, Int.reduceMul, Int.reduceNeg, Int.reduceMod, Int.reduceDiv, Int.reduceTMod, Int.reduceTDiv, Int.reduceToNat, okChain_i, okLoads_nil, okLoads_in, okLoads_eq]; rfl)
  · rintro ρ F ⟨rfl, r6, r7, r8, r9⟩
    have lA := hA.len
    rw [h1] at lA
    have lA' : lenV false u = some (.int .i64 15) := lA
    have r9' : ρ 9 = .int .i64 15 := r9
    refine ⟨?ρ4, F, ?run4, rfl⟩
    case run4 =>
      simp (maxDischargeDepth := 8) only [l14_1, c14_12, r6, r9', lA', RUN, Ed, knd, kndR, resV, binInt, mnmxV, mnmx2, fillL, unV, extractV, partV, loadAt, Nat.reduceAdd, Nat.reduceBEq, Nat.reduceEqDiff, Nat.reduceLT, Nat.reduceLeDiff, Nat.reduceMul, Nat.reduceSub, reduceIte, Int.reduceEq, Int.reduceNe, Int.reduceLT, Int.reduceLE, Int.reduceAdd, Int.reduceSub, Int.reduceMul, Int.reduceNeg, Int.reduceMod, Int.reduceDiv, Int.reduceTMod, Int.reduceTDiv, Int.reduceToNat, okChain_i, okLoads_nil, okLoads_in, okLoads_eq]
      rfl
def ok4 (A : List Int) (j : Nat) : Prop := 0 ≤ A.getD j 0 ∧ A.getD j 0 ≤ 1073741824
theorem loop14c (G : Heap) (u : Value) (A : List Int) (h1 : A.length = 4) (hA : TS G u A) (ρ0 : Fr) (q3 : ρ0 3 = .int .i64 1073741824) (q10 : ρ0 10 = u) (q11 : ρ0 11 = .int .i64 (0 : Nat)) :
    ((∀ j, 0 ≤ j → j < 4 → ok4 A j) → ∃ ρ' F, E Tryd.prog hints (.loop l14_2) ρ0 G = some (.exit 4, ρ', F) ∧ F = G) ∧
    (∀ j, 0 ≤ j → j < 4 → ¬ ok4 A j → (∀ i, 0 ≤ i → i < j → ok4 A i) → ∃ ρ' F, E Tryd.prog hints (.loop l14_2) ρ0 G = some (.ret, ρ', F) ∧ (F = G ∧ ρ' 2 = .int .i64 (j + 22 : Nat))) := by
  refine loop_first (P := Tryd.prog) (hs := hints) (b := l14_2) (id := 4) (N := 4) (ok4 A) (fun j ρ F => F = G ∧ ρ 3 = .int .i64 1073741824 ∧ ρ 10 = u ∧ ρ 11 = .int .i64 j) (fun ρ F => F = G) (fun j ρ F => F = G ∧ ρ 2 = .int .i64 (j + 22 : Nat)) ?_ ?_ 4 0 (by omega) ρ0 G ⟨rfl, q3, q10, q11⟩
  · rintro j ρ F hj ⟨rfl, r3, r10, r11⟩
    obtain ⟨i, x1, ow, ty, cells, x2, x3⟩ := hA.idx (j := j) (by omega)
    have i2 := live_ltG x2
    have lA := hA.len
    rw [h1] at lA
    have lA' : lenV false u = some (.int .i64 4) := lA
    have hlt : (j : Int) < 4 := by omega
    have wj := wrap64 ((j : Int) + 1) (by omega) (by omega)
    have w6 := wrap64 ((j : Int) + 22) (by omega) (by omega)
    have eb := fun F => bound_f2 (A.getD j 0) 0 1073741824 F
    unfold ok4
    generalize A.getD j 0 = a at *
    by_cases c1 : 0 ≤ a ∧ a ≤ 1073741824
    · rw [decide_eq_true c1] at eb
      refine ⟨fun _ => ⟨?ρ1, F, ?run1, rfl, ?_, ?_, ?_⟩, fun h => absurd c1 h⟩
      case run1 =>
        simp (maxDischargeDepth := 8) only [l14_2, c14_0, c14_1, c14_2, c14_3, c14_4, c14_5, c14_6, c14_7, c14_8, c14_9, c14_10, c14_11, c14_12, c14_13, c14_14, c14_15, c14_16, c14_17, c14_18, c14_19, c14_20, c14_21, c14_22, c14_23, c14_24, c14_25, c14_26, c14_27, c14_28, c14_29, c14_30, c14_31, c14_32, c14_33, c14_34, r3, r10, r11, lA', hlt, x1, x2, x3, i2, eb, wj, RUN, Ed, knd, kndR, resV, binInt, mnmxV, mnmx2, fillL, unV, extractV, partV, loadAt, Nat.reduceAdd, Nat.reduceBEq, Nat.reduceEqDiff, Nat.reduceLT, Nat.reduceLeDiff, Nat.reduceMul, Nat.reduceSub, reduceIte, Int.reduceEq, Int.reduceNe, Int.reduceLT, Int.reduceLE, Int.reduceAdd, Int.reduceSub, Int.reduceMul, Int.reduceNeg, Int.reduceMod, Int.reduceDiv, Int.reduceTMod, Int.reduceTDiv, Int.reduceToNat, okChain_i, okLoads_nil, okLoads_in, okLoads_eq]
        rfl
      all_goals first | (simp (maxDischargeDepth := 8) only [r3, r10, RUN, Ed, knd, kndR, resV, binInt, mnmxV, mnmx2, fillL, unV, lenV, extractV, partV, loadAt, Nat.reduceAdd, Nat.reduceBEq, Nat.reduceEqDiff, Nat.reduceLT, Nat.reduceLeDiff, Nat.reduceMul, Nat.reduceSub, reduceIte, Int.reduceEq, Int.reduceNe, Int.reduceLT, Int.reduceLE, Int.reduceAdd, Int.reduceSub, Int.reduceMul, Int.reduceNeg, Int.reduceMod, Int.reduceDiv, Int.reduceTMod, Int.reduceTDiv, Int.reduceToNat, okChain_i, okLoads_nil, okLoads_in, okLoads_eq]; done) | (simp (maxDischargeDepth := 8) only [r3, r10, RUN, Ed, knd, kndR, resV, binInt, mnmxV, mnmx2, fillL, unV, lenV, extractV, partV, loadAt, Nat.reduceAdd, Nat.reduceBEq, Nat.reduceEqDiff, Nat.reduceLT, Nat.reduceLeDiff, Nat.reduceMul, Nat.reduceSub, reduceIte, Int.reduceEq, Int.reduceNe, Int.reduceLT, Int.reduceLE, Int.reduceAdd, Int.reduceSub, Int.reduceMul, Int.reduceNeg, Int.reduceMod, Int.reduceDiv, Int.reduceTMod, Int.reduceTDiv, Int.reduceToNat, okChain_i, okLoads_nil, okLoads_in, okLoads_eq]; rfl)
    · rw [decide_eq_false c1] at eb
      refine ⟨fun h => absurd h c1, fun _ => ⟨?ρ2, F, ?run2, rfl, ?_⟩⟩
      case run2 =>
        simp (maxDischargeDepth := 8) only [l14_2, c14_0, c14_1, c14_2, c14_3, c14_4, c14_5, c14_6, c14_7, c14_8, c14_9, c14_10, c14_11, c14_12, c14_13, c14_14, c14_15, c14_16, c14_17, c14_18, c14_19, c14_20, c14_21, c14_22, c14_23, c14_24, c14_25, c14_26, c14_27, c14_28, c14_29, c14_30, c14_31, c14_32, c14_33, c14_34, r3, r10, r11, lA', hlt, x1, x2, x3, i2, eb, w6, RUN, Ed, knd, kndR, resV, binInt, mnmxV, mnmx2, fillL, unV, extractV, partV, loadAt, Nat.reduceAdd, Nat.reduceBEq, Nat.reduceEqDiff, Nat.reduceLT, Nat.reduceLeDiff, Nat.reduceMul, Nat.reduceSub, reduceIte, Int.reduceEq, Int.reduceNe, Int.reduceLT, Int.reduceLE, Int.reduceAdd, Int.reduceSub, Int.reduceMul, Int.reduceNeg, Int.reduceMod, Int.reduceDiv, Int.reduceTMod, Int.reduceTDiv, Int.reduceToNat, okChain_i, okLoads_nil, okLoads_in, okLoads_eq]
        rfl
      first | (simp (maxDischargeDepth := 8) only [RUN, Ed, knd, kndR, resV, binInt, mnmxV, mnmx2, fillL, unV, lenV, extractV, partV, loadAt, Nat.reduceAdd, Nat.reduceBEq, Nat.reduceEqDiff, Nat.reduceLT, Nat.reduceLeDiff, Nat.reduceMul, Nat.reduceSub, reduceIte, Int.reduceEq, Int.reduceNe, Int.reduceLT, Int.reduceLE, Int.reduceAdd, Int.reduceSub, Int.reduceMul, Int.reduceNeg, Int.reduceMod, Int.reduceDiv, Int.reduceTMod, Int.reduceTDiv, Int.reduceToNat, okChain_i, okLoads_nil, okLoads_in, okLoads_eq]; done) | (simp (maxDischargeDepth := 8) only [RUN, Ed, knd, kndR, resV, binInt, mnmxV, mnmx2, fillL, unV, lenV, extractV, partV, loadAt, Nat.reduceAdd, Nat.reduceBEq, Nat.reduceEqDiff, Nat.reduceLT, Nat.reduceLeDiff, Nat.reduceMul, Nat.reduceSub, reduceIte, Int.reduceEq, Int.reduceNe, Int.reduceLT, Int.reduceLE, Int.reduceAdd, Int.reduceSub, Int.reduceMul, Int.reduceNeg, Int.reduceMod, Int.reduceDiv, Int.reduceTMod, Int.reduceTDiv, Int.reduceToNat, okChain_i, okLoads_nil, okLoads_in, okLoads_eq]; rfl)
  · rintro ρ F ⟨rfl, r3, r10, r11⟩
    have lA := hA.len
    rw [h1] at lA
    have lA' : lenV false u = some (.int .i64 4) := lA
    have r11' : ρ 11 = .int .i64 4 := r11
    refine ⟨?ρ4, F, ?run4, rfl⟩
    case run4 =>
      simp (maxDischargeDepth := 8) only [l14_2, c14_20, r10, r11', lA', RUN, Ed, knd, kndR, resV, binInt, mnmxV, mnmx2, fillL, unV, extractV, partV, loadAt, Nat.reduceAdd, Nat.reduceBEq, Nat.reduceEqDiff, Nat.reduceLT, Nat.reduceLeDiff, Nat.reduceMul, Nat.reduceSub, reduceIte, Int.reduceEq, Int.reduceNe, Int.reduceLT, Int.reduceLE, Int.reduceAdd, Int.reduceSub, Int.reduceMul, Int.reduceNeg, Int.reduceMod, Int.reduceDiv, Int.reduceTMod, Int.reduceTDiv, Int.reduceToNat, okChain_i, okLoads_nil, okLoads_in, okLoads_eq]
      rfl
end Go.Proofs.YtceildmghmigaaaDoor.Sim
