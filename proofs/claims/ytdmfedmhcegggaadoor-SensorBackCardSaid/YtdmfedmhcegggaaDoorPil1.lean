/- Chapter 8 over the plain heap: which commands there are, and what one does. -/
import Derived.Test.YtdmfedmhcegggaaDoorAct8
import Derived.Test.YtdmfedmhcegggaaDoorSim21
namespace Go.Proofs.YtdmfedmhcegggaaDoor.Sim
open Go
set_option linter.unusedSimpArgs false
set_option linter.unusedVariables false
def OkC (c a : Int) : Prop := (1 ≤ c ∧ c ≤ 5) ∧ (a = 0 ∨ a = 1)
instance (c a : Int) : Decidable (OkC c a) := inferInstanceAs (Decidable (_ ∧ _))
theorem may_f (c a : Int) (H : Heap) : K 45 [.int .i64 c, .int .i64 a] H = some (.bool (decide (OkC c a)), H) := by
  rw [K, D_eq p45 _ _ (Nat.le_of_ble_eq_true rfl)]
  by_cases k0 : 1 ≤ c
  · by_cases k1 : c ≤ 5
    · by_cases k2 : a = 0
      · have hg : decide (OkC c a) = true := by rw [decide_eq_true_iff]; unfold OkC; grind
        rw [hg]
        subst k2
        simp (maxDischargeDepth := 8) only [r45, b45, c45_0, c45_1, k0, k1, RUN, Ed, knd, kndR, resV, binInt, mnmxV, mnmx2, fillL, unV, lenV, extractV, partV, loadAt, Nat.reduceAdd, Nat.reduceBEq, Nat.reduceEqDiff, Nat.reduceLT, Nat.reduceLeDiff, Nat.reduceMul, Nat.reduceSub, reduceIte, Int.reduceEq, Int.reduceNe, Int.reduceLT, Int.reduceLE, Int.reduceAdd, Int.reduceSub, Int.reduceMul, Int.reduceNeg, Int.reduceMod, Int.reduceDiv, Int.reduceTMod, Int.reduceTDiv, Int.reduceToNat, okChain_i, okLoads_nil, okLoads_in, okLoads_eq]
      · have d2 : decide (a = 0) = false := by simpa using k2
        by_cases k3 : a = 1
        · have hg : decide (OkC c a) = true := by rw [decide_eq_true_iff]; unfold OkC; grind
          rw [hg]
          subst k3
          simp (maxDischargeDepth := 8) only [r45, b45, c45_0, c45_1, k0, k1, d2, RUN, Ed, knd, kndR, resV, binInt, mnmxV, mnmx2, fillL, unV, lenV, extractV, partV, loadAt, Nat.reduceAdd, Nat.reduceBEq, Nat.reduceEqDiff, Nat.reduceLT, Nat.reduceLeDiff, Nat.reduceMul, Nat.reduceSub, reduceIte, Int.reduceEq, Int.reduceNe, Int.reduceLT, Int.reduceLE, Int.reduceAdd, Int.reduceSub, Int.reduceMul, Int.reduceNeg, Int.reduceMod, Int.reduceDiv, Int.reduceTMod, Int.reduceTDiv, Int.reduceToNat, okChain_i, okLoads_nil, okLoads_in, okLoads_eq]
        · have d3 : decide (a = 1) = false := by simpa using k3
          have hg : decide (OkC c a) = false := by rw [decide_eq_false_iff_not]; unfold OkC; grind
          simp (maxDischargeDepth := 8) only [r45, b45, c45_0, c45_1, hg, k0, k1, d2, d3, RUN, Ed, knd, kndR, resV, binInt, mnmxV, mnmx2, fillL, unV, lenV, extractV, partV, loadAt, Nat.reduceAdd, Nat.reduceBEq, Nat.reduceEqDiff, Nat.reduceLT, Nat.reduceLeDiff, Nat.reduceMul, Nat.reduceSub, reduceIte, Int.reduceEq, Int.reduceNe, Int.reduceLT, Int.reduceLE, Int.reduceAdd, Int.reduceSub, Int.reduceMul, Int.reduceNeg, Int.reduceMod, Int.reduceDiv, Int.reduceTMod, Int.reduceTDiv, Int.reduceToNat, okChain_i, okLoads_nil, okLoads_in, okLoads_eq]
    · have hg : decide (OkC c a) = false := by rw [decide_eq_false_iff_not]; unfold OkC; grind
      simp (maxDischargeDepth := 8) only [r45, b45, c45_0, c45_1, hg, k0, k1, RUN, Ed, knd, kndR, resV, binInt, mnmxV, mnmx2, fillL, unV, lenV, extractV, partV, loadAt, Nat.reduceAdd, Nat.reduceBEq, Nat.reduceEqDiff, Nat.reduceLT, Nat.reduceLeDiff, Nat.reduceMul, Nat.reduceSub, reduceIte, Int.reduceEq, Int.reduceNe, Int.reduceLT, Int.reduceLE, Int.reduceAdd, Int.reduceSub, Int.reduceMul, Int.reduceNeg, Int.reduceMod, Int.reduceDiv, Int.reduceTMod, Int.reduceTDiv, Int.reduceToNat, okChain_i, okLoads_nil, okLoads_in, okLoads_eq]
  · have hg : decide (OkC c a) = false := by rw [decide_eq_false_iff_not]; unfold OkC; grind
    simp (maxDischargeDepth := 8) only [r45, b45, c45_0, c45_1, hg, k0, RUN, Ed, knd, kndR, resV, binInt, mnmxV, mnmx2, fillL, unV, lenV, extractV, partV, loadAt, Nat.reduceAdd, Nat.reduceBEq, Nat.reduceEqDiff, Nat.reduceLT, Nat.reduceLeDiff, Nat.reduceMul, Nat.reduceSub, reduceIte, Int.reduceEq, Int.reduceNe, Int.reduceLT, Int.reduceLE, Int.reduceAdd, Int.reduceSub, Int.reduceMul, Int.reduceNeg, Int.reduceMod, Int.reduceDiv, Int.reduceTMod, Int.reduceTDiv, Int.reduceToNat, okChain_i, okLoads_nil, okLoads_in, okLoads_eq]
theorem goodP_f (c a : Int) (H : Heap) : K 46 [.int .i64 c, .int .i64 a] H = some (.bool (decide (OkC c a)), H) := by
  rw [K, D_eq p46 _ _ (Nat.le_of_ble_eq_true rfl)]
  by_cases k0 : 1 ≤ c
  · by_cases k1 : c ≤ 5
    · by_cases k2 : 0 ≤ a
      · by_cases k3 : a ≤ 1
        · have hg : decide (OkC c a) = true := by rw [decide_eq_true_iff]; unfold OkC; omega
          simp (maxDischargeDepth := 8) only [r46, b46, c46_0, c46_1, hg, k0, k1, k2, k3, RUN, Ed, knd, kndR, resV, binInt, mnmxV, mnmx2, fillL, unV, lenV, extractV, partV, loadAt, Nat.reduceAdd, Nat.reduceBEq, Nat.reduceEqDiff, Nat.reduceLT, Nat.reduceLeDiff, Nat.reduceMul, Nat.reduceSub, reduceIte, Int.reduceEq, Int.reduceNe, Int.reduceLT, Int.reduceLE, Int.reduceAdd, Int.reduceSub, Int.reduceMul, Int.reduceNeg, Int.reduceMod, Int.reduceDiv, Int.reduceTMod, Int.reduceTDiv, Int.reduceToNat, okChain_i, okLoads_nil, okLoads_in, okLoads_eq]
        · have hg : decide (OkC c a) = false := by rw [decide_eq_false_iff_not]; unfold OkC; omega
          simp (maxDischargeDepth := 8) only [r46, b46, c46_0, c46_1, hg, k0, k1, k2, k3, RUN, Ed, knd, kndR, resV, binInt, mnmxV, mnmx2, fillL, unV, lenV, extractV, partV, loadAt, Nat.reduceAdd, Nat.reduceBEq, Nat.reduceEqDiff, Nat.reduceLT, Nat.reduceLeDiff, Nat.reduceMul, Nat.reduceSub, reduceIte, Int.reduceEq, Int.reduceNe, Int.reduceLT, Int.reduceLE, Int.reduceAdd, Int.reduceSub, Int.reduceMul, Int.reduceNeg, Int.reduceMod, Int.reduceDiv, Int.reduceTMod, Int.reduceTDiv, Int.reduceToNat, okChain_i, okLoads_nil, okLoads_in, okLoads_eq]
      · have hg : decide (OkC c a) = false := by rw [decide_eq_false_iff_not]; unfold OkC; omega
        simp (maxDischargeDepth := 8) only [r46, b46, c46_0, c46_1, hg, k0, k1, k2, RUN, Ed, knd, kndR, resV, binInt, mnmxV, mnmx2, fillL, unV, lenV, extractV, partV, loadAt, Nat.reduceAdd, Nat.reduceBEq, Nat.reduceEqDiff, Nat.reduceLT, Nat.reduceLeDiff, Nat.reduceMul, Nat.reduceSub, reduceIte, Int.reduceEq, Int.reduceNe, Int.reduceLT, Int.reduceLE, Int.reduceAdd, Int.reduceSub, Int.reduceMul, Int.reduceNeg, Int.reduceMod, Int.reduceDiv, Int.reduceTMod, Int.reduceTDiv, Int.reduceToNat, okChain_i, okLoads_nil, okLoads_in, okLoads_eq]
    · have hg : decide (OkC c a) = false := by rw [decide_eq_false_iff_not]; unfold OkC; omega
      simp (maxDischargeDepth := 8) only [r46, b46, c46_0, c46_1, hg, k0, k1, RUN, Ed, knd, kndR, resV, binInt, mnmxV, mnmx2, fillL, unV, lenV, extractV, partV, loadAt, Nat.reduceAdd, Nat.reduceBEq, Nat.reduceEqDiff, Nat.reduceLT, Nat.reduceLeDiff, Nat.reduceMul, Nat.reduceSub, reduceIte, Int.reduceEq, Int.reduceNe, Int.reduceLT, Int.reduceLE, Int.reduceAdd, Int.reduceSub, Int.reduceMul, Int.reduceNeg, Int.reduceMod, Int.reduceDiv, Int.reduceTMod, Int.reduceTDiv, Int.reduceToNat, okChain_i, okLoads_nil, okLoads_in, okLoads_eq]
  · have hg : decide (OkC c a) = false := by rw [decide_eq_false_iff_not]; unfold OkC; omega
    simp (maxDischargeDepth := 8) only [r46, b46, c46_0, c46_1, hg, k0, RUN, Ed, knd, kndR, resV, binInt, mnmxV, mnmx2, fillL, unV, lenV, extractV, partV, loadAt, Nat.reduceAdd, Nat.reduceBEq, Nat.reduceEqDiff, Nat.reduceLT, Nat.reduceLeDiff, Nat.reduceMul, Nat.reduceSub, reduceIte, Int.reduceEq, Int.reduceNe, Int.reduceLT, Int.reduceLE, Int.reduceAdd, Int.reduceSub, Int.reduceMul, Int.reduceNeg, Int.reduceMod, Int.reduceDiv, Int.reduceTMod, Int.reduceTDiv, Int.reduceToNat, okChain_i, okLoads_nil, okLoads_in, okLoads_eq]
/-- What a pilot told. -/
structure PS where
  e : Bool
  s : Bool
  l : Bool
  r : Bool
  n : Int
def PS.L (x : PS) : List Value := [.bool x.e, .bool x.s, .bool x.l, .bool x.r, .int .i64 x.n]
def PS.ok (x : PS) : Prop := 0 ≤ x.n ∧ x.n ≤ 1000
def apP (x : PS) (c a : Int) : PS :=
  if OkC c a then
    (if c = 1 then { x with e := decide (a = 1) } else if c = 2 then { x with s := decide (a = 1) } else if c = 3 then { x with l := true } else if c = 4 then { x with r := decide (a = 1) } else { x with n := if 1000 < x.n + 1 then 1000 else x.n + 1 })
  else x
theorem apP_ok (x : PS) (c a : Int) (h : x.ok) : (apP x c a).ok := by
  unfold PS.ok at *
  unfold apP
  split
  · split
    · exact h
    · split
      · exact h
      · split
        · exact h
        · split
          · exact h
          · simp only; split <;> omega
  · exact h
theorem set_same {H : Heap} {p : Nat} {b : Blk} (h : live H p = some b) : H.set p (some b) = H := by
  have hp := live_lt h
  have e : H[p]? = some (some b) := live_some h
  apply List.ext_getElem?
  intro i
  by_cases hi : i = p
  · subst hi
    rw [List.getElem?_set_self hp, e]
  · rw [List.getElem?_set_ne (by omega)]
theorem apply_f (p : Nat) (x : PS) (c a : Int) (ty : TypeId) (H : Heap) (h : live H p = some ⟨true, ty, x.L⟩) (hx : x.ok) : K 30 [.pointer (some ⟨p, 0, none⟩), .int .i64 c, .int .i64 a] H = some (.bool (decide (OkC c a)), H.set p (some ⟨true, ty, (apP x c a).L⟩)) := by
  have e := fun G => may_f c a G
  simp only [K] at e
  have hp := live_lt h
  unfold PS.ok at hx
  have hw := wrap64 (x.n + 1) (by omega) (by omega)
  have hw : IntKind.i64.wrap (x.n + 1) = x.n + 1 := hw
  rw [K, D_eq p30 _ _ (Nat.le_of_ble_eq_true rfl)]
  unfold PS.L at h
  by_cases hg : OkC c a
  · have hd : decide (OkC c a) = true := by simpa using hg
    have hc : c = 1 ∨ c = 2 ∨ c = 3 ∨ c = 4 ∨ c = 5 := by unfold OkC at hg; omega
    rw [hd] at e ⊢
    rcases hc with rfl | rfl | rfl | rfl | rfl
    all_goals
      simp (maxDischargeDepth := 8) only [r30, b30, c30_0, c30_1, c30_2, c30_3, c30_4, c30_5, c30_6, c30_7, c30_8, c30_9, c30_10, c30_11, c30_12, c30_13, c30_14, e, h, hp, hw, apP, hg, PS.L, RUN, Ed, knd, kndR, resV, binInt, mnmxV, mnmx2, fillL, unV, lenV, extractV, partV, loadAt, Nat.reduceAdd, Nat.reduceBEq, Nat.reduceEqDiff, Nat.reduceLT, Nat.reduceLeDiff, Nat.reduceMul, Nat.reduceSub, reduceIte, Int.reduceEq, Int.reduceNe, Int.reduceLT, Int.reduceLE, Int.reduceAdd, Int.reduceSub, Int.reduceMul, Int.reduceNeg, Int.reduceMod, Int.reduceDiv, Int.reduceTMod, Int.reduceTDiv, Int.reduceToNat, okChain_i, okLoads_nil, okLoads_in, okLoads_eq]
  · have hd : decide (OkC c a) = false := by simpa using hg
    have ha : apP x c a = x := if_neg hg
    rw [hd] at e ⊢
    rw [ha, set_same (b := ⟨true, ty, x.L⟩) h]
    simp (maxDischargeDepth := 8) only [r30, b30, c30_0, c30_1, c30_2, e, RUN, Ed, knd, kndR, resV, binInt, mnmxV, mnmx2, fillL, unV, lenV, extractV, partV, loadAt, Nat.reduceAdd, Nat.reduceBEq, Nat.reduceEqDiff, Nat.reduceLT, Nat.reduceLeDiff, Nat.reduceMul, Nat.reduceSub, reduceIte, Int.reduceEq, Int.reduceNe, Int.reduceLT, Int.reduceLE, Int.reduceAdd, Int.reduceSub, Int.reduceMul, Int.reduceNeg, Int.reduceMod, Int.reduceDiv, Int.reduceTMod, Int.reduceTDiv, Int.reduceToNat, okChain_i, okLoads_nil, okLoads_in, okLoads_eq]
theorem apply2_f (p : Nat) (x : PS) (c a : Int) (ty : TypeId) (H : Heap) (h : live H p = some ⟨true, ty, x.L⟩) (hx : x.ok) : K 31 [.pointer (some ⟨p, 0, none⟩), .int .i64 c, .int .i64 a] H = some (.bool (decide (OkC c a)), H.set p (some ⟨true, ty, (apP x c a).L⟩)) := by
  have e := fun G => goodP_f c a G
  simp only [K] at e
  have hp := live_lt h
  unfold PS.ok at hx
  have hw : IntKind.i64.wrap (x.n + 1) = x.n + 1 := wrap64 (x.n + 1) (by omega) (by omega)
  rw [K, D_eq p31 _ _ (Nat.le_of_ble_eq_true rfl)]
  unfold PS.L at h
  by_cases hg : OkC c a
  · have hd : decide (OkC c a) = true := by simpa using hg
    have hc : c = 1 ∨ c = 2 ∨ c = 3 ∨ c = 4 ∨ c = 5 := by unfold OkC at hg; omega
    rw [hd] at e ⊢
    rcases hc with rfl | rfl | rfl | rfl | rfl
    all_goals
      simp (maxDischargeDepth := 8) only [r31, b31, c31_0, c31_1, c31_2, c31_3, c31_4, c31_5, c31_6, c31_7, c31_8, c31_9, c31_10, c31_11, c31_12, c31_13, e, h, hp, hw, apP, hg, PS.L, RUN, Ed, knd, kndR, resV, binInt, mnmxV, mnmx2, fillL, unV, lenV, extractV, partV, loadAt, Nat.reduceAdd, Nat.reduceBEq, Nat.reduceEqDiff, Nat.reduceLT, Nat.reduceLeDiff, Nat.reduceMul, Nat.reduceSub, reduceIte, Int.reduceEq, Int.reduceNe, Int.reduceLT, Int.reduceLE, Int.reduceAdd, Int.reduceSub, Int.reduceMul, Int.reduceNeg, Int.reduceMod, Int.reduceDiv, Int.reduceTMod, Int.reduceTDiv, Int.reduceToNat, okChain_i, okLoads_nil, okLoads_in, okLoads_eq]
  · have hd : decide (OkC c a) = false := by simpa using hg
    have ha : apP x c a = x := if_neg hg
    rw [hd] at e ⊢
    rw [ha, set_same (b := ⟨true, ty, x.L⟩) h]
    simp (maxDischargeDepth := 8) only [r31, b31, c31_0, c31_1, c31_2, e, RUN, Ed, knd, kndR, resV, binInt, mnmxV, mnmx2, fillL, unV, lenV, extractV, partV, loadAt, Nat.reduceAdd, Nat.reduceBEq, Nat.reduceEqDiff, Nat.reduceLT, Nat.reduceLeDiff, Nat.reduceMul, Nat.reduceSub, reduceIte, Int.reduceEq, Int.reduceNe, Int.reduceLT, Int.reduceLE, Int.reduceAdd, Int.reduceSub, Int.reduceMul, Int.reduceNeg, Int.reduceMod, Int.reduceDiv, Int.reduceTMod, Int.reduceTDiv, Int.reduceToNat, okChain_i, okLoads_nil, okLoads_in, okLoads_eq]
def ps0 : PS := ⟨false, false, false, false, 0⟩
theorem ps0_ok : ps0.ok := ⟨by decide, by decide⟩
theorem firstP_f (H : Heap) : ∃ X, K 24 [] H = some (.bool true, H ++ X) := by
  have hl : live (H ++ [some ⟨true, 58, ps0.L⟩]) H.length = some ⟨true, 58, ps0.L⟩ := (live_app_len _ _).trans rfl
  have e1 := apply_f H.length ps0 3 0 58 _ hl ps0_ok
  rw [set_app_len] at e1
  have hl2 : live (H ++ [some ⟨true, 58, (apP ps0 3 0).L⟩]) H.length = some ⟨true, 58, (apP ps0 3 0).L⟩ := (live_app_len _ _).trans rfl
  have e2 := apply_f H.length (apP ps0 3 0) 9 0 58 _ hl2 (apP_ok _ _ _ ps0_ok)
  rw [set_app_len] at e2
  have w1 : apP ps0 3 0 = ⟨false, false, true, false, 0⟩ := by rfl
  have w2 : apP (apP ps0 3 0) 9 0 = ⟨false, false, true, false, 0⟩ := by rfl
  have w3 : decide (OkC 3 0) = true := by decide
  have w4 : decide (OkC 9 0) = false := by decide
  rw [w2] at e2
  rw [w1] at e1 e2
  rw [w3] at e1
  rw [w4] at e2
  simp only [K, PS.L, ps0] at e1 e2
  refine ⟨?X, ?run⟩
  case run =>
    rw [K, D_eq p24 _ _ (Nat.le_of_ble_eq_true rfl)]
    simp (maxDischargeDepth := 8) only [r24, b24, c24_0, c24_1, c24_2, e1, e2, RUN, Ed, knd, kndR, resV, binInt, mnmxV, mnmx2, fillL, unV, lenV, extractV, partV, loadAt, Nat.reduceAdd, Nat.reduceBEq, Nat.reduceEqDiff, Nat.reduceLT, Nat.reduceLeDiff, Nat.reduceMul, Nat.reduceSub, reduceIte, Int.reduceEq, Int.reduceNe, Int.reduceLT, Int.reduceLE, Int.reduceAdd, Int.reduceSub, Int.reduceMul, Int.reduceNeg, Int.reduceMod, Int.reduceDiv, Int.reduceTMod, Int.reduceTDiv, Int.reduceToNat, okChain_i, okLoads_nil, okLoads_in, okLoads_eq]
    rfl
end Go.Proofs.YtdmfedmhcegggaaDoor.Sim
