/- The document's CheckConfig: its tails. -/
import Derived.Test.YtceildmghmigaaaDoorCon13
import Derived.Test.YtceildmghmigaaaDoorSim21
namespace Go.Proofs.YtceildmghmigaaaDoor.Sim
open Go
set_option linter.unusedSimpArgs false
set_option linter.unusedVariables false
theorem loop14d (H : Heap) (c : Cf) (hf1 : c.f.oneCell' = true) (k : List Fd) (hkl : k.length ≤ 1000) (hfs : FS H c.f k) (p : Nat) (kp0 : live H p = some ⟨true, 26, c.L⟩) (ρ0 : Fr) (q1 : ρ0 1 = .pointer (some ⟨p, 0, none⟩)) (q3 : ρ0 3 = .int .i64 1073741824) (q12 : ρ0 12 = .int .i64 (0 : Nat)) :
    ((∀ j, 0 ≤ j → j < k.length → okF (k.getD j (0, 0, 0))) → ∃ ρ' F, E Tryd.prog hints (.loop l14_3) ρ0 H = some (.exit 6, ρ', F) ∧ Ext H F) ∧
    (∀ j, 0 ≤ j → j < k.length → ¬ okF (k.getD j (0, 0, 0)) → (∀ i, 0 ≤ i → i < j → okF (k.getD i (0, 0, 0))) → ∃ ρ' F, E Tryd.prog hints (.loop l14_3) ρ0 H = some (.ret, ρ', F) ∧ (Ext H F ∧ ρ' 2 = .int .i64 27)) := by
  refine loop_first (P := Tryd.prog) (hs := hints) (b := l14_3) (id := 6) (N := k.length) (fun j => okF (k.getD j (0, 0, 0))) (fun j ρ F => Ext H F ∧ ρ 1 = .pointer (some ⟨p, 0, none⟩) ∧ ρ 3 = .int .i64 1073741824 ∧ ρ 12 = .int .i64 j) (fun ρ F => Ext H F) (fun j ρ F => Ext H F ∧ ρ 2 = .int .i64 27) ?_ ?_ k.length 0 (by omega) ρ0 H ⟨Ext.refl H, q1, q3, q12⟩
  · rintro j ρ G hj ⟨hG, r1, r3, r12⟩
    have hx : k[j]? = some (k.getD j (0, 0, 0)) := by
      rw [List.getD_eq_getElem?_getD, List.getElem?_eq_getElem hj]; rfl
    obtain ⟨i, x1, ow, ty, cells, x2, x3, x4⟩ := (hfs.ext hG).idx hx
    have i2 := live_ltG x2
    have kp := hG.live kp0
    have ip := live_ltG kp
    have lf := hfs.len
    have hlt : (j : Int) < (k.length : Int) := by omega
    have wj := wrap64 ((j : Int) + 1) (by omega) (by omega)
    have c26 : c.L[26]? = some c.f := rfl
    generalize k.getD j (0, 0, 0) = x at *
    obtain ⟨bu, lo, pr⟩ := x
    simp only [bdL] at x4
    have eb := fun F => bound_f2 lo 0 1073741824 F
    have bad : ∀ {ρ' : Fr} {X : Heap}, ¬ okF (bu, lo, pr) → E Tryd.prog hints l14_3 ρ G = some (.ret, ρ', G ++ X) → ρ' 2 = .int .i64 27 → (okF (bu, lo, pr) → ∃ ρ' F, E Tryd.prog hints l14_3 ρ G = some (.normal, ρ', F) ∧ Ext H F ∧ ρ' 1 = .pointer (some ⟨p, 0, none⟩) ∧ ρ' 3 = .int .i64 1073741824 ∧ ρ' 12 = .int .i64 (j + 1 : Nat)) ∧ (¬ okF (bu, lo, pr) → ∃ ρ' F, E Tryd.prog hints l14_3 ρ G = some (.ret, ρ', F) ∧ Ext H F ∧ ρ' 2 = .int .i64 27) :=
      fun hn h h2 => ⟨fun g => absurd g hn, fun _ => ⟨_, _, h, hG.app _, h2⟩⟩
    by_cases c1 : bu < 4
    · refine bad (ρ' := ?ρ1) (X := ?X1) (fun h => by have := h.1; simp only at this; omega) ?run1 ?_
      case run1 =>
        simp (maxDischargeDepth := 8) only [l14_3, c14_0, c14_1, c14_2, c14_3, c14_4, c14_5, c14_6, c14_7, c14_8, c14_9, c14_10, c14_11, c14_12, c14_13, c14_14, c14_15, c14_16, c14_17, c14_18, c14_19, c14_20, c14_21, c14_22, c14_23, c14_24, c14_25, c14_26, c14_27, c14_28, c14_29, c14_30, c14_31, c14_32, c14_33, c14_34, r1, r3, r12, kp, ip, c26, hf1, lf, hlt, x1, x2, x3, x4, i2, c1, RUN, Ed, knd, kndR, resV, binInt, mnmxV, mnmx2, fillL, unV, extractV, partV, loadAt, Nat.reduceAdd, Nat.reduceBEq, Nat.reduceEqDiff, Nat.reduceLT, Nat.reduceLeDiff, Nat.reduceMul, Nat.reduceSub, reduceIte, Int.reduceEq, Int.reduceNe, Int.reduceLT, Int.reduceLE, Int.reduceAdd, Int.reduceSub, Int.reduceMul, Int.reduceNeg, Int.reduceMod, Int.reduceDiv, Int.reduceTMod, Int.reduceTDiv, Int.reduceToNat, okChain_i, okLoads_nil, okLoads_in, okLoads_eq]
        rfl
      simp (maxDischargeDepth := 8) only [RUN, Ed, knd, kndR, resV, binInt, mnmxV, mnmx2, fillL, unV, lenV, extractV, partV, loadAt, Nat.reduceAdd, Nat.reduceBEq, Nat.reduceEqDiff, Nat.reduceLT, Nat.reduceLeDiff, Nat.reduceMul, Nat.reduceSub, reduceIte, Int.reduceEq, Int.reduceNe, Int.reduceLT, Int.reduceLE, Int.reduceAdd, Int.reduceSub, Int.reduceMul, Int.reduceNeg, Int.reduceMod, Int.reduceDiv, Int.reduceTMod, Int.reduceTDiv, Int.reduceToNat, okChain_i, okLoads_nil, okLoads_in, okLoads_eq]
    by_cases c2 : 6 < bu
    · refine bad (ρ' := ?ρ2) (X := ?X2) (fun h => by have := h.2.1; simp only at this; omega) ?run2 ?_
      case run2 =>
        simp (maxDischargeDepth := 8) only [l14_3, c14_0, c14_1, c14_2, c14_3, c14_4, c14_5, c14_6, c14_7, c14_8, c14_9, c14_10, c14_11, c14_12, c14_13, c14_14, c14_15, c14_16, c14_17, c14_18, c14_19, c14_20, c14_21, c14_22, c14_23, c14_24, c14_25, c14_26, c14_27, c14_28, c14_29, c14_30, c14_31, c14_32, c14_33, c14_34, r1, r3, r12, kp, ip, c26, hf1, lf, hlt, x1, x2, x3, x4, i2, c1, c2, RUN, Ed, knd, kndR, resV, binInt, mnmxV, mnmx2, fillL, unV, extractV, partV, loadAt, Nat.reduceAdd, Nat.reduceBEq, Nat.reduceEqDiff, Nat.reduceLT, Nat.reduceLeDiff, Nat.reduceMul, Nat.reduceSub, reduceIte, Int.reduceEq, Int.reduceNe, Int.reduceLT, Int.reduceLE, Int.reduceAdd, Int.reduceSub, Int.reduceMul, Int.reduceNeg, Int.reduceMod, Int.reduceDiv, Int.reduceTMod, Int.reduceTDiv, Int.reduceToNat, okChain_i, okLoads_nil, okLoads_in, okLoads_eq]
        rfl
      simp (maxDischargeDepth := 8) only [RUN, Ed, knd, kndR, resV, binInt, mnmxV, mnmx2, fillL, unV, lenV, extractV, partV, loadAt, Nat.reduceAdd, Nat.reduceBEq, Nat.reduceEqDiff, Nat.reduceLT, Nat.reduceLeDiff, Nat.reduceMul, Nat.reduceSub, reduceIte, Int.reduceEq, Int.reduceNe, Int.reduceLT, Int.reduceLE, Int.reduceAdd, Int.reduceSub, Int.reduceMul, Int.reduceNeg, Int.reduceMod, Int.reduceDiv, Int.reduceTMod, Int.reduceTDiv, Int.reduceToNat, okChain_i, okLoads_nil, okLoads_in, okLoads_eq]
    by_cases c3 : 0 ≤ lo ∧ lo ≤ 1073741824
    case neg =>
      rw [decide_eq_false c3] at eb
      refine bad (ρ' := ?ρ3) (X := ?X3) (fun h => c3 ⟨h.2.2.1, h.2.2.2.1⟩) ?run3 ?_
      case run3 =>
        simp (maxDischargeDepth := 8) only [l14_3, c14_0, c14_1, c14_2, c14_3, c14_4, c14_5, c14_6, c14_7, c14_8, c14_9, c14_10, c14_11, c14_12, c14_13, c14_14, c14_15, c14_16, c14_17, c14_18, c14_19, c14_20, c14_21, c14_22, c14_23, c14_24, c14_25, c14_26, c14_27, c14_28, c14_29, c14_30, c14_31, c14_32, c14_33, c14_34, r1, r3, r12, kp, ip, c26, hf1, lf, hlt, x1, x2, x3, x4, i2, c1, c2, eb, RUN, Ed, knd, kndR, resV, binInt, mnmxV, mnmx2, fillL, unV, extractV, partV, loadAt, Nat.reduceAdd, Nat.reduceBEq, Nat.reduceEqDiff, Nat.reduceLT, Nat.reduceLeDiff, Nat.reduceMul, Nat.reduceSub, reduceIte, Int.reduceEq, Int.reduceNe, Int.reduceLT, Int.reduceLE, Int.reduceAdd, Int.reduceSub, Int.reduceMul, Int.reduceNeg, Int.reduceMod, Int.reduceDiv, Int.reduceTMod, Int.reduceTDiv, Int.reduceToNat, okChain_i, okLoads_nil, okLoads_in, okLoads_eq]
        rfl
      simp (maxDischargeDepth := 8) only [RUN, Ed, knd, kndR, resV, binInt, mnmxV, mnmx2, fillL, unV, lenV, extractV, partV, loadAt, Nat.reduceAdd, Nat.reduceBEq, Nat.reduceEqDiff, Nat.reduceLT, Nat.reduceLeDiff, Nat.reduceMul, Nat.reduceSub, reduceIte, Int.reduceEq, Int.reduceNe, Int.reduceLT, Int.reduceLE, Int.reduceAdd, Int.reduceSub, Int.reduceMul, Int.reduceNeg, Int.reduceMod, Int.reduceDiv, Int.reduceTMod, Int.reduceTDiv, Int.reduceToNat, okChain_i, okLoads_nil, okLoads_in, okLoads_eq]
    rw [decide_eq_true c3] at eb
    by_cases c5 : pr < 0
    · refine bad (ρ' := ?ρ5) (X := ?X5) (fun h => by have := h.2.2.2.2.1; simp only at this; omega) ?run5 ?_
      case run5 =>
        simp (maxDischargeDepth := 8) only [l14_3, c14_0, c14_1, c14_2, c14_3, c14_4, c14_5, c14_6, c14_7, c14_8, c14_9, c14_10, c14_11, c14_12, c14_13, c14_14, c14_15, c14_16, c14_17, c14_18, c14_19, c14_20, c14_21, c14_22, c14_23, c14_24, c14_25, c14_26, c14_27, c14_28, c14_29, c14_30, c14_31, c14_32, c14_33, c14_34, r1, r3, r12, kp, ip, c26, hf1, lf, hlt, x1, x2, x3, x4, i2, c1, c2, eb, c5, RUN, Ed, knd, kndR, resV, binInt, mnmxV, mnmx2, fillL, unV, extractV, partV, loadAt, Nat.reduceAdd, Nat.reduceBEq, Nat.reduceEqDiff, Nat.reduceLT, Nat.reduceLeDiff, Nat.reduceMul, Nat.reduceSub, reduceIte, Int.reduceEq, Int.reduceNe, Int.reduceLT, Int.reduceLE, Int.reduceAdd, Int.reduceSub, Int.reduceMul, Int.reduceNeg, Int.reduceMod, Int.reduceDiv, Int.reduceTMod, Int.reduceTDiv, Int.reduceToNat, okChain_i, okLoads_nil, okLoads_in, okLoads_eq]
        rfl
      simp (maxDischargeDepth := 8) only [RUN, Ed, knd, kndR, resV, binInt, mnmxV, mnmx2, fillL, unV, lenV, extractV, partV, loadAt, Nat.reduceAdd, Nat.reduceBEq, Nat.reduceEqDiff, Nat.reduceLT, Nat.reduceLeDiff, Nat.reduceMul, Nat.reduceSub, reduceIte, Int.reduceEq, Int.reduceNe, Int.reduceLT, Int.reduceLE, Int.reduceAdd, Int.reduceSub, Int.reduceMul, Int.reduceNeg, Int.reduceMod, Int.reduceDiv, Int.reduceTMod, Int.reduceTDiv, Int.reduceToNat, okChain_i, okLoads_nil, okLoads_in, okLoads_eq]
    by_cases c6 : 100 < pr
    · refine bad (ρ' := ?ρ6) (X := ?X6) (fun h => by have := h.2.2.2.2.2; simp only at this; omega) ?run6 ?_
      case run6 =>
        simp (maxDischargeDepth := 8) only [l14_3, c14_0, c14_1, c14_2, c14_3, c14_4, c14_5, c14_6, c14_7, c14_8, c14_9, c14_10, c14_11, c14_12, c14_13, c14_14, c14_15, c14_16, c14_17, c14_18, c14_19, c14_20, c14_21, c14_22, c14_23, c14_24, c14_25, c14_26, c14_27, c14_28, c14_29, c14_30, c14_31, c14_32, c14_33, c14_34, r1, r3, r12, kp, ip, c26, hf1, lf, hlt, x1, x2, x3, x4, i2, c1, c2, eb, c5, c6, RUN, Ed, knd, kndR, resV, binInt, mnmxV, mnmx2, fillL, unV, extractV, partV, loadAt, Nat.reduceAdd, Nat.reduceBEq, Nat.reduceEqDiff, Nat.reduceLT, Nat.reduceLeDiff, Nat.reduceMul, Nat.reduceSub, reduceIte, Int.reduceEq, Int.reduceNe, Int.reduceLT, Int.reduceLE, Int.reduceAdd, Int.reduceSub, Int.reduceMul, Int.reduceNeg, Int.reduceMod, Int.reduceDiv, Int.reduceTMod, Int.reduceTDiv, Int.reduceToNat, okChain_i, okLoads_nil, okLoads_in, okLoads_eq]
        rfl
      simp (maxDischargeDepth := 8) only [RUN, Ed, knd, kndR, resV, binInt, mnmxV, mnmx2, fillL, unV, lenV, extractV, partV, loadAt, Nat.reduceAdd, Nat.reduceBEq, Nat.reduceEqDiff, Nat.reduceLT, Nat.reduceLeDiff, Nat.reduceMul, Nat.reduceSub, reduceIte, Int.reduceEq, Int.reduceNe, Int.reduceLT, Int.reduceLE, Int.reduceAdd, Int.reduceSub, Int.reduceMul, Int.reduceNeg, Int.reduceMod, Int.reduceDiv, Int.reduceTMod, Int.reduceTDiv, Int.reduceToNat, okChain_i, okLoads_nil, okLoads_in, okLoads_eq]
    refine ⟨fun _ => ⟨?ρ7, _, ?run7, hG.app ?X7, ?_, ?_, ?_⟩, fun h => absurd (show okF (bu, lo, pr) from ⟨by simp only; omega, by simp only; omega, c3.1, c3.2, by simp only; omega, by simp only; omega⟩) h⟩
    case run7 =>
      simp (maxDischargeDepth := 8) only [l14_3, c14_0, c14_1, c14_2, c14_3, c14_4, c14_5, c14_6, c14_7, c14_8, c14_9, c14_10, c14_11, c14_12, c14_13, c14_14, c14_15, c14_16, c14_17, c14_18, c14_19, c14_20, c14_21, c14_22, c14_23, c14_24, c14_25, c14_26, c14_27, c14_28, c14_29, c14_30, c14_31, c14_32, c14_33, c14_34, r1, r3, r12, kp, ip, c26, hf1, lf, hlt, x1, x2, x3, x4, i2, c1, c2, eb, c5, c6, wj, RUN, Ed, knd, kndR, resV, binInt, mnmxV, mnmx2, fillL, unV, extractV, partV, loadAt, Nat.reduceAdd, Nat.reduceBEq, Nat.reduceEqDiff, Nat.reduceLT, Nat.reduceLeDiff, Nat.reduceMul, Nat.reduceSub, reduceIte, Int.reduceEq, Int.reduceNe, Int.reduceLT, Int.reduceLE, Int.reduceAdd, Int.reduceSub, Int.reduceMul, Int.reduceNeg, Int.reduceMod, Int.reduceDiv, Int.reduceTMod, Int.reduceTDiv, Int.reduceToNat, okChain_i, okLoads_nil, okLoads_in, okLoads_eq]
      rfl
    all_goals first | (simp (maxDischargeDepth := 8) only [r1, r3, RUN, Ed, knd, kndR, resV, binInt, mnmxV, mnmx2, fillL, unV, lenV, extractV, partV, loadAt, Nat.reduceAdd, Nat.reduceBEq, Nat.reduceEqDiff, Nat.reduceLT, Nat.reduceLeDiff, Nat.reduceMul, Nat.reduceSub, reduceIte, Int.reduceEq, Int.reduceNe, Int.reduceLT, Int.reduceLE, Int.reduceAdd, Int.reduceSub, Int.reduceMul, Int.reduceNeg, Int.reduceMod, Int.reduceDiv, Int.reduceTMod, Int.reduceTDiv, Int.reduceToNat, okChain_i, okLoads_nil, okLoads_in, okLoads_eq]; done) | (simp (maxDischargeDepth := 8) only [r1, r3, RUN, Ed, knd, kndR, resV, binInt, mnmxV, mnmx2, fillL, unV, lenV, extractV, partV, loadAt, Nat.reduceAdd, Nat.reduceBEq, Nat.reduceEqDiff, Nat.reduceLT, Nat.reduceLeDiff, Nat.reduceMul, Nat.reduceSub, reduceIte, Int.reduceEq, Int.reduceNe, Int.reduceLT, Int.reduceLE, Int.reduceAdd, Int.reduceSub, Int.reduceMul, Int.reduceNeg, Int.reduceMod, Int.reduceDiv, Int.reduceTMod, Int.reduceTDiv, Int.reduceToNat, okChain_i, okLoads_nil, okLoads_in, okLoads_eq]; rfl)
  · rintro ρ G ⟨hG, r1, r3, r12⟩
    have kp := hG.live kp0
    have ip := live_ltG kp
    have lf := hfs.len
    have c26 : c.L[26]? = some c.f := rfl
    have hlt : ¬ (k.length : Int) < (k.length : Int) := by omega
    refine ⟨?ρ9, G, ?run9, hG⟩
    case run9 =>
      simp (maxDischargeDepth := 8) only [l14_3, c14_29, r1, r12, kp, ip, c26, hf1, lf, hlt, RUN, Ed, knd, kndR, resV, binInt, mnmxV, mnmx2, fillL, unV, extractV, partV, loadAt, Nat.reduceAdd, Nat.reduceBEq, Nat.reduceEqDiff, Nat.reduceLT, Nat.reduceLeDiff, Nat.reduceMul, Nat.reduceSub, reduceIte, Int.reduceEq, Int.reduceNe, Int.reduceLT, Int.reduceLE, Int.reduceAdd, Int.reduceSub, Int.reduceMul, Int.reduceNeg, Int.reduceMod, Int.reduceDiv, Int.reduceTMod, Int.reduceTDiv, Int.reduceToNat, okChain_i, okLoads_nil, okLoads_in, okLoads_eq]
      rfl
end Go.Proofs.YtceildmghmigaaaDoor.Sim
