/- Chapter 7 over the plain heap: the document's reading of a sample; SensorBodies. -/
import Derived.Test.YtdmfedmhcegggaaDoorSen2
import Derived.Test.YtdmfedmhcegggaaDoorSim21
namespace Go.Proofs.YtdmfedmhcegggaaDoor.Sim
open Go
set_option linter.unusedSimpArgs false
set_option linter.unusedVariables false
theorem readT_f (id s : Int) (hid : 0 ≤ id ∧ id < 256) (v : Value) (B : List Int) (hb : ∀ b ∈ B, 0 ≤ b ∧ b < 256) (G : Heap) (hB : BS G v B) :
    ∃ X, D Tryd.prog hints 38 [.agg ⟨[.int .u8 id, .int .u8 s, v]⟩] G = some (.tuple ⟨[.int .i64 (rdS id B).1, .int .i64 (rdS id B).2.1, .int .i64 (cd (rdS id B).2.2)]⟩, G ++ X) := by
  obtain ⟨o1, o2⟩ := hB.one
  have l := hB.len
  have e4 := fun X => long_f id s 4 v B (G ++ X) (hB.more X)
  have er := fun F => range2_f id F
  obtain ⟨lo, hi, is, hz⟩ : ∃ lo hi is, rgS id = (lo, hi, is) := ⟨_, _, _, rfl⟩
  have eh := fun w F => has2_f lo hi w F
  rw [hz] at er
  simp only [K] at er e4 eh
  have wid := wrap64 id (by omega) (by omega)
  cases is
  · have es : rdS id B = (0, 0, some 0) := by unfold rdS; rw [hz]; exact if_neg (by simp)
    refine ⟨?X1, ?run1⟩
    case run1 =>
      rw [D_eq p38 _ _ (Nat.le_of_ble_eq_true rfl)]
      simp (maxDischargeDepth := 8) only [r38, b38, c38_0, c38_1, c38_2, c38_3, es, cd, er, wid, o1, o2, RUN, Ed, knd, kndR, resV, binInt, mnmxV, mnmx2, fillL, unV, extractV, partV, loadAt, Nat.reduceAdd, Nat.reduceBEq, Nat.reduceEqDiff, Nat.reduceLT, Nat.reduceLeDiff, Nat.reduceMul, Nat.reduceSub, reduceIte, Int.reduceEq, Int.reduceNe, Int.reduceLT, Int.reduceLE, Int.reduceAdd, Int.reduceSub, Int.reduceMul, Int.reduceNeg, Int.reduceMod, Int.reduceDiv, Int.reduceTMod, Int.reduceTDiv, Int.reduceToNat, okChain_i, okLoads_nil, okLoads_in, okLoads_eq]
      rfl
  · have hz2 : (rgS id).2.2 = true := by rw [hz]
    by_cases k1 : (B.length : Int) < 4
    · have es : rdS id B = (0, 0, some 2) := by unfold rdS; rw [if_pos hz2, if_pos k1]
      rw [if_pos k1] at e4
      refine ⟨?X2, ?run2⟩
      case run2 =>
        rw [D_eq p38 _ _ (Nat.le_of_ble_eq_true rfl)]
        simp (maxDischargeDepth := 8) only [r38, b38, c38_0, c38_1, c38_2, c38_3, c38_4, c38_5, c38_6, es, cd, er, e4, wid, o1, o2, RUN, Ed, knd, kndR, resV, binInt, mnmxV, mnmx2, fillL, unV, extractV, partV, loadAt, Nat.reduceAdd, Nat.reduceBEq, Nat.reduceEqDiff, Nat.reduceLT, Nat.reduceLeDiff, Nat.reduceMul, Nat.reduceSub, reduceIte, Int.reduceEq, Int.reduceNe, Int.reduceLT, Int.reduceLE, Int.reduceAdd, Int.reduceSub, Int.reduceMul, Int.reduceNeg, Int.reduceMod, Int.reduceDiv, Int.reduceTMod, Int.reduceTDiv, Int.reduceToNat, okChain_i, okLoads_nil, okLoads_in, okLoads_eq]
        rfl
    · rw [if_neg k1] at e4
      by_cases k2 : (4 : Int) < (B.length : Int)
      · have es : rdS id B = (0, 0, some 1) := by unfold rdS; rw [if_pos hz2, if_neg k1, if_pos k2]
        rw [if_pos k2] at e4
        refine ⟨?X3, ?run3⟩
        case run3 =>
          rw [D_eq p38 _ _ (Nat.le_of_ble_eq_true rfl)]
          simp (maxDischargeDepth := 8) only [r38, b38, c38_0, c38_1, c38_2, c38_3, c38_4, c38_5, c38_6, es, cd, er, e4, wid, o1, o2, RUN, Ed, knd, kndR, resV, binInt, mnmxV, mnmx2, fillL, unV, extractV, partV, loadAt, Nat.reduceAdd, Nat.reduceBEq, Nat.reduceEqDiff, Nat.reduceLT, Nat.reduceLeDiff, Nat.reduceMul, Nat.reduceSub, reduceIte, Int.reduceEq, Int.reduceNe, Int.reduceLT, Int.reduceLE, Int.reduceAdd, Int.reduceSub, Int.reduceMul, Int.reduceNeg, Int.reduceMod, Int.reduceDiv, Int.reduceTMod, Int.reduceTDiv, Int.reduceToNat, okChain_i, okLoads_nil, okLoads_in, okLoads_eq]
          rfl
      · rw [if_neg k2] at e4
        obtain ⟨b0, b1, b2, b3, i, o, e, ow, ty, cells, rfl, rfl, f0, f1, f2, f3, f4⟩ := four_f hB (by omega)
        have q0 := hb b0 (by simp)
        have q1 := hb b1 (by simp)
        have q2 := hb b2 (by simp)
        have q3 := hb b3 (by simp)
        have ii := live_lt f0
        have v0 : IntKind.u32.wrap b0 = b0 := by rw [wrapu32]; omega
        have v1 : IntKind.u32.wrap b1 = b1 := by rw [wrapu32]; omega
        have v2 : IntKind.u32.wrap b2 = b2 := by rw [wrapu32]; omega
        have v3 : IntKind.u32.wrap b3 = b3 := by rw [wrapu32]; omega
        have s0 := shlU 24 b0 16777216 (by omega) (by decide) (by omega) (by omega)
        have s1 := shlU 16 b1 65536 (by omega) (by decide) (by omega) (by omega)
        have s2 := shlU 8 b2 256 (by omega) (by decide) (by omega) (by omega)
        have u1 : IntKind.u32.wrap (BitVec.ofInt IntKind.u32.bits (b0 * 16777216) ||| BitVec.ofInt IntKind.u32.bits (b1 * 65536)).toNat = (b0 * 256 + b1) * 65536 := by
          rw [orU 24 16777216 16777216 rfl rfl b0 (b1 * 65536) (by omega) (by omega) (by omega) (by omega)]; omega
        have u2 : IntKind.u32.wrap (BitVec.ofInt IntKind.u32.bits ((b0 * 256 + b1) * 65536) ||| BitVec.ofInt IntKind.u32.bits (b2 * 256)).toNat = ((b0 * 256 + b1) * 256 + b2) * 256 := by
          rw [orU 16 65536 65536 rfl rfl (b0 * 256 + b1) (b2 * 256) (by omega) (by omega) (by omega) (by omega)]; omega
        have u3 := orU 8 256 256 rfl rfl ((b0 * 256 + b1) * 256 + b2) b3 (by omega) (by omega) (by omega) (by omega)
        obtain ⟨V, hV⟩ : ∃ V, V = ((b0 * 256 + b1) * 256 + b2) * 256 + b3 := ⟨_, rfl⟩
        rw [← hV] at u3
        have hval : val4 [b0, b1, b2, b3] = V := hV.symm
        obtain ⟨W, hW⟩ : ∃ W, W = IntKind.i32.wrap V := ⟨_, rfl⟩
        have hWr := i32_range V
        rw [← hW] at hWr
        have wW := wrap64 W (by omega) (by omega)
        have x0 : idxSV 1 (.slice (some ⟨i, o, none⟩) 4 e) (.int .i64 0) = some (.pointer (some ⟨i, o, none⟩)) := idx4 i o e 0 (by omega)
        have x1 : idxSV 1 (.slice (some ⟨i, o, none⟩) 4 e) (.int .i64 1) = some (.pointer (some ⟨i, o + 1, none⟩)) := idx4 i o e 1 (by omega)
        have x2 : idxSV 1 (.slice (some ⟨i, o, none⟩) 4 e) (.int .i64 2) = some (.pointer (some ⟨i, o + 2, none⟩)) := idx4 i o e 2 (by omega)
        have x3 : idxSV 1 (.slice (some ⟨i, o, none⟩) 4 e) (.int .i64 3) = some (.pointer (some ⟨i, o + 3, none⟩)) := idx4 i o e 3 (by omega)
        have hk : OkS id W ↔ (lo ≤ W ∧ W ≤ hi) := by unfold OkS; rw [hz]; simp
        by_cases hg : OkS id W
        · have es : rdS id [b0, b1, b2, b3] = (id, W, none) := by unfold rdS; rw [if_pos hz2, if_neg k1, if_neg k2, hval, ← hW, if_pos hg]
          have hd : decide (lo ≤ W ∧ W ≤ hi) = true := by simpa using hk.1 hg
          refine ⟨?X4, ?run4⟩
          case run4 =>
            rw [D_eq p38 _ _ (Nat.le_of_ble_eq_true rfl)]
            simp (maxDischargeDepth := 8) only [r38, b38, c38_0, c38_1, c38_2, c38_3, c38_4, c38_5, c38_6, c38_7, c38_8, c38_9, c38_10, c38_11, es, cd, er, e4, eh, hd, wid, f0, f1, f2, f3, f4, ii, x0, x1, x2, x3, v0, v1, v2, v3, s0, s1, s2, u1, u2, u3, ← hW, wW, okChain_all, RUN, Ed, knd, kndR, resV, binInt, mnmxV, mnmx2, fillL, unV, lenV, extractV, partV, loadAt, Nat.reduceAdd, Nat.reduceBEq, Nat.reduceEqDiff, Nat.reduceLT, Nat.reduceLeDiff, Nat.reduceMul, Nat.reduceSub, reduceIte, Int.reduceEq, Int.reduceNe, Int.reduceLT, Int.reduceLE, Int.reduceAdd, Int.reduceSub, Int.reduceMul, Int.reduceNeg, Int.reduceMod, Int.reduceDiv, Int.reduceTMod, Int.reduceTDiv, Int.reduceToNat]
            rfl
        · have es : rdS id [b0, b1, b2, b3] = (0, 0, some 0) := by unfold rdS; rw [if_pos hz2, if_neg k1, if_neg k2, hval, ← hW, if_neg hg]
          have hd : decide (lo ≤ W ∧ W ≤ hi) = false := by rw [decide_eq_false_iff_not]; exact fun h => hg (hk.2 h)
          refine ⟨?X5, ?run5⟩
          case run5 =>
            rw [D_eq p38 _ _ (Nat.le_of_ble_eq_true rfl)]
            simp (maxDischargeDepth := 8) only [r38, b38, c38_0, c38_1, c38_2, c38_3, c38_4, c38_5, c38_6, c38_7, c38_8, c38_9, c38_10, c38_11, es, cd, er, e4, eh, hd, wid, f0, f1, f2, f3, f4, ii, x0, x1, x2, x3, v0, v1, v2, v3, s0, s1, s2, u1, u2, u3, ← hW, wW, okChain_all, RUN, Ed, knd, kndR, resV, binInt, mnmxV, mnmx2, fillL, unV, lenV, extractV, partV, loadAt, Nat.reduceAdd, Nat.reduceBEq, Nat.reduceEqDiff, Nat.reduceLT, Nat.reduceLeDiff, Nat.reduceMul, Nat.reduceSub, reduceIte, Int.reduceEq, Int.reduceNe, Int.reduceLT, Int.reduceLE, Int.reduceAdd, Int.reduceSub, Int.reduceMul, Int.reduceNeg, Int.reduceMod, Int.reduceDiv, Int.reduceTMod, Int.reduceTDiv, Int.reduceToNat]
            rfl
/-- SensorBodies. -/
def t10 : RCode := .seq (.region c10_14) .ret
def s10 : RCode := .seq (.region c10_13) t10
def m10 : RCode := .seq (.region c10_8) (.seq (.seq (.region c10_9) (.cond (.tmp 43) (.region c10_10) .skip)) (.seq (.seq (.region c10_11) (.cond (.tmp 45) (.region c10_12) .skip)) s10))
def k10 : RCode := .seq (.region c10_6) (.seq (.region c10_7) m10)
theorem b10t : b10 = .seq (.region c10_0) (.seq (.region c10_1) (.seq (.seq (.region c10_2) (.cond (.tmp 18) (.seq (.region c10_3) .ret) .skip)) (.seq (.region c10_4) (.seq (.region c10_5) k10)))) := (rfl)
theorem zero4 (id : Int) (h : (rgS id).2.2 = true) : rdS id [0, 0, 0, 0] = if OkS id 0 then (id, 0, none) else (0, 0, some 0) := by
  unfold rdS
  rw [if_pos h, if_neg (by simp), if_neg (by simp)]
  rfl
theorem OkS_zero (id : Int) (h : (rgS id).2.2 = true) : OkS id 0 := by
  have hr := rgS_iv id
  refine ⟨h, ?_⟩
  rcases iv_cases id with h1 | h1 | h1 | h1 | h1 | h1 | h1 | h1 | h1 | h1 | h1 | h1
  all_goals first | (rw [hr.1 h1]; decide) | (rw [hr.2.1 h1]; decide) | (rw [hr.2.2.1 h1]; decide) | (rw [hr.2.2.2.1 h1]; decide) | (rw [hr.2.2.2.2.1 h1]; decide) | (rw [hr.2.2.2.2.2.1 h1]; decide) | (rw [hr.2.2.2.2.2.2.1 h1]; decide) | (rw [hr.2.2.2.2.2.2.2.1 h1]; decide) | (rw [hr.2.2.2.2.2.2.2.2.1 h1]; decide) | (rw [hr.2.2.2.2.2.2.2.2.2.1 h1]; decide) | (rw [hr.2.2.2.2.2.2.2.2.2.2.1 h1]; decide) | (rw [hr.2.2.2.2.2.2.2.2.2.2.2 h1]; decide)
theorem rg_is (id : Int) : (rgS id).2.2 = decide (1 ≤ id ∧ id < 48) := by
  have hr := rgS_iv id
  rcases iv_cases id with h1 | h1 | h1 | h1 | h1 | h1 | h1 | h1 | h1 | h1 | h1 | h1
  · rw [hr.1 h1, show decide (1 ≤ id ∧ id < 48) = false by rw [decide_eq_false_iff_not]; omega]
  · rw [hr.2.1 h1, show decide (1 ≤ id ∧ id < 48) = true by rw [decide_eq_true_iff]; omega]
  · rw [hr.2.2.1 h1, show decide (1 ≤ id ∧ id < 48) = true by rw [decide_eq_true_iff]; omega]
  · rw [hr.2.2.2.1 h1, show decide (1 ≤ id ∧ id < 48) = true by rw [decide_eq_true_iff]; omega]
  · rw [hr.2.2.2.2.1 h1, show decide (1 ≤ id ∧ id < 48) = true by rw [decide_eq_true_iff]; omega]
  · rw [hr.2.2.2.2.2.1 h1, show decide (1 ≤ id ∧ id < 48) = true by rw [decide_eq_true_iff]; omega]
  · rw [hr.2.2.2.2.2.2.1 h1, show decide (1 ≤ id ∧ id < 48) = true by rw [decide_eq_true_iff]; omega]
  · rw [hr.2.2.2.2.2.2.2.1 h1, show decide (1 ≤ id ∧ id < 48) = true by rw [decide_eq_true_iff]; omega]
  · rw [hr.2.2.2.2.2.2.2.2.1 h1, show decide (1 ≤ id ∧ id < 48) = true by rw [decide_eq_true_iff]; omega]
  · rw [hr.2.2.2.2.2.2.2.2.2.1 h1, show decide (1 ≤ id ∧ id < 48) = true by rw [decide_eq_true_iff]; omega]
  · rw [hr.2.2.2.2.2.2.2.2.2.2.1 h1, show decide (1 ≤ id ∧ id < 48) = true by rw [decide_eq_true_iff]; omega]
  · rw [hr.2.2.2.2.2.2.2.2.2.2.2 h1, show decide (1 ≤ id ∧ id < 48) = false by rw [decide_eq_false_iff_not]; omega]
def kn (id : Int) : Bool := decide (1 ≤ id ∧ id < 48)
theorem tail10 (j : Option Nat) (hj : ∀ i, j = some i → i < 7) (b : Bool) (ef : Option Nat) (hf : ef = if b = true then none else some 0) (F : Heap) (hE : EH all7 F) (ρ : Fr) (r7 : ρ 7 = .bool true) (r10 : ρ 10 = EV j) (r14 : ρ 14 = .int .i64 (cd j)) (r13 : ρ 13 = EV ef) (r15 : ρ 15 = .bool b) : Ok (done [.tmp 6] (E Tryd.prog hints t10 ρ F)) := by
  obtain ⟨XI, eIn, eIE, eI⟩ := is_rules
  have e1 := eI j hj F hE
  cases b
  · rw [if_neg (by simp)] at hf
    subst hf
    simp only [EV] at r13
    simp (maxDischargeDepth := 8) only [t10, c10_14, r7, r10, r13, r14, r15, e1, same_nn, same_En, RUN, Ed, knd, kndR, resV, binInt, mnmxV, mnmx2, fillL, unV, lenV, extractV, partV, loadAt, Nat.reduceAdd, Nat.reduceBEq, Nat.reduceEqDiff, Nat.reduceLT, Nat.reduceLeDiff, Nat.reduceMul, Nat.reduceSub, reduceIte, Int.reduceEq, Int.reduceNe, Int.reduceLT, Int.reduceLE, Int.reduceAdd, Int.reduceSub, Int.reduceMul, Int.reduceNeg, Int.reduceMod, Int.reduceDiv, Int.reduceTMod, Int.reduceTDiv, Int.reduceToNat, okChain_i, okLoads_nil, okLoads_in, okLoads_eq]
    exact Ok.mk _
  · rw [if_pos rfl] at hf
    subst hf
    simp only [EV] at r13
    simp (maxDischargeDepth := 8) only [t10, c10_14, r7, r10, r13, r14, r15, e1, same_nn, same_En, RUN, Ed, knd, kndR, resV, binInt, mnmxV, mnmx2, fillL, unV, lenV, extractV, partV, loadAt, Nat.reduceAdd, Nat.reduceBEq, Nat.reduceEqDiff, Nat.reduceLT, Nat.reduceLeDiff, Nat.reduceMul, Nat.reduceSub, reduceIte, Int.reduceEq, Int.reduceNe, Int.reduceLT, Int.reduceLE, Int.reduceAdd, Int.reduceSub, Int.reduceMul, Int.reduceNeg, Int.reduceMod, Int.reduceDiv, Int.reduceTMod, Int.reduceTDiv, Int.reduceToNat, okChain_i, okLoads_nil, okLoads_in, okLoads_eq]
    exact Ok.mk _
theorem step10 (id : Int) (hid : 0 ≤ id ∧ id < 256) (j : Option Nat) (hj : ∀ i, j = some i → i < 7) (ef : Option Nat) (hf : ef = if kn id = true then none else some 0) (F : Heap) (hE : EH all7 F) (ρ : Fr) (r2 : ρ 2 = .int .u8 id) (r7 : ρ 7 = .bool true) (r10 : ρ 10 = EV j) (r14 : ρ 14 = .int .i64 (cd j)) (r13 : ρ 13 = EV ef) : Ok (done [.tmp 6] (E Tryd.prog hints s10 ρ F)) := by
  have w := wrap64 id (by omega) (by omega)
  by_cases h1 : 1 ≤ id
  · by_cases h2 : id < 48
    · have hk : kn id = true := by unfold kn; simp [h1, h2]
      simp (maxDischargeDepth := 8) only [s10, c10_13, r2, w, h1, h2, RUN, Ed, knd, kndR, resV, binInt, mnmxV, mnmx2, fillL, unV, lenV, extractV, partV, loadAt, Nat.reduceAdd, Nat.reduceBEq, Nat.reduceEqDiff, Nat.reduceLT, Nat.reduceLeDiff, Nat.reduceMul, Nat.reduceSub, reduceIte, Int.reduceEq, Int.reduceNe, Int.reduceLT, Int.reduceLE, Int.reduceAdd, Int.reduceSub, Int.reduceMul, Int.reduceNeg, Int.reduceMod, Int.reduceDiv, Int.reduceTMod, Int.reduceTDiv, Int.reduceToNat, okChain_i, okLoads_nil, okLoads_in, okLoads_eq]
      refine tail10 j hj _ ef hf F hE _ ?_ ?_ ?_ ?_ ?_
      all_goals simp (maxDischargeDepth := 8) only [r7, r10, r13, r14, hk, RUN, Ed, knd, kndR, resV, binInt, mnmxV, mnmx2, fillL, unV, lenV, extractV, partV, loadAt, Nat.reduceAdd, Nat.reduceBEq, Nat.reduceEqDiff, Nat.reduceLT, Nat.reduceLeDiff, Nat.reduceMul, Nat.reduceSub, reduceIte, Int.reduceEq, Int.reduceNe, Int.reduceLT, Int.reduceLE, Int.reduceAdd, Int.reduceSub, Int.reduceMul, Int.reduceNeg, Int.reduceMod, Int.reduceDiv, Int.reduceTMod, Int.reduceTDiv, Int.reduceToNat, okChain_i, okLoads_nil, okLoads_in, okLoads_eq]
    · have hk : kn id = false := by unfold kn; simp [h2]
      simp (maxDischargeDepth := 8) only [s10, c10_13, r2, w, h1, h2, RUN, Ed, knd, kndR, resV, binInt, mnmxV, mnmx2, fillL, unV, lenV, extractV, partV, loadAt, Nat.reduceAdd, Nat.reduceBEq, Nat.reduceEqDiff, Nat.reduceLT, Nat.reduceLeDiff, Nat.reduceMul, Nat.reduceSub, reduceIte, Int.reduceEq, Int.reduceNe, Int.reduceLT, Int.reduceLE, Int.reduceAdd, Int.reduceSub, Int.reduceMul, Int.reduceNeg, Int.reduceMod, Int.reduceDiv, Int.reduceTMod, Int.reduceTDiv, Int.reduceToNat, okChain_i, okLoads_nil, okLoads_in, okLoads_eq]
      refine tail10 j hj _ ef hf F hE _ ?_ ?_ ?_ ?_ ?_
      all_goals simp (maxDischargeDepth := 8) only [r7, r10, r13, r14, hk, RUN, Ed, knd, kndR, resV, binInt, mnmxV, mnmx2, fillL, unV, lenV, extractV, partV, loadAt, Nat.reduceAdd, Nat.reduceBEq, Nat.reduceEqDiff, Nat.reduceLT, Nat.reduceLeDiff, Nat.reduceMul, Nat.reduceSub, reduceIte, Int.reduceEq, Int.reduceNe, Int.reduceLT, Int.reduceLE, Int.reduceAdd, Int.reduceSub, Int.reduceMul, Int.reduceNeg, Int.reduceMod, Int.reduceDiv, Int.reduceTMod, Int.reduceTDiv, Int.reduceToNat, okChain_i, okLoads_nil, okLoads_in, okLoads_eq]
  · have hk : kn id = false := by unfold kn; simp [h1]
    simp (maxDischargeDepth := 8) only [s10, c10_13, r2, w, h1, RUN, Ed, knd, kndR, resV, binInt, mnmxV, mnmx2, fillL, unV, lenV, extractV, partV, loadAt, Nat.reduceAdd, Nat.reduceBEq, Nat.reduceEqDiff, Nat.reduceLT, Nat.reduceLeDiff, Nat.reduceMul, Nat.reduceSub, reduceIte, Int.reduceEq, Int.reduceNe, Int.reduceLT, Int.reduceLE, Int.reduceAdd, Int.reduceSub, Int.reduceMul, Int.reduceNeg, Int.reduceMod, Int.reduceDiv, Int.reduceTMod, Int.reduceTDiv, Int.reduceToNat, okChain_i, okLoads_nil, okLoads_in, okLoads_eq]
    refine tail10 j hj _ ef hf F hE _ ?_ ?_ ?_ ?_ ?_
    all_goals simp (maxDischargeDepth := 8) only [r7, r10, r13, r14, hk, RUN, Ed, knd, kndR, resV, binInt, mnmxV, mnmx2, fillL, unV, lenV, extractV, partV, loadAt, Nat.reduceAdd, Nat.reduceBEq, Nat.reduceEqDiff, Nat.reduceLT, Nat.reduceLeDiff, Nat.reduceMul, Nat.reduceSub, reduceIte, Int.reduceEq, Int.reduceNe, Int.reduceLT, Int.reduceLE, Int.reduceAdd, Int.reduceSub, Int.reduceMul, Int.reduceNeg, Int.reduceMod, Int.reduceDiv, Int.reduceTMod, Int.reduceTDiv, Int.reduceToNat, okChain_i, okLoads_nil, okLoads_in, okLoads_eq]
theorem mid10 (ch : Int) (hch : 1 ≤ ch ∧ ch < 48) (k : Nat) (id : Int) (hid : 0 ≤ id ∧ id < 256) (ef : Option Nat) (hf : ef = if kn id = true then none else some 0) (F : Heap) (hE : EH all7 F) (ρ : Fr) (r1 : ρ 1 = .int .i64 k) (r2 : ρ 2 = .int .u8 id) (r7 : ρ 7 = .bool true) (r10 : ρ 10 = EV (rdS ch (List.replicate k 0)).2.2) (r13 : ρ 13 = EV ef) : Ok (done [.tmp 6] (E Tryd.prog hints m10 ρ F)) := by
  have hz : (rgS ch).2.2 = true := by rw [rg_is]; simpa using hch
  by_cases k1 : (k : Int) < 4
  · have k2 : ¬ (4 : Int) < k := by omega
    have er : rdS ch (List.replicate k 0) = (0, 0, some 2) := by unfold rdS; rw [if_pos hz, List.length_replicate, if_pos k1]
    rw [er] at r10
    simp (maxDischargeDepth := 8) only [m10, c10_8, c10_9, c10_10, c10_11, c10_12, r1, k1, k2, RUN, Ed, knd, kndR, resV, binInt, mnmxV, mnmx2, fillL, unV, lenV, extractV, partV, loadAt, Nat.reduceAdd, Nat.reduceBEq, Nat.reduceEqDiff, Nat.reduceLT, Nat.reduceLeDiff, Nat.reduceMul, Nat.reduceSub, reduceIte, Int.reduceEq, Int.reduceNe, Int.reduceLT, Int.reduceLE, Int.reduceAdd, Int.reduceSub, Int.reduceMul, Int.reduceNeg, Int.reduceMod, Int.reduceDiv, Int.reduceTMod, Int.reduceTDiv, Int.reduceToNat, okChain_i, okLoads_nil, okLoads_in, okLoads_eq]
    refine step10 id hid (some 2) (fun i h => by cases h; omega) ef hf F hE _ ?_ ?_ ?_ ?_ ?_
    all_goals first | (simp (maxDischargeDepth := 8) only [r2, r7, r10, r13, RUN, Ed, knd, kndR, resV, binInt, mnmxV, mnmx2, fillL, unV, lenV, extractV, partV, loadAt, Nat.reduceAdd, Nat.reduceBEq, Nat.reduceEqDiff, Nat.reduceLT, Nat.reduceLeDiff, Nat.reduceMul, Nat.reduceSub, reduceIte, Int.reduceEq, Int.reduceNe, Int.reduceLT, Int.reduceLE, Int.reduceAdd, Int.reduceSub, Int.reduceMul, Int.reduceNeg, Int.reduceMod, Int.reduceDiv, Int.reduceTMod, Int.reduceTDiv, Int.reduceToNat, okChain_i, okLoads_nil, okLoads_in, okLoads_eq]; done) | (simp (maxDischargeDepth := 8) only [r2, r7, r10, r13, RUN, Ed, knd, kndR, resV, binInt, mnmxV, mnmx2, fillL, unV, lenV, extractV, partV, loadAt, Nat.reduceAdd, Nat.reduceBEq, Nat.reduceEqDiff, Nat.reduceLT, Nat.reduceLeDiff, Nat.reduceMul, Nat.reduceSub, reduceIte, Int.reduceEq, Int.reduceNe, Int.reduceLT, Int.reduceLE, Int.reduceAdd, Int.reduceSub, Int.reduceMul, Int.reduceNeg, Int.reduceMod, Int.reduceDiv, Int.reduceTMod, Int.reduceTDiv, Int.reduceToNat, okChain_i, okLoads_nil, okLoads_in, okLoads_eq]; rfl)
  · by_cases k2 : (4 : Int) < k
    · have er : rdS ch (List.replicate k 0) = (0, 0, some 1) := by unfold rdS; rw [if_pos hz, List.length_replicate, if_neg k1, if_pos k2]
      rw [er] at r10
      simp (maxDischargeDepth := 8) only [m10, c10_8, c10_9, c10_10, c10_11, c10_12, r1, k1, k2, RUN, Ed, knd, kndR, resV, binInt, mnmxV, mnmx2, fillL, unV, lenV, extractV, partV, loadAt, Nat.reduceAdd, Nat.reduceBEq, Nat.reduceEqDiff, Nat.reduceLT, Nat.reduceLeDiff, Nat.reduceMul, Nat.reduceSub, reduceIte, Int.reduceEq, Int.reduceNe, Int.reduceLT, Int.reduceLE, Int.reduceAdd, Int.reduceSub, Int.reduceMul, Int.reduceNeg, Int.reduceMod, Int.reduceDiv, Int.reduceTMod, Int.reduceTDiv, Int.reduceToNat, okChain_i, okLoads_nil, okLoads_in, okLoads_eq]
      refine step10 id hid (some 1) (fun i h => by cases h; omega) ef hf F hE _ ?_ ?_ ?_ ?_ ?_
      all_goals first | (simp (maxDischargeDepth := 8) only [r2, r7, r10, r13, RUN, Ed, knd, kndR, resV, binInt, mnmxV, mnmx2, fillL, unV, lenV, extractV, partV, loadAt, Nat.reduceAdd, Nat.reduceBEq, Nat.reduceEqDiff, Nat.reduceLT, Nat.reduceLeDiff, Nat.reduceMul, Nat.reduceSub, reduceIte, Int.reduceEq, Int.reduceNe, Int.reduceLT, Int.reduceLE, Int.reduceAdd, Int.reduceSub, Int.reduceMul, Int.reduceNeg, Int.reduceMod, Int.reduceDiv, Int.reduceTMod, Int.reduceTDiv, Int.reduceToNat, okChain_i, okLoads_nil, okLoads_in, okLoads_eq]; done) | (simp (maxDischargeDepth := 8) only [r2, r7, r10, r13, RUN, Ed, knd, kndR, resV, binInt, mnmxV, mnmx2, fillL, unV, lenV, extractV, partV, loadAt, Nat.reduceAdd, Nat.reduceBEq, Nat.reduceEqDiff, Nat.reduceLT, Nat.reduceLeDiff, Nat.reduceMul, Nat.reduceSub, reduceIte, Int.reduceEq, Int.reduceNe, Int.reduceLT, Int.reduceLE, Int.reduceAdd, Int.reduceSub, Int.reduceMul, Int.reduceNeg, Int.reduceMod, Int.reduceDiv, Int.reduceTMod, Int.reduceTDiv, Int.reduceToNat, okChain_i, okLoads_nil, okLoads_in, okLoads_eq]; rfl)
    · have hk : k = 4 := by omega
      have er : rdS ch (List.replicate k 0) = (ch, 0, none) := by subst hk; rw [show List.replicate 4 (0 : Int) = [0, 0, 0, 0] from rfl, zero4 ch hz, if_pos (OkS_zero ch hz)]
      rw [er] at r10
      simp (maxDischargeDepth := 8) only [m10, c10_8, c10_9, c10_10, c10_11, c10_12, r1, k1, k2, RUN, Ed, knd, kndR, resV, binInt, mnmxV, mnmx2, fillL, unV, lenV, extractV, partV, loadAt, Nat.reduceAdd, Nat.reduceBEq, Nat.reduceEqDiff, Nat.reduceLT, Nat.reduceLeDiff, Nat.reduceMul, Nat.reduceSub, reduceIte, Int.reduceEq, Int.reduceNe, Int.reduceLT, Int.reduceLE, Int.reduceAdd, Int.reduceSub, Int.reduceMul, Int.reduceNeg, Int.reduceMod, Int.reduceDiv, Int.reduceTMod, Int.reduceTDiv, Int.reduceToNat, okChain_i, okLoads_nil, okLoads_in, okLoads_eq]
      refine step10 id hid none (fun i h => by cases h) ef hf F hE _ ?_ ?_ ?_ ?_ ?_
      all_goals first | (simp (maxDischargeDepth := 8) only [r2, r7, r10, r13, RUN, Ed, knd, kndR, resV, binInt, mnmxV, mnmx2, fillL, unV, lenV, extractV, partV, loadAt, Nat.reduceAdd, Nat.reduceBEq, Nat.reduceEqDiff, Nat.reduceLT, Nat.reduceLeDiff, Nat.reduceMul, Nat.reduceSub, reduceIte, Int.reduceEq, Int.reduceNe, Int.reduceLT, Int.reduceLE, Int.reduceAdd, Int.reduceSub, Int.reduceMul, Int.reduceNeg, Int.reduceMod, Int.reduceDiv, Int.reduceTMod, Int.reduceTDiv, Int.reduceToNat, okChain_i, okLoads_nil, okLoads_in, okLoads_eq]; done) | (simp (maxDischargeDepth := 8) only [r2, r7, r10, r13, RUN, Ed, knd, kndR, resV, binInt, mnmxV, mnmx2, fillL, unV, lenV, extractV, partV, loadAt, Nat.reduceAdd, Nat.reduceBEq, Nat.reduceEqDiff, Nat.reduceLT, Nat.reduceLeDiff, Nat.reduceMul, Nat.reduceSub, reduceIte, Int.reduceEq, Int.reduceNe, Int.reduceLT, Int.reduceLE, Int.reduceAdd, Int.reduceSub, Int.reduceMul, Int.reduceNeg, Int.reduceMod, Int.reduceDiv, Int.reduceTMod, Int.reduceTDiv, Int.reduceToNat, okChain_i, okLoads_nil, okLoads_in, okLoads_eq]; rfl)
theorem keep10 (ch : Int) (hch : 1 ≤ ch ∧ ch < 48) (id : Int) (hid : 0 ≤ id ∧ id < 256) (k : Nat) (hk10 : k < 10) (F : Heap) (hE : EH all7 F) (ρ : Fr) (r0 : ρ 0 = .int .i64 ch) (r1 : ρ 1 = .int .i64 k) (r2 : ρ 2 = .int .u8 id) (r7 : ρ 7 = .bool true) :
    Ok (done [.tmp 6] (E Tryd.prog hints k10 ρ F)) := by
  have wc : IntKind.u8.wrap ch = ch := by rw [wrapu8]; omega
  have mk := mkslice_i (H := F) 5 1 1 [.int .u8 0] .i64 .i64 k k (by omega) (by omega) (by omega) (by omega)
  rw [Int.toNat_natCast, fill0] at mk
  have hB : BS (F ++ [some ⟨true, 5, bL (List.replicate k 0)⟩]) (.slice (some ⟨F.length, 0, none⟩) k 1) (List.replicate k 0) := by
    have := BS.blk (e := 1) (H := F ++ [some ⟨true, 5, bL (List.replicate k 0)⟩]) (i := F.length) (ow := true) (ty := 5) (l := List.replicate k 0) ((live_app_len _ _).trans rfl)
    rwa [List.length_replicate] at this
  obtain ⟨X1, e1⟩ := readS_f all7 rfl rfl rfl ch 0 (by omega) _ _ (by intro b hb; rw [List.eq_of_mem_replicate hb]; omega) _ (hE.more _) hB
  have mk2 := mkslice_i (H := F ++ ([some ⟨true, 5, bL (List.replicate k 0)⟩] ++ X1)) 5 1 1 [.int .u8 0] .i64 .i64 4 4 (by omega) (by omega) (by omega) (by omega)
  rw [show Int.toNat 4 = 4 from rfl, fill0] at mk2
  have hl2 : (F ++ ([some (⟨true, 5, bL (List.replicate k 0)⟩ : Blk)] ++ X1) : Heap).length = F.length + (X1.length + 1) := by simp
  rw [hl2] at mk2
  have hb2 : BS (F ++ ([some ⟨true, 5, bL (List.replicate k 0)⟩] ++ X1) ++ [some ⟨true, 5, bL (List.replicate 4 0)⟩]) (.slice (some ⟨F.length + (X1.length + 1), 0, none⟩) 4 1) (List.replicate 4 0) := BS.blk (e := 1) (l := List.replicate 4 0) (ow := true) (ty := 5) (by rw [← hl2]; exact (live_app_len _ _).trans rfl)
  obtain ⟨X2, e2⟩ := readS_f all7 rfl rfl rfl id 0 hid _ _ (by decide) _ ((hE.more _).more _) hb2
  have hE4 := hE.more ([some ⟨true, 5, bL (List.replicate k 0)⟩] ++ X1 ++ [some ⟨true, 5, bL (List.replicate 4 0)⟩] ++ X2)
  have w2 : (rdS id (List.replicate 4 0)).2.2 = if kn id = true then none else some 0 := by
    unfold kn
    rw [← rg_is]
    by_cases hz : (rgS id).2.2 = true
    · rw [if_pos hz, show List.replicate 4 (0 : Int) = [0, 0, 0, 0] from rfl, zero4 id hz, if_pos (OkS_zero id hz)]
    · rw [if_neg hz]; unfold rdS; rw [if_neg hz]
  generalize hz1 : rdS ch (List.replicate k 0) = z1 at e1
  generalize rdS id (List.replicate 4 0) = z2 at e2 w2
  obtain ⟨a1, b1, q1⟩ := z1
  obtain ⟨a2, b2, q2⟩ := z2
  simp only at e1 e2 w2
  simp only [List.append_assoc, List.cons_append, List.nil_append] at e1 e2 hE4 mk2
  simp (maxDischargeDepth := 8) only [k10, c10_6, c10_7, r0, r1, r2, r7, wc, mk, mk2, e1, e2, EV_one, RUN, Ed, knd, kndR, resV, binInt, mnmxV, mnmx2, fillL, unV, lenV, extractV, partV, loadAt, Nat.reduceAdd, Nat.reduceBEq, Nat.reduceEqDiff, Nat.reduceLT, Nat.reduceLeDiff, Nat.reduceMul, Nat.reduceSub, reduceIte, Int.reduceEq, Int.reduceNe, Int.reduceLT, Int.reduceLE, Int.reduceAdd, Int.reduceSub, Int.reduceMul, Int.reduceNeg, Int.reduceMod, Int.reduceDiv, Int.reduceTMod, Int.reduceTDiv, Int.reduceToNat, okChain_i, okLoads_nil, okLoads_in, okLoads_eq]
  refine mid10 ch hch k id hid q2 w2 _ hE4 _ ?_ ?_ ?_ ?_ ?_
  all_goals simp (maxDischargeDepth := 8) only [r1, r2, r7, hz1, RUN, Ed, knd, kndR, resV, binInt, mnmxV, mnmx2, fillL, unV, lenV, extractV, partV, loadAt, Nat.reduceAdd, Nat.reduceBEq, Nat.reduceEqDiff, Nat.reduceLT, Nat.reduceLeDiff, Nat.reduceMul, Nat.reduceSub, reduceIte, Int.reduceEq, Int.reduceNe, Int.reduceLT, Int.reduceLE, Int.reduceAdd, Int.reduceSub, Int.reduceMul, Int.reduceNeg, Int.reduceMod, Int.reduceDiv, Int.reduceTMod, Int.reduceTDiv, Int.reduceToNat, okChain_i, okLoads_nil, okLoads_in, okLoads_eq]
theorem sbodies (c n id : Int) (hc : -9223372036854775808 ≤ c ∧ c ≤ 9223372036854775807) (hn : -9223372036854775808 ≤ n ∧ n ≤ 9223372036854775807) (hid : 0 ≤ id ∧ id < 256) (H : Heap) (h : EH all7 H) : Ok (K 10 [.int .i64 c, .int .i64 n, .int .u8 id] H) := by
  obtain ⟨X0, e0⟩ := firstS_f H
  obtain ⟨G, hG⟩ : ∃ G, G = H ++ X0 := ⟨_, rfl⟩
  have ec := fun G => number_f c 47 G hc.1 hc.2 (by omega) (by omega)
  have en := fun G => number_f n 10 G hn.1 hn.2 (by omega) (by omega)
  simp only [K] at e0 ec en
  rw [← hG] at e0
  have h2 : EH all7 G := by rw [hG]; exact h.more _
  have hk0 := Int.emod_nonneg n (show (10 : Int) ≠ 0 by decide)
  have hk1 := Int.emod_lt_of_pos n (show (0 : Int) < 10 by decide)
  have hc0 := Int.emod_nonneg c (show (47 : Int) ≠ 0 by decide)
  have hc1 := Int.emod_lt_of_pos c (show (0 : Int) < 47 by decide)
  obtain ⟨k, hk⟩ := Int.eq_ofNat_of_zero_le hk0
  rw [hk] at en hk1
  obtain ⟨q, hq⟩ : ∃ q, q = c % 47 := ⟨_, rfl⟩
  rw [← hq] at ec hc0 hc1
  have w := wrap64 (q + 1) (by omega) (by omega)
  rw [K, D_eq p10 _ _ (Nat.le_of_ble_eq_true rfl)]
  simp (maxDischargeDepth := 8) only [r10, b10t, c10_0, c10_1, c10_2, c10_3, c10_4, c10_5, e0, ec, en, w, RUN, Ed, knd, kndR, resV, binInt, mnmxV, mnmx2, fillL, unV, lenV, extractV, partV, loadAt, Nat.reduceAdd, Nat.reduceBEq, Nat.reduceEqDiff, Nat.reduceLT, Nat.reduceLeDiff, Nat.reduceMul, Nat.reduceSub, reduceIte, Int.reduceEq, Int.reduceNe, Int.reduceLT, Int.reduceLE, Int.reduceAdd, Int.reduceSub, Int.reduceMul, Int.reduceNeg, Int.reduceMod, Int.reduceDiv, Int.reduceTMod, Int.reduceTDiv, Int.reduceToNat, okChain_i, okLoads_nil, okLoads_in, okLoads_eq]
  refine keep10 (q + 1) (by omega) id hid k (by omega) _ h2 _ ?_ ?_ ?_ ?_
  all_goals simp (maxDischargeDepth := 8) only [RUN, Ed, knd, kndR, resV, binInt, mnmxV, mnmx2, fillL, unV, lenV, extractV, partV, loadAt, Nat.reduceAdd, Nat.reduceBEq, Nat.reduceEqDiff, Nat.reduceLT, Nat.reduceLeDiff, Nat.reduceMul, Nat.reduceSub, reduceIte, Int.reduceEq, Int.reduceNe, Int.reduceLT, Int.reduceLE, Int.reduceAdd, Int.reduceSub, Int.reduceMul, Int.reduceNeg, Int.reduceMod, Int.reduceDiv, Int.reduceTMod, Int.reduceTDiv, Int.reduceToNat, okChain_i, okLoads_nil, okLoads_in, okLoads_eq]
def sh10 : List Sh := [.int .i64, .int .i64, .int .u8]
theorem sbodies_law (H : Heap) (h : EH all7 H) (ls : List (List Value)) (o : OpnAll H sh10 ls) : Ok (K 10 (argsS sh10 ls) H) := by
  obtain ⟨l0, _, rfl, h0, o⟩ := o.uncons
  obtain ⟨l1, _, rfl, h1, o⟩ := o.uncons
  obtain ⟨l2, _, rfl, h2, o⟩ := o.uncons
  cases o.unnil
  simp only [Opn] at h0 h1 h2
  obtain ⟨c, rfl, wc⟩ := h0
  obtain ⟨n, rfl, wn⟩ := h1
  obtain ⟨id, rfl, wi⟩ := h2
  exact sbodies c n id (wf_i64 _ wc) (wf_i64 _ wn) (wf_u8 _ wi) H h
end Go.Proofs.YtdmfedmhcegggaaDoor.Sim
