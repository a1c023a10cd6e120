/- PilotBodies over the plain heap. -/
import Derived.Test.YtdmfedmhcegggaaDoorPil2
import Derived.Test.YtdmfedmhcegggaaDoorSim21
namespace Go.Proofs.YtdmfedmhcegggaaDoor.Sim
open Go
set_option linter.unusedSimpArgs false
set_option linter.unusedVariables false
theorem number_f (n b : Int) (H : Heap) (h1 : -9223372036854775808 ≤ n) (h2 : n ≤ 9223372036854775807) (hb : 0 < b) (hb2 : b ≤ 1048576) : K 25 [.int .i64 n, .int .i64 b] H = some (.int .i64 (n % b), H) := by
  have hb0 : ¬ b = 0 := by omega
  have ht := Int.tmod_eq_emod (a := n) (b := b)
  have he0 := Int.emod_nonneg n hb0
  have he1 := Int.emod_lt_of_pos n hb
  have hbn : (b.natAbs : Int) = b := by omega
  rw [K, D_eq p25 _ _ (Nat.le_of_ble_eq_true rfl)]
  by_cases hn : n.tmod b < 0
  · have hr : n.tmod b + b = n % b := by
      split at ht
      · omega
      · omega
    have hw := wrap64 (n % b) (by omega) (by omega)
    simp (maxDischargeDepth := 8) only [r25, b25, c25_0, c25_1, c25_2, c25_3, c25_4, hb0, hn, hw, hr, RUN, Ed, knd, kndR, resV, binInt, mnmxV, mnmx2, fillL, unV, lenV, extractV, partV, loadAt, Nat.reduceAdd, Nat.reduceBEq, Nat.reduceEqDiff, Nat.reduceLT, Nat.reduceLeDiff, Nat.reduceMul, Nat.reduceSub, reduceIte, Int.reduceEq, Int.reduceNe, Int.reduceLT, Int.reduceLE, Int.reduceAdd, Int.reduceSub, Int.reduceMul, Int.reduceNeg, Int.reduceMod, Int.reduceDiv, Int.reduceTMod, Int.reduceTDiv, Int.reduceToNat, okChain_i, okLoads_nil, okLoads_in, okLoads_eq]
  · have hr : n.tmod b = n % b := by
      split at ht
      · omega
      · omega
    simp (maxDischargeDepth := 8) only [r25, b25, c25_0, c25_1, c25_2, c25_3, c25_4, hb0, hn, RUN, Ed, knd, kndR, resV, binInt, mnmxV, mnmx2, fillL, unV, lenV, extractV, partV, loadAt, Nat.reduceAdd, Nat.reduceBEq, Nat.reduceEqDiff, Nat.reduceLT, Nat.reduceLeDiff, Nat.reduceMul, Nat.reduceSub, reduceIte, Int.reduceEq, Int.reduceNe, Int.reduceLT, Int.reduceLE, Int.reduceAdd, Int.reduceSub, Int.reduceMul, Int.reduceNeg, Int.reduceMod, Int.reduceDiv, Int.reduceTMod, Int.reduceTDiv, Int.reduceToNat, okChain_i, okLoads_nil, okLoads_in, okLoads_eq]
    rw [hr]
/-- A configuration: the first five, the other numbers that vary, the table, the feeders. -/
structure Cv where
  a0 : Int
  a1 : Int
  a2 : Int
  a3 : Int
  a4 : Int
  a18 : Int
  a24 : Int
  a25 : Int
  o : Value
  f : Value
def cfgL (c : Cv) : List Value :=
  [.int .i64 c.a0, .int .i64 c.a1, .int .i64 c.a2, .int .i64 c.a3, .int .i64 c.a4, .int .i64 100000, .int .i64 0, .int .i64 500, .int .i64 20000, .int .i64 10000, .int .i64 12000, .int .i64 3000, .int .i64 4200, .int .i64 300, .int .i64 600, .int .i64 1000, .int .i64 20, .int .i64 100, .int .i64 c.a18, .int .i64 50, c.o, .int .i64 3000, .int .i64 500, .int .i64 3000, .int .i64 c.a24, .int .i64 c.a25, c.f]
def cv0 (n : Int) (h : Nat) : Cv := ⟨1 + n % 1048576 % 4, 1 + n % 1048576 / 4 % 3, 1 + n % 1048576 / 12 % 4, 1 + n % 1048576 / 48 % 9, 1 + n % 1048576 / 432 % 5, 0, 0, 500, .slice (some ⟨h + 2, 0, none⟩) 4 2, .slice none 0 0⟩
def ocvB : Option Blk := some ⟨true, 69, [.int .i64 0, .int .i64 20000, .int .i64 20000, .int .i64 23000, .int .i64 80000, .int .i64 25000, .int .i64 100000, .int .i64 28000]⟩
theorem wf_i64 (a : Int) (h : (Lit.int .i64 a).wf = true) : -9223372036854775808 ≤ a ∧ a ≤ 9223372036854775807 := by
  simp only [Lit.wf, Bool.and_eq_true, decide_eq_true_eq] at h
  exact h
theorem fill0 (k : Nat) : fillZ [.int .u8 0] k = bL (List.replicate k 0) := by
  induction k with
  | zero => rfl
  | succ k ih => rw [fillZ, ih, List.replicate_succ', bL_app]; rfl
def t7 : RCode := .seq (.region c7_15) .ret
def m7 : RCode := .seq (.region c7_10) (.seq (.seq (.region c7_11) (.cond (.tmp 64) (.region c7_12) .skip)) (.seq (.seq (.region c7_13) (.cond (.tmp 66) (.region c7_14) .skip)) t7))
def n7 : RCode := .seq (.region c7_9) m7
def k7 : RCode := .seq (.region c7_6) (.seq (.region c7_7) (.seq (.region c7_8) n7))
theorem b7t : b7 = .seq (.region c7_0) (.seq (.region c7_1) (.seq (.seq (.region c7_2) (.cond (.tmp 24) (.seq (.region c7_3) .ret) .skip)) (.seq (.region c7_4) (.seq (.region c7_5) k7)))) := (rfl)
theorem tail7 (j : Nat) (hj : j < 7) (id cmd arg c a : Int) (ef eg : Option Nat) (F : Heap) (hE : EH all7 F) (ρ : Fr) (r0 : ρ 0 = .int .u8 id) (r2 : ρ 2 = .int .u8 cmd) (r3 : ρ 3 = .int .u8 arg) (r9 : ρ 9 = .bool true) (r13 : ρ 13 = Err j) (r21 : ρ 21 = .int .i64 (101 + j)) (r16 : ρ 16 = EV ef) (hf : ef = if id = 80 then none else some 0)
    (r19 : ρ 19 = EV eg) (hg : eg = if OkC cmd arg then none else some 0) (r20 : ρ 20 = .bool (decide (OkC cmd arg))) (r17 : ρ 17 = .int .i64 c) (r18 : ρ 18 = .int .i64 a) (hc : OkC cmd arg → c = cmd ∧ a = arg) : Ok (done [.tmp 8] (E Tryd.prog hints t7 ρ F)) := by
  obtain ⟨XI, eIn, eIE, eI⟩ := is_rules
  have e1 := eIE j hj F hE
  by_cases hi : id = 80 <;> by_cases ho : OkC cmd arg
  · obtain ⟨rfl, rfl⟩ := hc ho
    unfold OkC at ho
    have w1 := wrap64 c (by omega) (by omega)
    have w2 := wrap64 a (by omega) (by omega)
    have ho' : OkC c a := ho
    rw [if_pos hi] at hf
    rw [if_pos ho'] at hg
    subst hf; subst hg; subst hi
    have hd : decide (OkC c a) = true := by simpa using ho'
    rw [hd] at r20
    simp only [EV] at r16 r19
    simp (maxDischargeDepth := 8) only [t7, c7_15, r0, r2, r3, r9, r13, r16, r17, r18, r19, r20, r21, e1, w1, w2, same_nn, RUN, Ed, knd, kndR, resV, binInt, mnmxV, mnmx2, fillL, unV, lenV, extractV, partV, loadAt, Nat.reduceAdd, Nat.reduceBEq, Nat.reduceEqDiff, Nat.reduceLT, Nat.reduceLeDiff, Nat.reduceMul, Nat.reduceSub, reduceIte, Int.reduceEq, Int.reduceNe, Int.reduceLT, Int.reduceLE, Int.reduceAdd, Int.reduceSub, Int.reduceMul, Int.reduceNeg, Int.reduceMod, Int.reduceDiv, Int.reduceTMod, Int.reduceTDiv, Int.reduceToNat, okChain_i, okLoads_nil, okLoads_in, okLoads_eq]
    exact Ok.mk _
  · rw [if_pos hi] at hf
    rw [if_neg ho] at hg
    subst hf; subst hg; subst hi
    have hd : decide (OkC cmd arg) = false := by simpa using ho
    rw [hd] at r20
    simp only [EV] at r16 r19
    simp (maxDischargeDepth := 8) only [t7, c7_15, r0, r2, r3, r9, r13, r16, r17, r18, r19, r20, r21, e1, same_nn, same_En, RUN, Ed, knd, kndR, resV, binInt, mnmxV, mnmx2, fillL, unV, lenV, extractV, partV, loadAt, Nat.reduceAdd, Nat.reduceBEq, Nat.reduceEqDiff, Nat.reduceLT, Nat.reduceLeDiff, Nat.reduceMul, Nat.reduceSub, reduceIte, Int.reduceEq, Int.reduceNe, Int.reduceLT, Int.reduceLE, Int.reduceAdd, Int.reduceSub, Int.reduceMul, Int.reduceNeg, Int.reduceMod, Int.reduceDiv, Int.reduceTMod, Int.reduceTDiv, Int.reduceToNat, okChain_i, okLoads_nil, okLoads_in, okLoads_eq]
    exact Ok.mk _
  · obtain ⟨rfl, rfl⟩ := hc ho
    unfold OkC at ho
    have w1 := wrap64 c (by omega) (by omega)
    have w2 := wrap64 a (by omega) (by omega)
    have ho' : OkC c a := ho
    rw [if_neg hi] at hf
    rw [if_pos ho'] at hg
    subst hf; subst hg
    have hd : decide (OkC c a) = true := by simpa using ho'
    have hd2 : decide (id = 80) = false := by simpa using hi
    rw [hd] at r20
    simp only [EV] at r16 r19
    simp (maxDischargeDepth := 8) only [t7, c7_15, r0, r2, r3, r9, r13, r16, r17, r18, r19, r20, r21, e1, w1, w2, hd2, same_nn, same_En, RUN, Ed, knd, kndR, resV, binInt, mnmxV, mnmx2, fillL, unV, lenV, extractV, partV, loadAt, Nat.reduceAdd, Nat.reduceBEq, Nat.reduceEqDiff, Nat.reduceLT, Nat.reduceLeDiff, Nat.reduceMul, Nat.reduceSub, reduceIte, Int.reduceEq, Int.reduceNe, Int.reduceLT, Int.reduceLE, Int.reduceAdd, Int.reduceSub, Int.reduceMul, Int.reduceNeg, Int.reduceMod, Int.reduceDiv, Int.reduceTMod, Int.reduceTDiv, Int.reduceToNat, okChain_i, okLoads_nil, okLoads_in, okLoads_eq]
    exact Ok.mk _
  · rw [if_neg hi] at hf
    rw [if_neg ho] at hg
    subst hf; subst hg
    have hd : decide (OkC cmd arg) = false := by simpa using ho
    have hd2 : decide (id = 80) = false := by simpa using hi
    rw [hd] at r20
    simp only [EV] at r16 r19
    simp (maxDischargeDepth := 8) only [t7, c7_15, r0, r2, r3, r9, r13, r16, r17, r18, r19, r20, r21, e1, hd2, same_nn, same_En, RUN, Ed, knd, kndR, resV, binInt, mnmxV, mnmx2, fillL, unV, lenV, extractV, partV, loadAt, Nat.reduceAdd, Nat.reduceBEq, Nat.reduceEqDiff, Nat.reduceLT, Nat.reduceLeDiff, Nat.reduceMul, Nat.reduceSub, reduceIte, Int.reduceEq, Int.reduceNe, Int.reduceLT, Int.reduceLE, Int.reduceAdd, Int.reduceSub, Int.reduceMul, Int.reduceNeg, Int.reduceMod, Int.reduceDiv, Int.reduceTMod, Int.reduceTDiv, Int.reduceToNat, okChain_i, okLoads_nil, okLoads_in, okLoads_eq]
    exact Ok.mk _
theorem mid7 (k : Nat) (id cmd arg c a : Int) (ef eg : Option Nat) (F : Heap) (hE : EH all7 F) (ρ : Fr) (r0 : ρ 0 = .int .u8 id) (r1 : ρ 1 = .int .i64 k) (r2 : ρ 2 = .int .u8 cmd) (r3 : ρ 3 = .int .u8 arg) (r9 : ρ 9 = .bool true) (r13 : ρ 13 = EV (rdP 80 (List.replicate k 0)).2.2) (r16 : ρ 16 = EV ef) (hf : ef = if id = 80 then none else some 0)
    (r19 : ρ 19 = EV eg) (hg : eg = if OkC cmd arg then none else some 0) (r20 : ρ 20 = .bool (decide (OkC cmd arg))) (r17 : ρ 17 = .int .i64 c) (r18 : ρ 18 = .int .i64 a) (hc : OkC cmd arg → c = cmd ∧ a = arg) : Ok (done [.tmp 8] (E Tryd.prog hints m7 ρ F)) := by
  by_cases k1 : (k : Int) < 2
  · have k2 : ¬ (2 : Int) < k := by omega
    have er : rdP 80 (List.replicate k 0) = (0, 0, some 2) := by unfold rdP; rw [if_pos rfl, List.length_replicate, if_pos k1]
    rw [er] at r13
    simp (maxDischargeDepth := 8) only [m7, c7_10, c7_11, c7_12, c7_13, c7_14, r1, k1, k2, RUN, Ed, knd, kndR, resV, binInt, mnmxV, mnmx2, fillL, unV, lenV, extractV, partV, loadAt, Nat.reduceAdd, Nat.reduceBEq, Nat.reduceEqDiff, Nat.reduceLT, Nat.reduceLeDiff, Nat.reduceMul, Nat.reduceSub, reduceIte, Int.reduceEq, Int.reduceNe, Int.reduceLT, Int.reduceLE, Int.reduceAdd, Int.reduceSub, Int.reduceMul, Int.reduceNeg, Int.reduceMod, Int.reduceDiv, Int.reduceTMod, Int.reduceTDiv, Int.reduceToNat, okChain_i, okLoads_nil, okLoads_in, okLoads_eq]
    refine tail7 2 (by omega) id cmd arg c a ef eg F hE _ ?_ ?_ ?_ ?_ ?_ ?_ ?_ hf ?_ hg ?_ ?_ ?_ hc
    all_goals first | (simp (maxDischargeDepth := 8) only [r0, r2, r3, r9, r13, r16, r17, r18, r19, r20, EV, RUN, Ed, knd, kndR, resV, binInt, mnmxV, mnmx2, fillL, unV, lenV, extractV, partV, loadAt, Nat.reduceAdd, Nat.reduceBEq, Nat.reduceEqDiff, Nat.reduceLT, Nat.reduceLeDiff, Nat.reduceMul, Nat.reduceSub, reduceIte, Int.reduceEq, Int.reduceNe, Int.reduceLT, Int.reduceLE, Int.reduceAdd, Int.reduceSub, Int.reduceMul, Int.reduceNeg, Int.reduceMod, Int.reduceDiv, Int.reduceTMod, Int.reduceTDiv, Int.reduceToNat, okChain_i, okLoads_nil, okLoads_in, okLoads_eq]; done) | (simp (maxDischargeDepth := 8) only [r0, r2, r3, r9, r13, r16, r17, r18, r19, r20, EV, RUN, Ed, knd, kndR, resV, binInt, mnmxV, mnmx2, fillL, unV, lenV, extractV, partV, loadAt, Nat.reduceAdd, Nat.reduceBEq, Nat.reduceEqDiff, Nat.reduceLT, Nat.reduceLeDiff, Nat.reduceMul, Nat.reduceSub, reduceIte, Int.reduceEq, Int.reduceNe, Int.reduceLT, Int.reduceLE, Int.reduceAdd, Int.reduceSub, Int.reduceMul, Int.reduceNeg, Int.reduceMod, Int.reduceDiv, Int.reduceTMod, Int.reduceTDiv, Int.reduceToNat, okChain_i, okLoads_nil, okLoads_in, okLoads_eq]; rfl)
  · by_cases k2 : (2 : Int) < k
    · have er : rdP 80 (List.replicate k 0) = (0, 0, some 1) := by unfold rdP; rw [if_pos rfl, List.length_replicate, if_neg k1, if_pos k2]
      rw [er] at r13
      simp (maxDischargeDepth := 8) only [m7, c7_10, c7_11, c7_12, c7_13, c7_14, r1, k1, k2, RUN, Ed, knd, kndR, resV, binInt, mnmxV, mnmx2, fillL, unV, lenV, extractV, partV, loadAt, Nat.reduceAdd, Nat.reduceBEq, Nat.reduceEqDiff, Nat.reduceLT, Nat.reduceLeDiff, Nat.reduceMul, Nat.reduceSub, reduceIte, Int.reduceEq, Int.reduceNe, Int.reduceLT, Int.reduceLE, Int.reduceAdd, Int.reduceSub, Int.reduceMul, Int.reduceNeg, Int.reduceMod, Int.reduceDiv, Int.reduceTMod, Int.reduceTDiv, Int.reduceToNat, okChain_i, okLoads_nil, okLoads_in, okLoads_eq]
      refine tail7 1 (by omega) id cmd arg c a ef eg F hE _ ?_ ?_ ?_ ?_ ?_ ?_ ?_ hf ?_ hg ?_ ?_ ?_ hc
      all_goals first | (simp (maxDischargeDepth := 8) only [r0, r2, r3, r9, r13, r16, r17, r18, r19, r20, EV, RUN, Ed, knd, kndR, resV, binInt, mnmxV, mnmx2, fillL, unV, lenV, extractV, partV, loadAt, Nat.reduceAdd, Nat.reduceBEq, Nat.reduceEqDiff, Nat.reduceLT, Nat.reduceLeDiff, Nat.reduceMul, Nat.reduceSub, reduceIte, Int.reduceEq, Int.reduceNe, Int.reduceLT, Int.reduceLE, Int.reduceAdd, Int.reduceSub, Int.reduceMul, Int.reduceNeg, Int.reduceMod, Int.reduceDiv, Int.reduceTMod, Int.reduceTDiv, Int.reduceToNat, okChain_i, okLoads_nil, okLoads_in, okLoads_eq]; done) | (simp (maxDischargeDepth := 8) only [r0, r2, r3, r9, r13, r16, r17, r18, r19, r20, EV, RUN, Ed, knd, kndR, resV, binInt, mnmxV, mnmx2, fillL, unV, lenV, extractV, partV, loadAt, Nat.reduceAdd, Nat.reduceBEq, Nat.reduceEqDiff, Nat.reduceLT, Nat.reduceLeDiff, Nat.reduceMul, Nat.reduceSub, reduceIte, Int.reduceEq, Int.reduceNe, Int.reduceLT, Int.reduceLE, Int.reduceAdd, Int.reduceSub, Int.reduceMul, Int.reduceNeg, Int.reduceMod, Int.reduceDiv, Int.reduceTMod, Int.reduceTDiv, Int.reduceToNat, okChain_i, okLoads_nil, okLoads_in, okLoads_eq]; rfl)
    · have hk : k = 2 := by omega
      have er : rdP 80 (List.replicate k 0) = (0, 0, some 0) := by subst hk; decide
      rw [er] at r13
      simp (maxDischargeDepth := 8) only [m7, c7_10, c7_11, c7_12, c7_13, c7_14, r1, k1, k2, RUN, Ed, knd, kndR, resV, binInt, mnmxV, mnmx2, fillL, unV, lenV, extractV, partV, loadAt, Nat.reduceAdd, Nat.reduceBEq, Nat.reduceEqDiff, Nat.reduceLT, Nat.reduceLeDiff, Nat.reduceMul, Nat.reduceSub, reduceIte, Int.reduceEq, Int.reduceNe, Int.reduceLT, Int.reduceLE, Int.reduceAdd, Int.reduceSub, Int.reduceMul, Int.reduceNeg, Int.reduceMod, Int.reduceDiv, Int.reduceTMod, Int.reduceTDiv, Int.reduceToNat, okChain_i, okLoads_nil, okLoads_in, okLoads_eq]
      refine tail7 0 (by omega) id cmd arg c a ef eg F hE _ ?_ ?_ ?_ ?_ ?_ ?_ ?_ hf ?_ hg ?_ ?_ ?_ hc
      all_goals first | (simp (maxDischargeDepth := 8) only [r0, r2, r3, r9, r13, r16, r17, r18, r19, r20, EV, RUN, Ed, knd, kndR, resV, binInt, mnmxV, mnmx2, fillL, unV, lenV, extractV, partV, loadAt, Nat.reduceAdd, Nat.reduceBEq, Nat.reduceEqDiff, Nat.reduceLT, Nat.reduceLeDiff, Nat.reduceMul, Nat.reduceSub, reduceIte, Int.reduceEq, Int.reduceNe, Int.reduceLT, Int.reduceLE, Int.reduceAdd, Int.reduceSub, Int.reduceMul, Int.reduceNeg, Int.reduceMod, Int.reduceDiv, Int.reduceTMod, Int.reduceTDiv, Int.reduceToNat, okChain_i, okLoads_nil, okLoads_in, okLoads_eq]; done) | (simp (maxDischargeDepth := 8) only [r0, r2, r3, r9, r13, r16, r17, r18, r19, r20, EV, RUN, Ed, knd, kndR, resV, binInt, mnmxV, mnmx2, fillL, unV, lenV, extractV, partV, loadAt, Nat.reduceAdd, Nat.reduceBEq, Nat.reduceEqDiff, Nat.reduceLT, Nat.reduceLeDiff, Nat.reduceMul, Nat.reduceSub, reduceIte, Int.reduceEq, Int.reduceNe, Int.reduceLT, Int.reduceLE, Int.reduceAdd, Int.reduceSub, Int.reduceMul, Int.reduceNeg, Int.reduceMod, Int.reduceDiv, Int.reduceTMod, Int.reduceTDiv, Int.reduceToNat, okChain_i, okLoads_nil, okLoads_in, okLoads_eq]; rfl)
theorem EV_one (e : Option Nat) : (EV e).oneCell' = true := by cases e <;> rfl
def Same7 (ρ ρ' : Fr) : Prop := ρ' 0 = ρ 0 ∧ ρ' 1 = ρ 1 ∧ ρ' 2 = ρ 2 ∧ ρ' 3 = ρ 3 ∧ ρ' 9 = ρ 9 ∧ ρ' 13 = ρ 13 ∧ ρ' 16 = ρ 16 ∧ ρ' 17 = ρ 17 ∧ ρ' 18 = ρ 18 ∧ ρ' 19 = ρ 19
theorem reg79 (cmd arg : Int) (ha : 0 ≤ arg) (F : Heap) (ρ : Fr) (r2 : ρ 2 = .int .u8 cmd) (r3 : ρ 3 = .int .u8 arg) : ∃ ρ', E Tryd.prog hints (.region c7_9) ρ F = some (.normal, ρ', F) ∧ Same7 ρ ρ' ∧ ρ' 20 = .bool (decide (OkC cmd arg)) := by
  by_cases k0 : 1 ≤ cmd
  · by_cases k1 : cmd ≤ 5
    · by_cases k2 : arg ≤ 1
      · have hg : decide (OkC cmd arg) = true := by rw [decide_eq_true_iff]; unfold OkC; omega
        refine ⟨?ρ1, ?run1, ?s1, ?g1⟩
        case run1 =>
          simp (maxDischargeDepth := 8) only [c7_9, r2, r3, k0, k1, k2, RUN, Ed, knd, kndR, resV, binInt, mnmxV, mnmx2, fillL, unV, lenV, extractV, partV, loadAt, Nat.reduceAdd, Nat.reduceBEq, Nat.reduceEqDiff, Nat.reduceLT, Nat.reduceLeDiff, Nat.reduceMul, Nat.reduceSub, reduceIte, Int.reduceEq, Int.reduceNe, Int.reduceLT, Int.reduceLE, Int.reduceAdd, Int.reduceSub, Int.reduceMul, Int.reduceNeg, Int.reduceMod, Int.reduceDiv, Int.reduceTMod, Int.reduceTDiv, Int.reduceToNat, okChain_i, okLoads_nil, okLoads_in, okLoads_eq]
          rfl
        case s1 => refine ⟨?_, ?_, ?_, ?_, ?_, ?_, ?_, ?_, ?_, ?_⟩ <;> simp (maxDischargeDepth := 8) only [RUN, Ed, knd, kndR, resV, binInt, mnmxV, mnmx2, fillL, unV, lenV, extractV, partV, loadAt, Nat.reduceAdd, Nat.reduceBEq, Nat.reduceEqDiff, Nat.reduceLT, Nat.reduceLeDiff, Nat.reduceMul, Nat.reduceSub, reduceIte, Int.reduceEq, Int.reduceNe, Int.reduceLT, Int.reduceLE, Int.reduceAdd, Int.reduceSub, Int.reduceMul, Int.reduceNeg, Int.reduceMod, Int.reduceDiv, Int.reduceTMod, Int.reduceTDiv, Int.reduceToNat, okChain_i, okLoads_nil, okLoads_in, okLoads_eq]
        case g1 => simp (maxDischargeDepth := 8) only [hg, RUN, Ed, knd, kndR, resV, binInt, mnmxV, mnmx2, fillL, unV, lenV, extractV, partV, loadAt, Nat.reduceAdd, Nat.reduceBEq, Nat.reduceEqDiff, Nat.reduceLT, Nat.reduceLeDiff, Nat.reduceMul, Nat.reduceSub, reduceIte, Int.reduceEq, Int.reduceNe, Int.reduceLT, Int.reduceLE, Int.reduceAdd, Int.reduceSub, Int.reduceMul, Int.reduceNeg, Int.reduceMod, Int.reduceDiv, Int.reduceTMod, Int.reduceTDiv, Int.reduceToNat, okChain_i, okLoads_nil, okLoads_in, okLoads_eq]
      · have hg : decide (OkC cmd arg) = false := by rw [decide_eq_false_iff_not]; unfold OkC; omega
        refine ⟨?ρ2, ?run2, ?s2, ?g2⟩
        case run2 =>
          simp (maxDischargeDepth := 8) only [c7_9, r2, r3, k0, k1, k2, RUN, Ed, knd, kndR, resV, binInt, mnmxV, mnmx2, fillL, unV, lenV, extractV, partV, loadAt, Nat.reduceAdd, Nat.reduceBEq, Nat.reduceEqDiff, Nat.reduceLT, Nat.reduceLeDiff, Nat.reduceMul, Nat.reduceSub, reduceIte, Int.reduceEq, Int.reduceNe, Int.reduceLT, Int.reduceLE, Int.reduceAdd, Int.reduceSub, Int.reduceMul, Int.reduceNeg, Int.reduceMod, Int.reduceDiv, Int.reduceTMod, Int.reduceTDiv, Int.reduceToNat, okChain_i, okLoads_nil, okLoads_in, okLoads_eq]
          rfl
        case s2 => refine ⟨?_, ?_, ?_, ?_, ?_, ?_, ?_, ?_, ?_, ?_⟩ <;> simp (maxDischargeDepth := 8) only [RUN, Ed, knd, kndR, resV, binInt, mnmxV, mnmx2, fillL, unV, lenV, extractV, partV, loadAt, Nat.reduceAdd, Nat.reduceBEq, Nat.reduceEqDiff, Nat.reduceLT, Nat.reduceLeDiff, Nat.reduceMul, Nat.reduceSub, reduceIte, Int.reduceEq, Int.reduceNe, Int.reduceLT, Int.reduceLE, Int.reduceAdd, Int.reduceSub, Int.reduceMul, Int.reduceNeg, Int.reduceMod, Int.reduceDiv, Int.reduceTMod, Int.reduceTDiv, Int.reduceToNat, okChain_i, okLoads_nil, okLoads_in, okLoads_eq]
        case g2 => simp (maxDischargeDepth := 8) only [hg, RUN, Ed, knd, kndR, resV, binInt, mnmxV, mnmx2, fillL, unV, lenV, extractV, partV, loadAt, Nat.reduceAdd, Nat.reduceBEq, Nat.reduceEqDiff, Nat.reduceLT, Nat.reduceLeDiff, Nat.reduceMul, Nat.reduceSub, reduceIte, Int.reduceEq, Int.reduceNe, Int.reduceLT, Int.reduceLE, Int.reduceAdd, Int.reduceSub, Int.reduceMul, Int.reduceNeg, Int.reduceMod, Int.reduceDiv, Int.reduceTMod, Int.reduceTDiv, Int.reduceToNat, okChain_i, okLoads_nil, okLoads_in, okLoads_eq]
    · have hg : decide (OkC cmd arg) = false := by rw [decide_eq_false_iff_not]; unfold OkC; omega
      refine ⟨?ρ3, ?run3, ?s3, ?g3⟩
      case run3 =>
        simp (maxDischargeDepth := 8) only [c7_9, r2, r3, k0, k1, RUN, Ed, knd, kndR, resV, binInt, mnmxV, mnmx2, fillL, unV, lenV, extractV, partV, loadAt, Nat.reduceAdd, Nat.reduceBEq, Nat.reduceEqDiff, Nat.reduceLT, Nat.reduceLeDiff, Nat.reduceMul, Nat.reduceSub, reduceIte, Int.reduceEq, Int.reduceNe, Int.reduceLT, Int.reduceLE, Int.reduceAdd, Int.reduceSub, Int.reduceMul, Int.reduceNeg, Int.reduceMod, Int.reduceDiv, Int.reduceTMod, Int.reduceTDiv, Int.reduceToNat, okChain_i, okLoads_nil, okLoads_in, okLoads_eq]
        rfl
      case s3 => refine ⟨?_, ?_, ?_, ?_, ?_, ?_, ?_, ?_, ?_, ?_⟩ <;> simp (maxDischargeDepth := 8) only [RUN, Ed, knd, kndR, resV, binInt, mnmxV, mnmx2, fillL, unV, lenV, extractV, partV, loadAt, Nat.reduceAdd, Nat.reduceBEq, Nat.reduceEqDiff, Nat.reduceLT, Nat.reduceLeDiff, Nat.reduceMul, Nat.reduceSub, reduceIte, Int.reduceEq, Int.reduceNe, Int.reduceLT, Int.reduceLE, Int.reduceAdd, Int.reduceSub, Int.reduceMul, Int.reduceNeg, Int.reduceMod, Int.reduceDiv, Int.reduceTMod, Int.reduceTDiv, Int.reduceToNat, okChain_i, okLoads_nil, okLoads_in, okLoads_eq]
      case g3 => simp (maxDischargeDepth := 8) only [hg, RUN, Ed, knd, kndR, resV, binInt, mnmxV, mnmx2, fillL, unV, lenV, extractV, partV, loadAt, Nat.reduceAdd, Nat.reduceBEq, Nat.reduceEqDiff, Nat.reduceLT, Nat.reduceLeDiff, Nat.reduceMul, Nat.reduceSub, reduceIte, Int.reduceEq, Int.reduceNe, Int.reduceLT, Int.reduceLE, Int.reduceAdd, Int.reduceSub, Int.reduceMul, Int.reduceNeg, Int.reduceMod, Int.reduceDiv, Int.reduceTMod, Int.reduceTDiv, Int.reduceToNat, okChain_i, okLoads_nil, okLoads_in, okLoads_eq]
  · have hg : decide (OkC cmd arg) = false := by rw [decide_eq_false_iff_not]; unfold OkC; omega
    refine ⟨?ρ4, ?run4, ?s4, ?g4⟩
    case run4 =>
      simp (maxDischargeDepth := 8) only [c7_9, r2, r3, k0, RUN, Ed, knd, kndR, resV, binInt, mnmxV, mnmx2, fillL, unV, lenV, extractV, partV, loadAt, Nat.reduceAdd, Nat.reduceBEq, Nat.reduceEqDiff, Nat.reduceLT, Nat.reduceLeDiff, Nat.reduceMul, Nat.reduceSub, reduceIte, Int.reduceEq, Int.reduceNe, Int.reduceLT, Int.reduceLE, Int.reduceAdd, Int.reduceSub, Int.reduceMul, Int.reduceNeg, Int.reduceMod, Int.reduceDiv, Int.reduceTMod, Int.reduceTDiv, Int.reduceToNat, okChain_i, okLoads_nil, okLoads_in, okLoads_eq]
      rfl
    case s4 => refine ⟨?_, ?_, ?_, ?_, ?_, ?_, ?_, ?_, ?_, ?_⟩ <;> simp (maxDischargeDepth := 8) only [RUN, Ed, knd, kndR, resV, binInt, mnmxV, mnmx2, fillL, unV, lenV, extractV, partV, loadAt, Nat.reduceAdd, Nat.reduceBEq, Nat.reduceEqDiff, Nat.reduceLT, Nat.reduceLeDiff, Nat.reduceMul, Nat.reduceSub, reduceIte, Int.reduceEq, Int.reduceNe, Int.reduceLT, Int.reduceLE, Int.reduceAdd, Int.reduceSub, Int.reduceMul, Int.reduceNeg, Int.reduceMod, Int.reduceDiv, Int.reduceTMod, Int.reduceTDiv, Int.reduceToNat, okChain_i, okLoads_nil, okLoads_in, okLoads_eq]
    case g4 => simp (maxDischargeDepth := 8) only [hg, RUN, Ed, knd, kndR, resV, binInt, mnmxV, mnmx2, fillL, unV, lenV, extractV, partV, loadAt, Nat.reduceAdd, Nat.reduceBEq, Nat.reduceEqDiff, Nat.reduceLT, Nat.reduceLeDiff, Nat.reduceMul, Nat.reduceSub, reduceIte, Int.reduceEq, Int.reduceNe, Int.reduceLT, Int.reduceLE, Int.reduceAdd, Int.reduceSub, Int.reduceMul, Int.reduceNeg, Int.reduceMod, Int.reduceDiv, Int.reduceTMod, Int.reduceTDiv, Int.reduceToNat, okChain_i, okLoads_nil, okLoads_in, okLoads_eq]
theorem step7 (id cmd arg : Int) (ha : 0 ≤ arg) (k : Nat) (c a : Int) (ef eg : Option Nat) (F : Heap) (hE : EH all7 F) (ρ : Fr) (r0 : ρ 0 = .int .u8 id) (r1 : ρ 1 = .int .i64 k) (r2 : ρ 2 = .int .u8 cmd) (r3 : ρ 3 = .int .u8 arg) (r9 : ρ 9 = .bool true) (r13 : ρ 13 = EV (rdP 80 (List.replicate k 0)).2.2) (r16 : ρ 16 = EV ef)
    (r19 : ρ 19 = EV eg) (r17 : ρ 17 = .int .i64 c) (r18 : ρ 18 = .int .i64 a) (hf : ef = if id = 80 then none else some 0) (hg : eg = if OkC cmd arg then none else some 0) (hc : OkC cmd arg → c = cmd ∧ a = arg) : Ok (done [.tmp 8] (E Tryd.prog hints n7 ρ F)) := by
  obtain ⟨ρ', e, ⟨s0, s1, s2, s3, s9, s13, s16, s17, s18, s19⟩, s20⟩ := reg79 cmd arg ha F ρ r2 r3
  unfold n7
  rw [Es, e, andThen_n]
  exact mid7 k id cmd arg c a ef eg F hE ρ' (s0.trans r0) (s1.trans r1) (s2.trans r2) (s3.trans r3) (s9.trans r9) (s13.trans r13) (s16.trans r16) hf (s19.trans r19) hg s20 (s17.trans r17) (s18.trans r18) hc
theorem keep7 (id cmd arg : Int) (hc : 0 ≤ cmd ∧ cmd < 256) (ha : 0 ≤ arg ∧ arg < 256) (k : Nat) (p : Nat) (F : Heap) (hE : EH all7 F) (hp : live F p = some ⟨true, 5, bL (List.replicate k 0)⟩) (ρ : Fr) (r0 : ρ 0 = .int .u8 id) (r1 : ρ 1 = .int .i64 k) (r2 : ρ 2 = .int .u8 cmd) (r3 : ρ 3 = .int .u8 arg) (r9 : ρ 9 = .bool true) (r10 : ρ 10 = .slice (some ⟨p, 0, none⟩) k 1) :
    Ok (done [.tmp 8] (E Tryd.prog hints k7 ρ F)) := by
  have hB : BS F (.slice (some ⟨p, 0, none⟩) k 1) (List.replicate k 0) := by
    have := BS.blk (e := 1) hp
    rwa [List.length_replicate] at this
  obtain ⟨X1, e1⟩ := readP_f all7 rfl rfl rfl 80 0 _ _ (by intro b hb; rw [List.eq_of_mem_replicate hb]; omega) F hE hB
  have hb2 : BS (F ++ (X1 ++ [some ⟨true, 5, bL [1, 1]⟩])) (.slice (some ⟨F.length + X1.length, 0, none⟩) 2 1) [1, 1] := BS.blk (e := 1) (l := [1, 1]) (ow := true) (ty := 5) (by rw [live_app_add, live_app_len]; rfl)
  obtain ⟨X2, e2⟩ := readP_f all7 rfl rfl rfl id 0 _ _ (by decide) _ (hE.more (X1 ++ [some ⟨true, 5, bL [1, 1]⟩])) hb2
  have hb3 : BS (F ++ (X1 ++ ([some ⟨true, 5, bL [1, 1]⟩] ++ (X2 ++ [some ⟨true, 5, bL [cmd, arg]⟩])))) (.slice (some ⟨F.length + (X1.length + (X2.length + 1)), 0, none⟩) 2 1) [cmd, arg] := BS.blk (e := 1) (l := [cmd, arg]) (ow := true) (ty := 5) (by rw [show X2.length + 1 = 1 + X2.length by omega, live_app_add, live_app_add, show 1 + X2.length = [some (⟨true, 5, bL [1, 1]⟩ : Blk)].length + X2.length from rfl, live_app_add, live_app_len]; rfl)
  obtain ⟨X3, e3⟩ := readP_f all7 rfl rfl rfl 80 0 _ _ (by intro b hb; simp at hb; rcases hb with rfl | rfl <;> omega) _ (hE.more (X1 ++ ([some ⟨true, 5, bL [1, 1]⟩] ++ (X2 ++ [some ⟨true, 5, bL [cmd, arg]⟩])))) hb3
  have hE4 := hE.more (X1 ++ ([some ⟨true, 5, bL [1, 1]⟩] ++ (X2 ++ ([some ⟨true, 5, bL [cmd, arg]⟩] ++ X3))))
  simp only [bL, List.map_cons, List.map_nil, List.append_assoc, List.cons_append, List.nil_append] at e2 e3 hE4
  have w2 : rdP id [1, 1] = if id = 80 then (1, 1, none) else (0, 0, some 0) := by
    unfold rdP
    by_cases hi : id = 80
    · rw [if_pos hi, if_pos hi]; decide
    · rw [if_neg hi, if_neg hi]
  have w3 : rdP 80 [cmd, arg] = if OkC cmd arg then (cmd, arg, none) else (0, 0, some 0) := by
    unfold rdP
    rw [if_pos rfl, if_neg (by simp), if_neg (by simp)]
    rfl
  generalize rdP id [1, 1] = z2 at e2 w2
  generalize rdP 80 [cmd, arg] = z3 at e3 w3
  generalize hz1 : rdP 80 (List.replicate k 0) = z1 at e1
  obtain ⟨a1, b1, q1⟩ := z1
  obtain ⟨a2, b2, q2⟩ := z2
  obtain ⟨a3, b3, q3⟩ := z3
  have u2 : q2 = if id = 80 then none else some 0 := by have := congrArg (fun z => z.2.2) w2; simp only at this; rw [this]; split <;> rfl
  have u3 : q3 = if OkC cmd arg then none else some 0 := by have := congrArg (fun z => z.2.2) w3; simp only at this; rw [this]; split <;> rfl
  have u4 : OkC cmd arg → a3 = cmd ∧ b3 = arg := fun h => by rw [if_pos h] at w3; cases w3; exact ⟨rfl, rfl⟩
  simp only at e1 e2 e3
  simp (maxDischargeDepth := 8) only [k7, c7_6, c7_7, c7_8, r0, r1, r2, r3, r9, r10, e1, e2, e3, EV_one, List.length_append, List.length_cons, List.length_nil, Nat.zero_add, RUN, Ed, knd, kndR, resV, binInt, mnmxV, mnmx2, fillL, unV, lenV, extractV, partV, loadAt, Nat.reduceAdd, Nat.reduceBEq, Nat.reduceEqDiff, Nat.reduceLT, Nat.reduceLeDiff, Nat.reduceMul, Nat.reduceSub, reduceIte, Int.reduceEq, Int.reduceNe, Int.reduceLT, Int.reduceLE, Int.reduceAdd, Int.reduceSub, Int.reduceMul, Int.reduceNeg, Int.reduceMod, Int.reduceDiv, Int.reduceTMod, Int.reduceTDiv, Int.reduceToNat, okChain_i, okLoads_nil, okLoads_in, okLoads_eq]
  refine step7 id cmd arg ha.1 k a3 b3 q2 q3 _ hE4 _ ?_ ?_ ?_ ?_ ?_ ?_ ?_ ?_ ?_ ?_ u2 u3 u4
  all_goals first | (simp (maxDischargeDepth := 8) only [r0, r1, r2, r3, r9, hz1, RUN, Ed, knd, kndR, resV, binInt, mnmxV, mnmx2, fillL, unV, lenV, extractV, partV, loadAt, Nat.reduceAdd, Nat.reduceBEq, Nat.reduceEqDiff, Nat.reduceLT, Nat.reduceLeDiff, Nat.reduceMul, Nat.reduceSub, reduceIte, Int.reduceEq, Int.reduceNe, Int.reduceLT, Int.reduceLE, Int.reduceAdd, Int.reduceSub, Int.reduceMul, Int.reduceNeg, Int.reduceMod, Int.reduceDiv, Int.reduceTMod, Int.reduceTDiv, Int.reduceToNat, okChain_i, okLoads_nil, okLoads_in, okLoads_eq]; done) | skip
theorem bodies (id n cmd arg : Int) (hn : -9223372036854775808 ≤ n ∧ n ≤ 9223372036854775807) (hc : 0 ≤ cmd ∧ cmd < 256) (ha : 0 ≤ arg ∧ arg < 256) (H : Heap) (h : EH all7 H) : Ok (K 7 [.int .u8 id, .int .i64 n, .int .u8 cmd, .int .u8 arg] H) := by
  obtain ⟨X0, e0⟩ := firstP_f H
  obtain ⟨G, hG⟩ : ∃ G, G = H ++ X0 := ⟨_, rfl⟩
  have en := fun G => number_f n 6 G hn.1 hn.2 (by omega) (by omega)
  simp only [K] at e0 en
  rw [← hG] at e0
  have h2 : EH all7 G := by rw [hG]; exact h.more _
  have hk0 := Int.emod_nonneg n (show (6 : Int) ≠ 0 by decide)
  have hk1 := Int.emod_lt_of_pos n (show (0 : Int) < 6 by decide)
  obtain ⟨k, hk⟩ := Int.eq_ofNat_of_zero_le hk0
  rw [hk] at en hk1
  have mk := mkslice_i (H := G) 5 1 1 [.int .u8 0] .i64 .i64 k k (by omega) (by omega) (by omega) (by omega)
  rw [Int.toNat_natCast, fill0] at mk
  rw [K, D_eq p7 _ _ (Nat.le_of_ble_eq_true rfl)]
  simp (maxDischargeDepth := 8) only [r7, b7t, c7_0, c7_1, c7_2, c7_3, c7_4, c7_5, e0, en, mk, RUN, Ed, knd, kndR, resV, binInt, mnmxV, mnmx2, fillL, unV, lenV, extractV, partV, loadAt, Nat.reduceAdd, Nat.reduceBEq, Nat.reduceEqDiff, Nat.reduceLT, Nat.reduceLeDiff, Nat.reduceMul, Nat.reduceSub, reduceIte, Int.reduceEq, Int.reduceNe, Int.reduceLT, Int.reduceLE, Int.reduceAdd, Int.reduceSub, Int.reduceMul, Int.reduceNeg, Int.reduceMod, Int.reduceDiv, Int.reduceTMod, Int.reduceTDiv, Int.reduceToNat, okChain_i, okLoads_nil, okLoads_in, okLoads_eq]
  refine keep7 id cmd arg hc ha k G.length _ (h2.more _) ((live_app_len _ _).trans rfl) _ ?_ ?_ ?_ ?_ ?_ ?_
  all_goals simp (maxDischargeDepth := 8) only [RUN, Ed, knd, kndR, resV, binInt, mnmxV, mnmx2, fillL, unV, lenV, extractV, partV, loadAt, Nat.reduceAdd, Nat.reduceBEq, Nat.reduceEqDiff, Nat.reduceLT, Nat.reduceLeDiff, Nat.reduceMul, Nat.reduceSub, reduceIte, Int.reduceEq, Int.reduceNe, Int.reduceLT, Int.reduceLE, Int.reduceAdd, Int.reduceSub, Int.reduceMul, Int.reduceNeg, Int.reduceMod, Int.reduceDiv, Int.reduceTMod, Int.reduceTDiv, Int.reduceToNat, okChain_i, okLoads_nil, okLoads_in, okLoads_eq]
def sh7 : List Sh := [.int .u8, .int .i64, .int .u8, .int .u8]
theorem bodies_law (H : Heap) (h : EH all7 H) (ls : List (List Value)) (o : OpnAll H sh7 ls) : Ok (K 7 (argsS sh7 ls) H) := by
  obtain ⟨l0, _, rfl, h0, o⟩ := o.uncons
  obtain ⟨l1, _, rfl, h1, o⟩ := o.uncons
  obtain ⟨l2, _, rfl, h2, o⟩ := o.uncons
  obtain ⟨l3, _, rfl, h3, o⟩ := o.uncons
  cases o.unnil
  simp only [Opn] at h0 h1 h2 h3
  obtain ⟨id, rfl, _⟩ := h0
  obtain ⟨n, rfl, wn⟩ := h1
  obtain ⟨cmd, rfl, wc⟩ := h2
  obtain ⟨arg, rfl, wa⟩ := h3
  exact bodies id n cmd arg (wf_i64 _ wn) (wf_u8 _ wc) (wf_u8 _ wa) H h
end Go.Proofs.YtdmfedmhcegggaaDoor.Sim
