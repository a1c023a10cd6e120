/- The law of torn writes. -/
import Derived.Test.YtdipdpkdmiokeaaDoorJo6
import Derived.Test.YtdipdpkdmiokeaaDoorSim21
namespace Go.Proofs.YtdipdpkdmiokeaaDoor.Sim
open Go Go.Proofs.YtdipdpkdmiokeaaDoor.CrcMath
set_option linter.unusedSimpArgs false
set_option linter.unusedVariables false
theorem bytes_BO (G : Heap) (w : Value) (m : List B8) (hl : m.length ≤ 1000000) (hb : BS G w (m.map w8)) : ∃ cv X, D Tryd.prog hints 24 [w] G = some (cv, G ++ X) ∧ BO G (G ++ X) cv m := by
  obtain ⟨X, c, e1, hc, hlv⟩ := bytes_f G w (m.map w8) hb (by rw [List.length_map]; omega)
  refine ⟨_, X, e1, .inr ⟨c, hc, by rw [List.length_map], hlv, by rw [bL_len, List.length_map, Nat.mul_one]⟩⟩
def t9 : RCode := (.seq (.region c9_9) (.seq (.region c9_10) (.seq (.seq (.region c9_11) (.block 0 (.loop l9_0))) (.seq (.region c9_28) .ret))))
theorem b9t : b9 = (.seq (.region c9_0) (.seq (.region c9_1) (.seq (.seq (.region c9_2) (.cond (.tmp 23) (.seq (.region c9_3) .ret) .skip)) (.seq (.seq (.region c9_4) (.cond (.tmp 43) (.seq (.region c9_5) .ret) .skip)) (.seq (.region c9_6) (.seq (.seq (.region c9_7) (.cond (.tmp 48) (.region c9_8) .skip)) t9)))))) := (rfl)
theorem tail9 (H0 : Heap) (hE0 : EH all7 H0) (ts cs : Value) (A C : List Int) (hA : TS H0 ts A) (hC : TS H0 cs C) (wA : ∀ a ∈ A, (Lit.int .i64 a).wf = true) (wC' : ∀ a ∈ C, (Lit.int .i64 a).wf = true) (hlA : A.length ≤ 12) (hAC : A.length ≤ C.length) (t : Int) (w : Value) (m : List B8) (hm : m.length = 88) (ρ : Fr) (G : Heap) (ex : Ext H0 G) (hb : BO H0 G w m) (q0 : ρ 0 = ts) (q1 : ρ 1 = cs) (q2 : ρ 2 = .int .i64 t) (q9 : ρ 9 = .bool true) (q10 : ρ 10 = w) : Ok (done [.tmp 8] (E Tryd.prog hints t9 ρ G)) := by
  obtain ⟨X5, e5⟩ := recover_f w m (by omega) G (hE0.ext ex) hb.BS
  obtain ⟨F5, hF5⟩ : ∃ F5, F5 = G ++ X5 := ⟨_, rfl⟩
  rw [← hF5] at e5
  have z5 : Ext G F5 := ⟨_, hF5⟩
  obtain ⟨F6, hF6⟩ : ∃ F6, F6 = F5 ++ [some ⟨true, 26, (rcR m).L⟩] := ⟨_, rfl⟩
  have z6 : Ext F5 F6 := ⟨_, hF6⟩
  have k6 : live F6 F5.length = some ⟨true, 26, (rcR m).L⟩ := by rw [hF6]; exact (live_app_len _ _).trans rfl
  have i6 := live_ltG k6
  have hset : F6.set F5.length (some ⟨true, 26, (rcR m).L⟩) = F6 := by rw [hF6, set_app_len]; rfl
  have hp : H0.length ≤ F5.length := (ex.trans z5).le
  have ex6 := (ex.trans z5).trans z6
  have hb6 := hb.ext (z5.trans z6)
  have key : ∀ ρ0, ρ0 0 = ts → ρ0 1 = cs → ρ0 2 = .int .i64 t → ρ0 9 = .bool true → ρ0 10 = w → ρ0 11 = .pointer (some ⟨F5.length, 0, none⟩) → ρ0 13 = .bool (decide (0 ≤ nw m)) → ρ0 14 = .int .i64 (0 : Nat) → Ok (done [.tmp 8] (andThen (blk 0 (E Tryd.prog hints (.loop l9_0) ρ0 F6)) (E Tryd.prog hints (.seq (.region c9_28) .ret)))) := by
    intro ρ0 p0 p1 p2 p9 p10 p11 p13 p14
    obtain ⟨ρ', G', e, hf, _⟩ := loop_keep (P := Tryd.prog) (hs := hints) (b := l9_0) (id := 0) ρ0 (fun i ρ G => ∃ w m, I9 H0 F5.length i w m ρ G) (fun ρ G => True) A.length
      (by
        rintro i ρ G hi hf ⟨w, m, hI⟩
        obtain ⟨ρ', F, w', m', e, h⟩ := step9 H0 hE0 F5.length hp ts cs A C hA hC wA wC' hlA hAC t i hi w m ρ G hI ((hf 0 rfl).trans p0) ((hf 1 rfl).trans p1) ((hf 2 rfl).trans p2) ((hf 11 rfl).trans p11)
        exact ⟨ρ', F, e, w', m', h⟩)
      (by
        rintro ρ G hf ⟨w, m, hI⟩
        have r0 := (hf 0 rfl).trans p0
        have r14 := hI.q14
        have lA := hA.len
        have hlt : ¬ (A.length : Int) < (A.length : Int) := by omega
        refine ⟨?ρ2, G, ?run2, trivial⟩
        case run2 =>
          simp (maxDischargeDepth := 8) only [l9_0, c9_12, r0, r14, lA, hlt, RUN, Ed, knd, kndR, resV, binInt, mnmxV, mnmx2, fillL, unV, extractV, partV, loadAt, Nat.reduceAdd, Nat.reduceBEq, Nat.reduceEqDiff, Nat.reduceLT, Nat.reduceLeDiff, Nat.reduceMul, Nat.reduceSub, reduceIte, Int.reduceEq, Int.reduceNe, Int.reduceLT, Int.reduceLE, Int.reduceAdd, Int.reduceSub, Int.reduceMul, Int.reduceNeg, Int.reduceMod, Int.reduceDiv, Int.reduceTMod, Int.reduceTDiv, Int.reduceToNat, okChain_i, okLoads_nil, okLoads_in, okLoads_eq]
          rfl)
      F6 ⟨w, m, p14, p10, p13, ex6, hb6, hm, k6⟩
    have r9 := (hf 9 rfl).trans p9
    rw [e]
    simp (maxDischargeDepth := 8) only [c9_28, r9, RUN, Ed, knd, kndR, resV, binInt, mnmxV, mnmx2, fillL, unV, lenV, extractV, partV, loadAt, Nat.reduceAdd, Nat.reduceBEq, Nat.reduceEqDiff, Nat.reduceLT, Nat.reduceLeDiff, Nat.reduceMul, Nat.reduceSub, reduceIte, Int.reduceEq, Int.reduceNe, Int.reduceLT, Int.reduceLE, Int.reduceAdd, Int.reduceSub, Int.reduceMul, Int.reduceNeg, Int.reduceMod, Int.reduceDiv, Int.reduceTMod, Int.reduceTDiv, Int.reduceToNat, okChain_i, okLoads_nil, okLoads_in, okLoads_eq]
    exact Ok.mk _
  obtain ⟨r3, r4⟩ := rc_of m hm
  have hiso : (rcC m).isNone = decide (0 ≤ nw m) := by
    rw [r3]
    by_cases h : nw m < 0
    · rw [if_pos h, decide_eq_false (by omega)]; rfl
    · rw [if_neg h, decide_eq_true (by omega)]; rfl
  rw [← hiso] at key
  generalize rcC m = rc at *
  generalize rcR m = Q at *
  obtain ⟨s2', m2, l2, a2, b2, c2, d2⟩ := Q
  simp only [Rec.L] at e5 hF6 k6 hset
  simp (maxDischargeDepth := 8) only [t9, c9_9, c9_10, c9_11, q10, e5, ← hF6, k6, i6, hset, one_EV, cells_EV, same_EV, RUN, Ed, knd, kndR, resV, binInt, mnmxV, mnmx2, fillL, unV, lenV, extractV, partV, loadAt, Nat.reduceAdd, Nat.reduceBEq, Nat.reduceEqDiff, Nat.reduceLT, Nat.reduceLeDiff, Nat.reduceMul, Nat.reduceSub, reduceIte, Int.reduceEq, Int.reduceNe, Int.reduceLT, Int.reduceLE, Int.reduceAdd, Int.reduceSub, Int.reduceMul, Int.reduceNeg, Int.reduceMod, Int.reduceDiv, Int.reduceTMod, Int.reduceTDiv, Int.reduceToNat, okChain_i, okLoads_nil, okLoads_in, okLoads_eq]
  refine key _ ?_ ?_ ?_ ?_ ?_ ?_ ?_ ?_
  all_goals first | (simp (maxDischargeDepth := 8) only [q0, q1, q2, q9, q10, RUN, Ed, knd, kndR, resV, binInt, mnmxV, mnmx2, fillL, unV, lenV, extractV, partV, loadAt, Nat.reduceAdd, Nat.reduceBEq, Nat.reduceEqDiff, Nat.reduceLT, Nat.reduceLeDiff, Nat.reduceMul, Nat.reduceSub, reduceIte, Int.reduceEq, Int.reduceNe, Int.reduceLT, Int.reduceLE, Int.reduceAdd, Int.reduceSub, Int.reduceMul, Int.reduceNeg, Int.reduceMod, Int.reduceDiv, Int.reduceTMod, Int.reduceTDiv, Int.reduceToNat, okChain_i, okLoads_nil, okLoads_in, okLoads_eq]; done) | (simp (maxDischargeDepth := 8) only [q0, q1, q2, q9, q10, RUN, Ed, knd, kndR, resV, binInt, mnmxV, mnmx2, fillL, unV, lenV, extractV, partV, loadAt, Nat.reduceAdd, Nat.reduceBEq, Nat.reduceEqDiff, Nat.reduceLT, Nat.reduceLeDiff, Nat.reduceMul, Nat.reduceSub, reduceIte, Int.reduceEq, Int.reduceNe, Int.reduceLT, Int.reduceLE, Int.reduceAdd, Int.reduceSub, Int.reduceMul, Int.reduceNeg, Int.reduceMod, Int.reduceDiv, Int.reduceTMod, Int.reduceTDiv, Int.reduceToNat, okChain_i, okLoads_nil, okLoads_in, okLoads_eq]; rfl)
theorem tears (ts cs v : Value) (A C : List Int) (m : List B8) (t : Int) (H : Heap) (hE : EH all7 H) (hA : TS H ts A) (hC : TS H cs C) (wA : ∀ a ∈ A, (Lit.int .i64 a).wf = true) (wC' : ∀ a ∈ C, (Lit.int .i64 a).wf = true) (hB : BS H v (m.map w8)) : Ok (D Tryd.prog hints 9 [ts, cs, .int .i64 t, v] H) := by
  obtain ⟨X0, e0⟩ := first2_f H hE
  obtain ⟨G0, hG0⟩ : ∃ G0, G0 = H ++ X0 := ⟨_, rfl⟩
  rw [← hG0] at e0
  have y0 : Ext H G0 := ⟨_, hG0⟩
  have E0 := hE.ext y0
  have lA := hA.len
  have lC := hC.len
  have lm := hB.len
  rw [List.length_map] at lm
  rw [D_eq p9 _ _ (Nat.le_of_ble_eq_true rfl)]
  by_cases c1 : (12 : Int) < (A.length : Int)
  · simp (maxDischargeDepth := 8) only [r9, b9t, c9_0, c9_1, c9_2, c9_3, c9_4, c9_5, e0, lA, c1, RUN, Ed, knd, kndR, resV, binInt, mnmxV, mnmx2, fillL, unV, extractV, partV, loadAt, Nat.reduceAdd, Nat.reduceBEq, Nat.reduceEqDiff, Nat.reduceLT, Nat.reduceLeDiff, Nat.reduceMul, Nat.reduceSub, reduceIte, Int.reduceEq, Int.reduceNe, Int.reduceLT, Int.reduceLE, Int.reduceAdd, Int.reduceSub, Int.reduceMul, Int.reduceNeg, Int.reduceMod, Int.reduceDiv, Int.reduceTMod, Int.reduceTDiv, Int.reduceToNat, okChain_i, okLoads_nil, okLoads_in, okLoads_eq]
    exact Ok.mk _
  by_cases c2 : (C.length : Int) < (A.length : Int)
  · simp (maxDischargeDepth := 8) only [r9, b9t, c9_0, c9_1, c9_2, c9_3, c9_4, c9_5, e0, lA, lC, c1, c2, RUN, Ed, knd, kndR, resV, binInt, mnmxV, mnmx2, fillL, unV, extractV, partV, loadAt, Nat.reduceAdd, Nat.reduceBEq, Nat.reduceEqDiff, Nat.reduceLT, Nat.reduceLeDiff, Nat.reduceMul, Nat.reduceSub, reduceIte, Int.reduceEq, Int.reduceNe, Int.reduceLT, Int.reduceLE, Int.reduceAdd, Int.reduceSub, Int.reduceMul, Int.reduceNeg, Int.reduceMod, Int.reduceDiv, Int.reduceTMod, Int.reduceTDiv, Int.reduceToNat, okChain_i, okLoads_nil, okLoads_in, okLoads_eq]
    exact Ok.mk _
  obtain ⟨G1, hG1⟩ : ∃ G1, G1 = G0 ++ [some ⟨true, 5, fillZ [.int .u8 0] 88⟩] := ⟨_, rfl⟩
  have y1 : Ext G0 G1 := ⟨_, hG1⟩
  have k1 : live G1 G0.length = some ⟨true, 5, fillZ [.int .u8 0] 88⟩ := by rw [hG1]; exact (live_app_len _ _).trans rfl
  by_cases c3 : m.length = 88
  · have d3 : (m.length : Int) = 88 := by omega
    obtain ⟨cv, X, e1, hb⟩ := bytes_BO G1 v m (by omega) ((hB.ext y0).ext y1)
    simp (maxDischargeDepth := 8) only [r9, b9t, c9_0, c9_1, c9_2, c9_3, c9_4, c9_5, c9_6, c9_7, c9_8, e0, lA, lC, lm, c1, c2, d3, mk88, ← hG1, e1, RUN, Ed, knd, kndR, resV, binInt, mnmxV, mnmx2, fillL, unV, extractV, partV, loadAt, Nat.reduceAdd, Nat.reduceBEq, Nat.reduceEqDiff, Nat.reduceLT, Nat.reduceLeDiff, Nat.reduceMul, Nat.reduceSub, reduceIte, Int.reduceEq, Int.reduceNe, Int.reduceLT, Int.reduceLE, Int.reduceAdd, Int.reduceSub, Int.reduceMul, Int.reduceNeg, Int.reduceMod, Int.reduceDiv, Int.reduceTMod, Int.reduceTDiv, Int.reduceToNat, okChain_i, okLoads_nil, okLoads_in, okLoads_eq]
    refine tail9 G0 E0 ts cs A C (hA.ext y0) (hC.ext y0) wA wC' (by omega) (by omega) t cv m c3 _ _ (y1.app X) (hb.low' y1) ?_ ?_ ?_ ?_ ?_
    all_goals first | (simp (maxDischargeDepth := 8) only [RUN, Ed, knd, kndR, resV, binInt, mnmxV, mnmx2, fillL, unV, lenV, extractV, partV, loadAt, Nat.reduceAdd, Nat.reduceBEq, Nat.reduceEqDiff, Nat.reduceLT, Nat.reduceLeDiff, Nat.reduceMul, Nat.reduceSub, reduceIte, Int.reduceEq, Int.reduceNe, Int.reduceLT, Int.reduceLE, Int.reduceAdd, Int.reduceSub, Int.reduceMul, Int.reduceNeg, Int.reduceMod, Int.reduceDiv, Int.reduceTMod, Int.reduceTDiv, Int.reduceToNat, okChain_i, okLoads_nil, okLoads_in, okLoads_eq]; done) | (simp (maxDischargeDepth := 8) only [RUN, Ed, knd, kndR, resV, binInt, mnmxV, mnmx2, fillL, unV, lenV, extractV, partV, loadAt, Nat.reduceAdd, Nat.reduceBEq, Nat.reduceEqDiff, Nat.reduceLT, Nat.reduceLeDiff, Nat.reduceMul, Nat.reduceSub, reduceIte, Int.reduceEq, Int.reduceNe, Int.reduceLT, Int.reduceLE, Int.reduceAdd, Int.reduceSub, Int.reduceMul, Int.reduceNeg, Int.reduceMod, Int.reduceDiv, Int.reduceTMod, Int.reduceTDiv, Int.reduceToNat, okChain_i, okLoads_nil, okLoads_in, okLoads_eq]; rfl)
  · have d3 : ¬ (m.length : Int) = 88 := by omega
    by_cases c4 : m.length = 0
    · have d4 : (m.length : Int) = 0 := by omega
      have hb : BO G0 G1 (.slice (some ⟨G0.length, 0, none⟩) 88 1) zz := .inr ⟨G0.length, Nat.le_refl _, rfl, k1.trans (by rw [zz_cells]), by rw [bL_len, List.length_map, Nat.mul_one]⟩
      simp (maxDischargeDepth := 8) only [r9, b9t, c9_0, c9_1, c9_2, c9_3, c9_4, c9_5, c9_6, c9_7, c9_8, e0, lA, lC, lm, c1, c2, d4, mk88, ← hG1, RUN, Ed, knd, kndR, resV, binInt, mnmxV, mnmx2, fillL, unV, extractV, partV, loadAt, Nat.reduceAdd, Nat.reduceBEq, Nat.reduceEqDiff, Nat.reduceLT, Nat.reduceLeDiff, Nat.reduceMul, Nat.reduceSub, reduceIte, Int.reduceEq, Int.reduceNe, Int.reduceLT, Int.reduceLE, Int.reduceAdd, Int.reduceSub, Int.reduceMul, Int.reduceNeg, Int.reduceMod, Int.reduceDiv, Int.reduceTMod, Int.reduceTDiv, Int.reduceToNat, okChain_i, okLoads_nil, okLoads_in, okLoads_eq]
      refine tail9 G0 E0 ts cs A C (hA.ext y0) (hC.ext y0) wA wC' (by omega) (by omega) t _ zz zz_len _ _ y1 hb ?_ ?_ ?_ ?_ ?_
      all_goals first | (simp (maxDischargeDepth := 8) only [RUN, Ed, knd, kndR, resV, binInt, mnmxV, mnmx2, fillL, unV, lenV, extractV, partV, loadAt, Nat.reduceAdd, Nat.reduceBEq, Nat.reduceEqDiff, Nat.reduceLT, Nat.reduceLeDiff, Nat.reduceMul, Nat.reduceSub, reduceIte, Int.reduceEq, Int.reduceNe, Int.reduceLT, Int.reduceLE, Int.reduceAdd, Int.reduceSub, Int.reduceMul, Int.reduceNeg, Int.reduceMod, Int.reduceDiv, Int.reduceTMod, Int.reduceTDiv, Int.reduceToNat, okChain_i, okLoads_nil, okLoads_in, okLoads_eq]; done) | (simp (maxDischargeDepth := 8) only [RUN, Ed, knd, kndR, resV, binInt, mnmxV, mnmx2, fillL, unV, lenV, extractV, partV, loadAt, Nat.reduceAdd, Nat.reduceBEq, Nat.reduceEqDiff, Nat.reduceLT, Nat.reduceLeDiff, Nat.reduceMul, Nat.reduceSub, reduceIte, Int.reduceEq, Int.reduceNe, Int.reduceLT, Int.reduceLE, Int.reduceAdd, Int.reduceSub, Int.reduceMul, Int.reduceNeg, Int.reduceMod, Int.reduceDiv, Int.reduceTMod, Int.reduceTDiv, Int.reduceToNat, okChain_i, okLoads_nil, okLoads_in, okLoads_eq]; rfl)
    · have d4 : ¬ (m.length : Int) = 0 := by omega
      simp (maxDischargeDepth := 8) only [r9, b9t, c9_0, c9_1, c9_2, c9_3, c9_4, c9_5, e0, lA, lC, lm, c1, c2, d3, d4, RUN, Ed, knd, kndR, resV, binInt, mnmxV, mnmx2, fillL, unV, extractV, partV, loadAt, Nat.reduceAdd, Nat.reduceBEq, Nat.reduceEqDiff, Nat.reduceLT, Nat.reduceLeDiff, Nat.reduceMul, Nat.reduceSub, reduceIte, Int.reduceEq, Int.reduceNe, Int.reduceLT, Int.reduceLE, Int.reduceAdd, Int.reduceSub, Int.reduceMul, Int.reduceNeg, Int.reduceMod, Int.reduceDiv, Int.reduceTMod, Int.reduceTDiv, Int.reduceToNat, okChain_i, okLoads_nil, okLoads_in, okLoads_eq]
      exact Ok.mk _
def sh9 : List Sh := [.slice (.int .i64), .slice (.int .i64), .int .i64, .slice (.int .u8)]
theorem tears_law (H : Heap) (h : EH all7 H) (ls : List (List Value)) (o : OpnAll H sh9 ls) : Ok (D Tryd.prog hints 9 (argsS sh9 ls) H) := by
  obtain ⟨l0, _, rfl, h0, o⟩ := o.uncons
  obtain ⟨l1, _, rfl, h1, o⟩ := o.uncons
  obtain ⟨l2, _, rfl, h2, o⟩ := o.uncons
  obtain ⟨l3, _, rfl, h3, o⟩ := o.uncons
  cases o.unnil
  obtain ⟨ts, A, rfl, hA, wA⟩ := Opn_ints h0
  obtain ⟨cs, C, rfl, hC, wC'⟩ := Opn_ints h1
  simp only [Opn.eq_1] at h2
  obtain ⟨t, rfl, ht⟩ := h2
  obtain ⟨v, m, rfl, hv⟩ := Opn_bytes h3
  exact tears ts cs v A C m t H h hA hC wA wC' hv
end Go.Proofs.YtdipdpkdmiokeaaDoor.Sim
