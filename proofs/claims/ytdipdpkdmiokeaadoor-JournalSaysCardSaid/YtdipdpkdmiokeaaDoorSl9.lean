/- The bounds of a record. -/
import Derived.Test.YtdipdpkdmiokeaaDoorSl8
import Derived.Test.YtdipdpkdmiokeaaDoorSim21
namespace Go.Proofs.YtdipdpkdmiokeaaDoor.Sim
open Go Go.Proofs.YtdipdpkdmiokeaaDoor.CrcMath
set_option linter.unusedSimpArgs false
set_option linter.unusedVariables false
def t5 : RCode := (.seq (.region c5_20) (.seq (.region c5_21) .ret))
theorem b5t : b5 = (.seq (.region c5_0) (.seq (.region c5_1) (.seq (.seq (.region c5_2) (.cond (.tmp 16) (.seq (.region c5_3) .ret) .skip)) (.seq (.region c5_4) (.seq (.region c5_5) (.seq (.region c5_6) (.seq (.region c5_7) (.seq (.seq (.region c5_8) (.block 0 (.seq (.region c5_9) (.cond (.tmp 38) (.region c5_10) (.seq (.region c5_11) (.cond (.tmp 41) (.region c5_12) (.seq (.region c5_13) (.cond (.tmp 44) (.region c5_14) (.seq (.region c5_15) (.cond (.tmp 47) (.region c5_16) (.seq (.region c5_17) (.cond (.tmp 51) (.region c5_18) (.region c5_19))))))))))))) t5)))))))) := (rfl)
theorem key5 (R R' : Rec) (hb : good R' = false) (ρ : Fr) (F : Heap) (hE : EH all7 F) (a b c : Nat) (q5 : ρ 5 = .bool true) (q6 : ρ 6 = .pointer (some ⟨a, 0, none⟩)) (q8 : ρ 8 = .nilIface) (q9 : ρ 9 = .pointer (some ⟨b, 0, none⟩)) (q10 : ρ 10 = .nilIface) (q11 : ρ 11 = .pointer (some ⟨c, 0, none⟩)) (ka : live F a = some ⟨true, 26, R.L⟩) (kb : live F b = some ⟨true, 26, R.L⟩) (kc : live F c = some ⟨true, 26, R'.L⟩) : Ok (done [.tmp 4] (E Tryd.prog hints t5 ρ F)) := by
  obtain ⟨X1, e1⟩ := recBytes_bad R' hb F hE
  have ham : amiss R' = some 0 := if_neg (by rw [hb]; decide)
  obtain ⟨G, hG⟩ : ∃ G, G = F ++ X1 := ⟨_, rfl⟩
  rw [← hG] at e1
  have y1 : Ext F G := ⟨_, hG⟩
  have hE1 := hE.ext y1
  have ka' := y1.live ka
  have kb' := y1.live kb
  have kc' := y1.live kc
  have ia := live_ltG ka'
  have ib := live_ltG kb'
  have ic := live_ltG kc'
  have ic0 := live_ltG kc
  obtain ⟨Y2, f2⟩ := ex_rule (P := Tryd.prog) (hs := hints) (f := 19) (args := [.agg ⟨R.L⟩, .agg ⟨R.L⟩]) (v := .bool true) (Q := fun _ => True) (fun F _ => by
    have := sameRec_f R R F
    rw [decide_eq_true rfl] at this
    exact this)
  have f2' := fun F => f2 F trivial
  obtain ⟨Y3, f3⟩ := ex_rule (P := Tryd.prog) (hs := hints) (f := 18) (args := [EV (some 0), .int .i64 101]) (v := .bool true) (Q := fun F => EH all7 F) (fun F hF => by
    have := is_f (some 0) (by intro i h; cases h; omega) 101 F hF
    rw [show decide (cd (some 0) = 101) = true from rfl] at this
    exact this)
  obtain ⟨Y4, f4⟩ := ex_rule (P := Tryd.prog) (hs := hints) (f := 13) (args := [.agg ⟨R'.L⟩]) (v := EV (some 0)) (Q := fun F => EH all7 F) (fun F hF => by
    have := check_f R' F hF
    rw [ham] at this
    exact this)
  have hEZ : ∀ Z, EH all7 (G ++ Z) := fun Z => hE1.more Z
  simp only [EV] at f3 f4
  obtain ⟨s, m, l, a1, b1, c1, d1⟩ := R
  obtain ⟨s', m', l', a1', b1', c1', d1'⟩ := R'
  simp only [Rec.L] at ka' kb' kc' kc e1 f2' f4
  have lz : lenV false (.slice none 0 0) = some (.int .i64 0) := rfl
  simp (maxDischargeDepth := 8) only [t5, c5_0, c5_1, c5_2, c5_3, c5_4, c5_5, c5_6, c5_7, c5_8, c5_9, c5_10, c5_11, c5_12, c5_13, c5_14, c5_15, c5_16, c5_17, c5_18, c5_19, c5_20, c5_21, q5, q6, q8, q9, q10, q11, kc, ic0, e1, ka', kb', kc', ia, ib, ic, f2', f3, f4, hE1, hEZ, same_En, lz, RUN, Ed, knd, kndR, resV, binInt, mnmxV, mnmx2, fillL, unV, extractV, partV, loadAt, Nat.reduceAdd, Nat.reduceBEq, Nat.reduceEqDiff, Nat.reduceLT, Nat.reduceLeDiff, Nat.reduceMul, Nat.reduceSub, reduceIte, Int.reduceEq, Int.reduceNe, Int.reduceLT, Int.reduceLE, Int.reduceAdd, Int.reduceSub, Int.reduceMul, Int.reduceNeg, Int.reduceMod, Int.reduceDiv, Int.reduceTMod, Int.reduceTDiv, Int.reduceToNat, okChain_i, okLoads_nil, okLoads_in, okLoads_eq]
  exact Ok.mk _
theorem bounds (n s : Int) (s0 : 0 ≤ s) (s1 : s < 4294967296) (H : Heap) (hE : EH all7 H) : Ok (D Tryd.prog hints 5 [.int .i64 n, .int .u32 s] H) := by
  obtain ⟨X0, e0⟩ := first_f H hE
  obtain ⟨G0, hG0⟩ : ∃ G0, G0 = H ++ X0 := ⟨_, rfl⟩
  rw [← hG0] at e0
  have y0 : Ext H G0 := ⟨_, hG0⟩
  obtain ⟨m1, m2⟩ := mod2 n 6 (by omega) (by omega)
  obtain ⟨R, hR⟩ : ∃ R : Rec, R = ⟨s, 5, 2097151, 0, 1073741824, 1073741824, 1073741824⟩ := ⟨_, rfl⟩
  have gd : good R = true := good_iff.2 (by rw [hR]; simp only; omega)
  have wf : R.wf := by rw [hR]; exact ⟨s0, s1, by simp only; omega⟩
  have L1 : R.L = [Value.int .u32 s, .int .i64 5, .int .u32 2097151, .int .i64 0, .int .i64 1073741824, .int .i64 1073741824, .int .i64 1073741824] := by rw [hR]; rfl
  obtain ⟨G1, hG1⟩ : ∃ G1, G1 = G0 ++ [some ⟨true, 26, R.L⟩] := ⟨_, rfl⟩
  have y1 : Ext G0 G1 := ⟨_, hG1⟩
  have k1 : live G1 G0.length = some ⟨true, 26, R.L⟩ := by rw [hG1]; exact (live_app_len _ _).trans rfl
  have i1 := live_ltG k1
  have E1 := (hE.ext y0).ext y1
  obtain ⟨w, F1, e1, z1, b1⟩ := put_good R gd G1 E1
  obtain ⟨hc, hr⟩ := rdC_recB R wf gd
  obtain ⟨X2, e2⟩ := read_f w (recB R) (by rw [recB_len]; omega) F1 (E1.ext z1) b1.BS
  rw [hc, hr] at e2
  simp only [EV] at e2
  obtain ⟨F2, hF2⟩ : ∃ F2, F2 = F1 ++ X2 := ⟨_, rfl⟩
  rw [← hF2] at e2
  have z2 : Ext F1 F2 := ⟨_, hF2⟩
  obtain ⟨G3, hG3⟩ : ∃ G3, G3 = F2 ++ [some ⟨true, 26, R.L⟩] := ⟨_, rfl⟩
  have z3 : Ext F2 G3 := ⟨_, hG3⟩
  have k3 : live G3 G0.length = some ⟨true, 26, R.L⟩ := ((z1.trans z2).trans z3).live k1
  have i3 := live_ltG k3
  have k3' : live G3 F2.length = some ⟨true, 26, R.L⟩ := by rw [hG3]; exact (live_app_len _ _).trans rfl
  have E3 := ((E1.ext z1).ext z2).ext z3
  have key : ∀ (m l a b c d : Int), good ⟨s, m, l, a, b, c, d⟩ = false → ∀ ρ F, F = G3 ++ [some ⟨true, 26, [.int .u32 s, .int .i64 m, .int .u32 l, .int .i64 a, .int .i64 b, .int .i64 c, .int .i64 d]⟩] → ρ 5 = .bool true → ρ 6 = .pointer (some ⟨G0.length, 0, none⟩) → ρ 8 = .nilIface → ρ 9 = .pointer (some ⟨F2.length, 0, none⟩) → ρ 10 = .nilIface → ρ 11 = .pointer (some ⟨G3.length, 0, none⟩) → Ok (done [.tmp 4] (E Tryd.prog hints t5 ρ F)) := by
    intro m l a b c d hb ρ F hF q5 q6 q8 q9 q10 q11
    subst hF
    exact key5 R ⟨s, m, l, a, b, c, d⟩ hb ρ _ (E3.more _) _ _ _ q5 q6 q8 q9 q10 q11 ((Ext.more _ _).live k3) ((Ext.more _ _).live k3') ((live_app_len _ _).trans rfl)
  have hn0 := Int.emod_nonneg n (show (6 : Int) ≠ 0 by omega)
  have hn1 := Int.emod_lt_of_pos n (show (0 : Int) < 6 by omega)
  rw [L1] at hG1 k1 e1 hG3 k3 e2
  rw [D_eq p5 _ _ (Nat.le_of_ble_eq_true rfl)]
  have hcase : n % 6 = 0 ∨ n % 6 = 1 ∨ n % 6 = 2 ∨ n % 6 = 3 ∨ n % 6 = 4 ∨ n % 6 = 5 := by omega
  rcases hcase with h | h | h | h | h | h
  all_goals rw [h] at m2
  all_goals
    simp (maxDischargeDepth := 8) only [r5, b5t, c5_0, c5_1, c5_2, c5_3, c5_4, c5_5, c5_6, c5_7, c5_8, c5_9, c5_10, c5_11, c5_12, c5_13, c5_14, c5_15, c5_16, c5_17, c5_18, c5_19, e0, m1, m2, ← hG1, k1, i1, e1, e2, ← hG3, k3, i3, RUN, Ed, knd, kndR, resV, binInt, mnmxV, mnmx2, fillL, unV, lenV, extractV, partV, loadAt, Nat.reduceAdd, Nat.reduceBEq, Nat.reduceEqDiff, Nat.reduceLT, Nat.reduceLeDiff, Nat.reduceMul, Nat.reduceSub, reduceIte, Int.reduceEq, Int.reduceNe, Int.reduceLT, Int.reduceLE, Int.reduceAdd, Int.reduceSub, Int.reduceMul, Int.reduceNeg, Int.reduceMod, Int.reduceDiv, Int.reduceTMod, Int.reduceTDiv, Int.reduceToNat, okChain_i, okLoads_nil, okLoads_in, okLoads_eq]
  · refine key 0 2097151 0 1073741824 1073741824 1073741824 rfl _ _ rfl ?_ ?_ ?_ ?_ ?_ ?_
    all_goals first | (simp (maxDischargeDepth := 8) only [RUN, Ed, knd, kndR, resV, binInt, mnmxV, mnmx2, fillL, unV, lenV, extractV, partV, loadAt, Nat.reduceAdd, Nat.reduceBEq, Nat.reduceEqDiff, Nat.reduceLT, Nat.reduceLeDiff, Nat.reduceMul, Nat.reduceSub, reduceIte, Int.reduceEq, Int.reduceNe, Int.reduceLT, Int.reduceLE, Int.reduceAdd, Int.reduceSub, Int.reduceMul, Int.reduceNeg, Int.reduceMod, Int.reduceDiv, Int.reduceTMod, Int.reduceTDiv, Int.reduceToNat, okChain_i, okLoads_nil, okLoads_in, okLoads_eq]; done) | (simp (maxDischargeDepth := 8) only [RUN, Ed, knd, kndR, resV, binInt, mnmxV, mnmx2, fillL, unV, lenV, extractV, partV, loadAt, Nat.reduceAdd, Nat.reduceBEq, Nat.reduceEqDiff, Nat.reduceLT, Nat.reduceLeDiff, Nat.reduceMul, Nat.reduceSub, reduceIte, Int.reduceEq, Int.reduceNe, Int.reduceLT, Int.reduceLE, Int.reduceAdd, Int.reduceSub, Int.reduceMul, Int.reduceNeg, Int.reduceMod, Int.reduceDiv, Int.reduceTMod, Int.reduceTDiv, Int.reduceToNat, okChain_i, okLoads_nil, okLoads_in, okLoads_eq]; rfl)
  · refine key 6 2097151 0 1073741824 1073741824 1073741824 rfl _ _ rfl ?_ ?_ ?_ ?_ ?_ ?_
    all_goals first | (simp (maxDischargeDepth := 8) only [RUN, Ed, knd, kndR, resV, binInt, mnmxV, mnmx2, fillL, unV, lenV, extractV, partV, loadAt, Nat.reduceAdd, Nat.reduceBEq, Nat.reduceEqDiff, Nat.reduceLT, Nat.reduceLeDiff, Nat.reduceMul, Nat.reduceSub, reduceIte, Int.reduceEq, Int.reduceNe, Int.reduceLT, Int.reduceLE, Int.reduceAdd, Int.reduceSub, Int.reduceMul, Int.reduceNeg, Int.reduceMod, Int.reduceDiv, Int.reduceTMod, Int.reduceTDiv, Int.reduceToNat, okChain_i, okLoads_nil, okLoads_in, okLoads_eq]; done) | (simp (maxDischargeDepth := 8) only [RUN, Ed, knd, kndR, resV, binInt, mnmxV, mnmx2, fillL, unV, lenV, extractV, partV, loadAt, Nat.reduceAdd, Nat.reduceBEq, Nat.reduceEqDiff, Nat.reduceLT, Nat.reduceLeDiff, Nat.reduceMul, Nat.reduceSub, reduceIte, Int.reduceEq, Int.reduceNe, Int.reduceLT, Int.reduceLE, Int.reduceAdd, Int.reduceSub, Int.reduceMul, Int.reduceNeg, Int.reduceMod, Int.reduceDiv, Int.reduceTMod, Int.reduceTDiv, Int.reduceToNat, okChain_i, okLoads_nil, okLoads_in, okLoads_eq]; rfl)
  · refine key 5 2097152 0 1073741824 1073741824 1073741824 rfl _ _ rfl ?_ ?_ ?_ ?_ ?_ ?_
    all_goals first | (simp (maxDischargeDepth := 8) only [RUN, Ed, knd, kndR, resV, binInt, mnmxV, mnmx2, fillL, unV, lenV, extractV, partV, loadAt, Nat.reduceAdd, Nat.reduceBEq, Nat.reduceEqDiff, Nat.reduceLT, Nat.reduceLeDiff, Nat.reduceMul, Nat.reduceSub, reduceIte, Int.reduceEq, Int.reduceNe, Int.reduceLT, Int.reduceLE, Int.reduceAdd, Int.reduceSub, Int.reduceMul, Int.reduceNeg, Int.reduceMod, Int.reduceDiv, Int.reduceTMod, Int.reduceTDiv, Int.reduceToNat, okChain_i, okLoads_nil, okLoads_in, okLoads_eq]; done) | (simp (maxDischargeDepth := 8) only [RUN, Ed, knd, kndR, resV, binInt, mnmxV, mnmx2, fillL, unV, lenV, extractV, partV, loadAt, Nat.reduceAdd, Nat.reduceBEq, Nat.reduceEqDiff, Nat.reduceLT, Nat.reduceLeDiff, Nat.reduceMul, Nat.reduceSub, reduceIte, Int.reduceEq, Int.reduceNe, Int.reduceLT, Int.reduceLE, Int.reduceAdd, Int.reduceSub, Int.reduceMul, Int.reduceNeg, Int.reduceMod, Int.reduceDiv, Int.reduceTMod, Int.reduceTDiv, Int.reduceToNat, okChain_i, okLoads_nil, okLoads_in, okLoads_eq]; rfl)
  · refine key 5 2097151 (-1) 1073741824 1073741824 1073741824 rfl _ _ rfl ?_ ?_ ?_ ?_ ?_ ?_
    all_goals first | (simp (maxDischargeDepth := 8) only [RUN, Ed, knd, kndR, resV, binInt, mnmxV, mnmx2, fillL, unV, lenV, extractV, partV, loadAt, Nat.reduceAdd, Nat.reduceBEq, Nat.reduceEqDiff, Nat.reduceLT, Nat.reduceLeDiff, Nat.reduceMul, Nat.reduceSub, reduceIte, Int.reduceEq, Int.reduceNe, Int.reduceLT, Int.reduceLE, Int.reduceAdd, Int.reduceSub, Int.reduceMul, Int.reduceNeg, Int.reduceMod, Int.reduceDiv, Int.reduceTMod, Int.reduceTDiv, Int.reduceToNat, okChain_i, okLoads_nil, okLoads_in, okLoads_eq]; done) | (simp (maxDischargeDepth := 8) only [RUN, Ed, knd, kndR, resV, binInt, mnmxV, mnmx2, fillL, unV, lenV, extractV, partV, loadAt, Nat.reduceAdd, Nat.reduceBEq, Nat.reduceEqDiff, Nat.reduceLT, Nat.reduceLeDiff, Nat.reduceMul, Nat.reduceSub, reduceIte, Int.reduceEq, Int.reduceNe, Int.reduceLT, Int.reduceLE, Int.reduceAdd, Int.reduceSub, Int.reduceMul, Int.reduceNeg, Int.reduceMod, Int.reduceDiv, Int.reduceTMod, Int.reduceTDiv, Int.reduceToNat, okChain_i, okLoads_nil, okLoads_in, okLoads_eq]; rfl)
  · refine key 5 2097151 0 1073741824 1073741824 1073741825 rfl _ _ rfl ?_ ?_ ?_ ?_ ?_ ?_
    all_goals first | (simp (maxDischargeDepth := 8) only [RUN, Ed, knd, kndR, resV, binInt, mnmxV, mnmx2, fillL, unV, lenV, extractV, partV, loadAt, Nat.reduceAdd, Nat.reduceBEq, Nat.reduceEqDiff, Nat.reduceLT, Nat.reduceLeDiff, Nat.reduceMul, Nat.reduceSub, reduceIte, Int.reduceEq, Int.reduceNe, Int.reduceLT, Int.reduceLE, Int.reduceAdd, Int.reduceSub, Int.reduceMul, Int.reduceNeg, Int.reduceMod, Int.reduceDiv, Int.reduceTMod, Int.reduceTDiv, Int.reduceToNat, okChain_i, okLoads_nil, okLoads_in, okLoads_eq]; done) | (simp (maxDischargeDepth := 8) only [RUN, Ed, knd, kndR, resV, binInt, mnmxV, mnmx2, fillL, unV, lenV, extractV, partV, loadAt, Nat.reduceAdd, Nat.reduceBEq, Nat.reduceEqDiff, Nat.reduceLT, Nat.reduceLeDiff, Nat.reduceMul, Nat.reduceSub, reduceIte, Int.reduceEq, Int.reduceNe, Int.reduceLT, Int.reduceLE, Int.reduceAdd, Int.reduceSub, Int.reduceMul, Int.reduceNeg, Int.reduceMod, Int.reduceDiv, Int.reduceTMod, Int.reduceTDiv, Int.reduceToNat, okChain_i, okLoads_nil, okLoads_in, okLoads_eq]; rfl)
  · refine key 5 2097151 0 1073741824 1073741824 1073741823 rfl _ _ rfl ?_ ?_ ?_ ?_ ?_ ?_
    all_goals first | (simp (maxDischargeDepth := 8) only [RUN, Ed, knd, kndR, resV, binInt, mnmxV, mnmx2, fillL, unV, lenV, extractV, partV, loadAt, Nat.reduceAdd, Nat.reduceBEq, Nat.reduceEqDiff, Nat.reduceLT, Nat.reduceLeDiff, Nat.reduceMul, Nat.reduceSub, reduceIte, Int.reduceEq, Int.reduceNe, Int.reduceLT, Int.reduceLE, Int.reduceAdd, Int.reduceSub, Int.reduceMul, Int.reduceNeg, Int.reduceMod, Int.reduceDiv, Int.reduceTMod, Int.reduceTDiv, Int.reduceToNat, okChain_i, okLoads_nil, okLoads_in, okLoads_eq]; done) | (simp (maxDischargeDepth := 8) only [RUN, Ed, knd, kndR, resV, binInt, mnmxV, mnmx2, fillL, unV, lenV, extractV, partV, loadAt, Nat.reduceAdd, Nat.reduceBEq, Nat.reduceEqDiff, Nat.reduceLT, Nat.reduceLeDiff, Nat.reduceMul, Nat.reduceSub, reduceIte, Int.reduceEq, Int.reduceNe, Int.reduceLT, Int.reduceLE, Int.reduceAdd, Int.reduceSub, Int.reduceMul, Int.reduceNeg, Int.reduceMod, Int.reduceDiv, Int.reduceTMod, Int.reduceTDiv, Int.reduceToNat, okChain_i, okLoads_nil, okLoads_in, okLoads_eq]; rfl)
def sh5 : List Sh := [.int .i64, .int .u32]
theorem bounds_law (H : Heap) (h : EH all7 H) (ls : List (List Value)) (o : OpnAll H sh5 ls) : Ok (D Tryd.prog hints 5 (argsS sh5 ls) H) := by
  obtain ⟨l0, _, rfl, h0, o⟩ := o.uncons
  obtain ⟨l1, _, rfl, h1, o⟩ := o.uncons
  cases o.unnil
  simp only [Opn.eq_1] at h0 h1
  obtain ⟨a, rfl, ha⟩ := h0
  obtain ⟨b, rfl, hb⟩ := h1
  exact bounds a b (wfu32 hb).1 (wfu32 hb).2 H h
end Go.Proofs.YtdipdpkdmiokeaaDoor.Sim
