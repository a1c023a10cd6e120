/- The stage theorem of records. -/
import Derived.Test.YtdipdpkdmiokeaaDoorSl5
import Derived.Test.YtdipdpkdmiokeaaDoorSim21
namespace Go.Proofs.YtdipdpkdmiokeaaDoor.Sim
open Go Go.Proofs.YtdipdpkdmiokeaaDoor.CrcMath
set_option linter.unusedSimpArgs false
set_option linter.unusedVariables false
theorem Opn_bytes {H : Heap} {l : List Value} (h : Opn H (.slice (.int .u8)) l) : ∃ (v : Value) (m : List B8), l = [v] ∧ BS H v (m.map w8) := by
  simp only [Opn] at h
  obtain ⟨i, x, ty, L, rfl, hl, hc, hm⟩ := h
  obtain ⟨M, rfl, hM⟩ := rows_map (fun a : Int => [Value.int .u8 a]) (fun a => (Lit.int .u8 a).wf = true) L hc
  have hf : (M.map (fun a : Int => [Value.int .u8 a])).flatten = bL M := by
    unfold bL
    clear hM hm hc hl
    induction M with
    | nil => rfl
    | cons a M ih => simp [ih]
  rw [hf] at hm
  rw [List.length_map] at hm ⊢
  obtain ⟨m, rfl⟩ := wf8s M hM
  refine ⟨_, m, rfl, ?_⟩
  unfold argV
  by_cases h0 : (m.map w8).length = 0
  · rw [if_pos h0]
    exact .inl ⟨List.eq_nil_of_length_eq_zero h0, x, rfl⟩
  · rw [if_neg h0]
    exact BS.of (hm (by omega))
theorem Opn_rec {H : Heap} {l : List Value} (h : Opn H (.agg ((.cons (.int .u32) (.cons (.int .i64) (.cons (.int .u32) (.cons (.agg ((.cons (.int .i64) (.cons (.int .i64) .nil)))) (.cons (.agg ((.cons (.int .i64) (.cons (.int .i64) .nil)))) .nil))))))) l) : ∃ r : Rec, l = r.L := by
  simp only [Opn, OpnL] at h
  obtain ⟨_, _, rfl, ⟨s, rfl, _⟩, _, _, rfl, ⟨m, rfl, _⟩, _, _, rfl, ⟨k, rfl, _⟩, _, _, rfl, ⟨_, _, rfl, ⟨a, rfl, _⟩, _, _, rfl, ⟨b, rfl, _⟩, rfl⟩, _, _, rfl, ⟨_, _, rfl, ⟨c, rfl, _⟩, _, _, rfl, ⟨d, rfl, _⟩, rfl⟩, rfl⟩ := h
  exact ⟨⟨s, m, k, a, b, c, d⟩, rfl⟩
theorem EV_lt (m : List B8) : ∀ i, rdC m = some i → i < 7 := rdC_lt m
def t3 : RCode := (.seq (.seq (.region c3_12) (.cond (.tmp 55) (.seq (.region c3_13) .ret) .skip)) (.seq (.region c3_14) .ret))
theorem b3t : b3 = (.seq (.region c3_0) (.seq (.region c3_1) (.seq (.seq (.region c3_2) (.cond (.tmp 15) (.seq (.region c3_3) .ret) .skip)) (.seq (.seq (.region c3_4) (.cond (.tmp 18) (.seq (.region c3_5) .ret) .skip)) (.seq (.region c3_6) (.seq (.region c3_7) (.seq (.region c3_8) (.seq (.region c3_9) (.seq (.seq (.draw c3_10) (.cond (.tmp 53) (.seq (.region c3_11) .ret) .skip)) t3))))))))) := (rfl)
theorem says (r : Rec) (v : Value) (m : List B8) (H : Heap) (hE : EH all7 H) (hB : BS H v (m.map w8)) : Ok (D Tryd.prog hints 3 [.agg ⟨r.L⟩, v] H) := by
  obtain ⟨H1, hH1⟩ : ∃ H1, H1 = H ++ [some ⟨true, 26, r.L⟩] := ⟨_, rfl⟩
  have x1 : Ext H H1 := ⟨_, hH1⟩
  have k1 : live H1 H.length = some ⟨true, 26, r.L⟩ := by rw [hH1]; exact (live_app_len _ _).trans rfl
  obtain ⟨X0, e0⟩ := first_f H1 (hE.ext x1)
  obtain ⟨G0, hG0⟩ : ∃ G0, G0 = H1 ++ X0 := ⟨_, rfl⟩
  rw [← hG0] at e0
  have x2 : Ext H1 G0 := ⟨_, hG0⟩
  have E0 := (hE.ext x1).ext x2
  have B0 := (hB.ext x1).ext x2
  have k0 := x2.live k1
  have i0 := live_ltG k0
  have l1 := B0.len
  rw [List.length_map] at l1
  have q3 : D Tryd.prog hints 3 [.agg ⟨r.L⟩, v] H = done r3.res (E Tryd.prog hints r3.body (frame0 [.agg ⟨r.L⟩, v]) H) := D_eq p3 _ _ (Nat.le_of_ble_eq_true rfl)
  rw [q3]
  have hL : r.L = [.int .u32 r.s, .int .i64 r.m, .int .u32 r.l, .int .i64 r.a, .int .i64 r.b, .int .i64 r.c, .int .i64 r.d] := rfl
  by_cases h1 : (100 : Int) < (m.length : Int)
  · rw [hL] at hH1
    simp (maxDischargeDepth := 8) only [r3, b3, c3_0, c3_1, c3_2, c3_3, c3_4, c3_5, c3_6, c3_7, c3_8, c3_9, c3_10, c3_11, c3_12, c3_13, c3_14, hL, ← hH1, e0, l1, h1, RUN, Ed, knd, kndR, resV, binInt, mnmxV, mnmx2, fillL, unV, extractV, partV, loadAt, Nat.reduceAdd, Nat.reduceBEq, Nat.reduceEqDiff, Nat.reduceLT, Nat.reduceLeDiff, Nat.reduceMul, Nat.reduceSub, reduceIte, Int.reduceEq, Int.reduceNe, Int.reduceLT, Int.reduceLE, Int.reduceAdd, Int.reduceSub, Int.reduceMul, Int.reduceNeg, Int.reduceMod, Int.reduceDiv, Int.reduceTMod, Int.reduceTDiv, Int.reduceToNat, okChain_i, okLoads_nil, okLoads_in, okLoads_eq]
    exact Ok.mk _
  obtain ⟨X1, e1⟩ := check_f r G0 E0
  obtain ⟨G1, hG1⟩ : ∃ G1, G1 = G0 ++ X1 := ⟨_, rfl⟩
  rw [← hG1] at e1
  have y1 : Ext G0 G1 := ⟨_, hG1⟩
  have kG1 := y1.live k0
  have iG1 := live_ltG kG1
  have finish : ∀ (w : Value) (e : Option Nat) (F : Heap), D Tryd.prog hints 14 [.agg ⟨r.L⟩] G1 = some (.tuple ⟨[w, EV e]⟩, F) → Ext G1 F → e = amiss r → (∀ F', Ext F F' → (good r = true → BS F' w ((recB r).map w8)) ∧ (good r = false → w = .slice none 0 0)) → Ok (done r3.res (E Tryd.prog hints r3.body (frame0 [.agg ⟨r.L⟩, v]) H)) := by
    intro w e F ew yF he hw
    subst he
    obtain ⟨X3, e3⟩ := read_f v m (by omega) F (E0.ext (y1.trans yF)) (B0.ext (y1.trans yF))
    obtain ⟨G3, hG3⟩ : ∃ G3, G3 = (F ++ X3) ++ [some ⟨true, 26, (rdR m).L⟩] := ⟨_, rfl⟩
    have y3 : Ext F G3 := by rw [hG3]; exact (Ext.more _ _).app _
    obtain ⟨X4, e4⟩ := read2_f v m (by omega) G3 (B0.ext ((y1.trans yF).trans y3))
    obtain ⟨G4, hG4⟩ : ∃ G4, G4 = (G3 ++ X4) ++ [some ⟨true, 26, (rdR m).L⟩] := ⟨_, rfl⟩
    have y4 : Ext G3 G4 := by rw [hG4]; exact (Ext.more _ _).app _
    have z4 : Ext G0 G4 := ((y1.trans yF).trans y3).trans y4
    have k4 := z4.live k0
    have i4 := live_ltG k4
    have k9 : live G4 (F.length + X3.length) = some ⟨true, 26, (rdR m).L⟩ := y4.live (by rw [hG3]; rw [show F.length + X3.length = (F ++ X3).length by simp]; exact (live_app_len _ _).trans rfl)
    have i9 := live_ltG k9
    have k11 : live G4 (G3.length + X4.length) = some ⟨true, 26, (rdR m).L⟩ := by rw [hG4, show G3.length + X4.length = (G3 ++ X4).length by simp]; exact (live_app_len _ _).trans rfl
    have i11 := live_ltG k11
    obtain ⟨Y1, f1⟩ := ex_rule (P := Tryd.prog) (hs := hints) (f := 17) (args := [.agg ⟨r.L⟩]) (v := .bool (good r)) (Q := fun _ => True) (fun F _ => goodR_f r F)
    obtain ⟨Y2, f2⟩ := ex_rule (P := Tryd.prog) (hs := hints) (f := 18) (args := [EV (rdC m), .int .i64 (cd (rdC m))]) (v := .bool true) (Q := fun F => EH all7 F) (fun F hF => by
      have := is_f (rdC m) (rdC_lt m) (cd (rdC m)) F hF
      rw [decide_eq_true rfl] at this
      exact this)
    obtain ⟨Y3, f3⟩ := ex_rule (P := Tryd.prog) (hs := hints) (f := 19) (args := [.agg ⟨(rdR m).L⟩, .agg ⟨(rdR m).L⟩]) (v := .bool true) (Q := fun _ => True) (fun F _ => by
      have := sameRec_f (rdR m) (rdR m) F
      rw [decide_eq_true rfl] at this
      exact this)
    obtain ⟨Y4, f4⟩ := ex_rule (P := Tryd.prog) (hs := hints) (f := 18) (args := [EV (some 0), .int .i64 101]) (v := .bool true) (Q := fun F => EH all7 F) (fun F hF => by
      have := is_f (some 0) (by intro i h; cases h; omega) 101 F hF
      rw [show decide (cd (some 0) = 101) = true from rfl] at this
      exact this)
    have E4 := E0.ext z4
    have hEa : ∀ Z, EH all7 (G4 ++ Z) := fun Z => E4.more Z
    have hEm : ∀ n b, EH all7 (maskOf G4 n b) := fun n b => E4.more _
    generalize rdC m = rc at *
    generalize rdR m = R at *
    obtain ⟨s1, m1, l1', a1, b1, c1, d1⟩ := R
    have key : ∀ ρ1 F1, ρ1 2 = .pointer (some ⟨H.length, 0, none⟩) → ρ1 5 = .bool true → ρ1 6 = EV (amiss r) → ρ1 7 = w → ρ1 8 = EV (amiss r) → (∃ Z, F1 = G4 ++ Z) → Ok (done [.tmp 4] (E Tryd.prog hints t3 ρ1 F1)) := by
      intro ρ1 F1 z2 z5 z6 z7 z8 hF1
      have yF1 : Ext G4 F1 := hF1
      have kF := yF1.live k4
      have iF := live_ltG kF
      have EF := E4.ext yF1
      have hEF : ∀ Z, EH all7 (F1 ++ Z) := fun Z => EF.more Z
      rw [hL] at kF
      cases hg : good r with
      | true =>
        have ham : amiss r = none := if_pos hg
        rw [ham] at z6 z8
        simp only [EV] at z6 z8
        obtain ⟨w2, F2, g1, yF2, hb2⟩ := recBytes2_f r F1
        have hbw := (hw F2 ((y3.trans y4).trans (yF1.trans yF2))).1 hg
        have g2 := sameBytes_f F2 w w2 _ _ hbw hb2.BS (by rw [List.length_map, recB_len]; omega)
        rw [decide_eq_true rfl] at g2
        simp only [K] at g2
        rw [hL] at g1
        simp (maxDischargeDepth := 8) only [t3, c3_0, c3_1, c3_2, c3_3, c3_4, c3_5, c3_6, c3_7, c3_8, c3_9, c3_10, c3_11, c3_12, c3_13, c3_14, z2, z5, z6, z7, z8, kF, iF, g1, g2, RUN, Ed, knd, kndR, resV, binInt, mnmxV, mnmx2, fillL, unV, lenV, extractV, partV, loadAt, Nat.reduceAdd, Nat.reduceBEq, Nat.reduceEqDiff, Nat.reduceLT, Nat.reduceLeDiff, Nat.reduceMul, Nat.reduceSub, reduceIte, Int.reduceEq, Int.reduceNe, Int.reduceLT, Int.reduceLE, Int.reduceAdd, Int.reduceSub, Int.reduceMul, Int.reduceNeg, Int.reduceMod, Int.reduceDiv, Int.reduceTMod, Int.reduceTDiv, Int.reduceToNat, okChain_i, okLoads_nil, okLoads_in, okLoads_eq]
        exact Ok.mk _
      | false =>
        have ham : amiss r = some 0 := if_neg (by rw [hg]; decide)
        rw [ham] at z6 z8
        have hw0 := (hw F (Ext.refl F)).2 hg
        subst hw0
        simp only [EV] at z6 z8 f4
        have lz : lenV false (.slice none 0 0) = some (.int .i64 0) := rfl
        simp (maxDischargeDepth := 8) only [t3, c3_0, c3_1, c3_2, c3_3, c3_4, c3_5, c3_6, c3_7, c3_8, c3_9, c3_10, c3_11, c3_12, c3_13, c3_14, z2, z5, z6, z7, z8, same_En, f4, EF, hEF, lz, RUN, Ed, knd, kndR, resV, binInt, mnmxV, mnmx2, fillL, unV, extractV, partV, loadAt, Nat.reduceAdd, Nat.reduceBEq, Nat.reduceEqDiff, Nat.reduceLT, Nat.reduceLeDiff, Nat.reduceMul, Nat.reduceSub, reduceIte, Int.reduceEq, Int.reduceNe, Int.reduceLT, Int.reduceLE, Int.reduceAdd, Int.reduceSub, Int.reduceMul, Int.reduceNeg, Int.reduceMod, Int.reduceDiv, Int.reduceTMod, Int.reduceTDiv, Int.reduceToNat, okChain_i, okLoads_nil, okLoads_in, okLoads_eq]
        exact Ok.mk _
    simp only [Rec.L] at hH1 k0 kG1 e1 ew e3 e4 hG3 hG4 k4 k9 k11 f1 f3
    rw [List.append_assoc] at hG3 hG4
    have hbb : ((amiss r).isNone == good r) = true := by
      unfold amiss
      cases good r <;> rfl
    have f1' := fun F => f1 F trivial
    have f3' := fun F => f3 F trivial
    simp (maxDischargeDepth := 8) only [r3, b3t, c3_0, c3_1, c3_2, c3_3, c3_4, c3_5, c3_6, c3_7, c3_8, c3_9, c3_10, c3_11, hL, ← hH1, e0, l1, h1, k0, i0, e1, kG1, iG1, ew, e3, ← hG3, e4, ← hG4, k4, i4, k9, i9, k11, i11, one_EV, cells_EV, same_EV, f1', f2, f3', E4, hEa, hEm, hbb, fullOf_appG, fullOf_mapG, List.length_map, RUN, Ed, knd, kndR, resV, binInt, mnmxV, mnmx2, fillL, unV, extractV, partV, loadAt, Nat.reduceAdd, Nat.reduceBEq, Nat.reduceEqDiff, Nat.reduceLT, Nat.reduceLeDiff, Nat.reduceMul, Nat.reduceSub, reduceIte, Int.reduceEq, Int.reduceNe, Int.reduceLT, Int.reduceLE, Int.reduceAdd, Int.reduceSub, Int.reduceMul, Int.reduceNeg, Int.reduceMod, Int.reduceDiv, Int.reduceTMod, Int.reduceTDiv, Int.reduceToNat, okChain_i, okLoads_nil, okLoads_in, okLoads_eq]
    refine key _ _ ?_ ?_ ?_ ?_ ?_ ⟨_, rfl⟩
    all_goals first | (simp (maxDischargeDepth := 8) only [RUN, Ed, knd, kndR, resV, binInt, mnmxV, mnmx2, fillL, unV, lenV, extractV, partV, loadAt, Nat.reduceAdd, Nat.reduceBEq, Nat.reduceEqDiff, Nat.reduceLT, Nat.reduceLeDiff, Nat.reduceMul, Nat.reduceSub, reduceIte, Int.reduceEq, Int.reduceNe, Int.reduceLT, Int.reduceLE, Int.reduceAdd, Int.reduceSub, Int.reduceMul, Int.reduceNeg, Int.reduceMod, Int.reduceDiv, Int.reduceTMod, Int.reduceTDiv, Int.reduceToNat, okChain_i, okLoads_nil, okLoads_in, okLoads_eq]; done) | (simp (maxDischargeDepth := 8) only [RUN, Ed, knd, kndR, resV, binInt, mnmxV, mnmx2, fillL, unV, lenV, extractV, partV, loadAt, Nat.reduceAdd, Nat.reduceBEq, Nat.reduceEqDiff, Nat.reduceLT, Nat.reduceLeDiff, Nat.reduceMul, Nat.reduceSub, reduceIte, Int.reduceEq, Int.reduceNe, Int.reduceLT, Int.reduceLE, Int.reduceAdd, Int.reduceSub, Int.reduceMul, Int.reduceNeg, Int.reduceMod, Int.reduceDiv, Int.reduceTMod, Int.reduceTDiv, Int.reduceToNat, okChain_i, okLoads_nil, okLoads_in, okLoads_eq]; rfl)
  cases hg : good r with
  | true =>
    have ham : amiss r = none := if_pos hg
    obtain ⟨w, F, ew, yF, hb⟩ := recBytes_f r hg G1 (E0.ext y1)
    exact finish w none F ew yF ham.symm (fun F' hF' => ⟨fun _ => (hb.ext hF').BS, fun h => by rw [hg] at h; cases h⟩)
  | false =>
    have ham : amiss r = some 0 := if_neg (by rw [hg]; decide)
    obtain ⟨X, ew⟩ := recBytes_bad r hg G1 (E0.ext y1)
    exact finish _ (some 0) _ ew (Ext.more _ _) ham.symm (fun F' hF' => ⟨fun h => (by rw [hg] at h; cases h), fun _ => rfl⟩)
def sh3 : List Sh := [.agg ((.cons (.int .u32) (.cons (.int .i64) (.cons (.int .u32) (.cons (.agg ((.cons (.int .i64) (.cons (.int .i64) .nil)))) (.cons (.agg ((.cons (.int .i64) (.cons (.int .i64) .nil)))) .nil)))))), .slice (.int .u8)]
theorem says_law (H : Heap) (h : EH all7 H) (ls : List (List Value)) (o : OpnAll H sh3 ls) : Ok (D Tryd.prog hints 3 (argsS sh3 ls) H) := by
  obtain ⟨l0, _, rfl, h0, o⟩ := o.uncons
  obtain ⟨l1, _, rfl, h1, o⟩ := o.uncons
  cases o.unnil
  obtain ⟨r, rfl⟩ := Opn_rec h0
  obtain ⟨v, m, rfl, hv⟩ := Opn_bytes h1
  exact says r v m H h hv
end Go.Proofs.YtdipdpkdmiokeaaDoor.Sim
