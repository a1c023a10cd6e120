/- The laws of chapter 6: what came in; the stage theorem. -/
import Derived.Test.YtoknmodbdlfdmaaDoorFr7
import Derived.Test.YtoknmodbdlfdmaaDoorSim21
namespace Go.Proofs.YtoknmodbdlfdmaaDoor.Sim
open Go Go.Proofs.YtoknmodbdlfdmaaDoor.CrcMath
set_option linter.unusedSimpArgs false
set_option linter.unusedVariables false
theorem EH.ext {on : Nat → Bool} {H G : Heap} (h : EH on H) (e : Ext H G) : EH on G := fun i hi ho => by obtain ⟨ty, x⟩ := h i hi ho; exact ⟨ty, e.live x⟩
theorem Opn_bytes {H : Heap} {l : List Value} (h : Opn H (.slice (.int .u8)) l) : ∃ (v : Value) (m : List B8), l = [v] ∧ BW H v (m.map w8) := by
  simp only [Opn] at h
  obtain ⟨i, x, ty, L, rfl, hl, hc, hm⟩ := h
  obtain ⟨M, rfl, hM⟩ := rows_map (fun a : Int => [Value.int .u8 a]) (fun a => (Lit.int .u8 a).wf = true) L hc
  have hf : (M.map (fun a : Int => [Value.int .u8 a])).flatten = bL M := by
    unfold bL
    clear hM hm hc hl
    induction M with
    | nil => rfl
    | cons a M ih => simp [ih]
  rw [hf] at hm
  rw [List.length_map] at hm ⊢
  obtain ⟨m, rfl⟩ := wf8s M hM
  refine ⟨_, m, rfl, ?_⟩
  unfold argV
  by_cases h0 : (m.map w8).length = 0
  · rw [if_pos h0]
    exact .inl ⟨List.eq_nil_of_length_eq_zero h0, x, rfl⟩
  · rw [if_neg h0]
    refine .inr ⟨i, 0, 0, false, ty, bL (m.map w8), rfl, hm (by omega), .inl rfl, by rw [bL_len]; omega, fun j a ha => ?_⟩
    rw [Nat.zero_add]; unfold bL; rw [List.getElem?_map, ha]; rfl
theorem Opn_frame {H : Heap} {l : List Value} (h : Opn H (.agg ((.cons (.int .u8) (.cons (.int .u8) (.cons (.slice (.int .u8)) .nil))))) l) : ∃ f v, l = frL f v ∧ BW H v (f.2.2.map w8) := by
  simp only [Opn.eq_4, OpnL] at h
  obtain ⟨_, _, rfl, h1, _, _, rfl, h2, _, _, rfl, h3, rfl⟩ := h
  simp only [Opn.eq_1] at h1 h2
  obtain ⟨a, rfl, ha⟩ := h1
  obtain ⟨b, rfl, hb⟩ := h2
  obtain ⟨x, rfl⟩ := wf8 a ha
  obtain ⟨y, rfl⟩ := wf8 b hb
  obtain ⟨v, m, rfl, hm⟩ := Opn_bytes h3
  exact ⟨(x, y, m), v, rfl, hm⟩
theorem Opn_frames {H : Heap} {l : List Value} (h : Opn H (.slice (.agg ((.cons (.int .u8) (.cons (.int .u8) (.cons (.slice (.int .u8)) .nil)))))) l) : ∃ v L, l = [v] ∧ FS H v L := by
  simp only [Opn.eq_5] at h
  obtain ⟨i, x, ty, L, rfl, hl, hc, hm⟩ := h
  have key : ∀ (L : List (List Value)), (∀ c ∈ L, Opn H (.agg ((.cons (.int .u8) (.cons (.int .u8) (.cons (.slice (.int .u8)) .nil))))) c) → ∃ Fs, FCs H L.flatten Fs ∧ Fs.length = L.length := by
    intro L
    induction L with
    | nil => intro _; exact ⟨[], rfl, rfl⟩
    | cons c L ih =>
      intro hc
      obtain ⟨Fs, h1, h2⟩ := ih fun d hd => hc d (by simp [hd])
      obtain ⟨f, v, h3, h4⟩ := Opn_frame (hc c (by simp))
      exact ⟨f :: Fs, ⟨c, L.flatten, by simp, ⟨v, h3, h4⟩, h1⟩, by simp [h2]⟩
  obtain ⟨Fs, h1, h2⟩ := key L hc
  refine ⟨_, Fs, rfl, ?_⟩
  unfold argV
  by_cases h0 : L.length = 0
  · rw [if_pos h0]
    exact .inl ⟨List.eq_nil_of_length_eq_zero (by omega), x, rfl⟩
  · rw [if_neg h0]
    refine .inr ⟨i, 0, false, ty, L.flatten, ?_, hm (by omega), h1⟩
    rw [h2]
theorem says (f : Fra) (v u : Value) (m : List B8) (H : Heap) (hE : EH all7 H) (hv : BS H v (f.2.2.map w8)) (hu : BS H u (m.map w8)) : Ok (D Tryd.prog hints 3 [.agg ⟨frL f v⟩, u] H) := by
  obtain ⟨H1, hH1⟩ : ∃ H1, H1 = H ++ [some ⟨true, 24, frL f v⟩] := ⟨_, rfl⟩
  have x1 : Ext H H1 := ⟨_, hH1⟩
  have k1 : live H1 H.length = some ⟨true, 24, frL f v⟩ := by rw [hH1]; exact (live_app_len _ _).trans rfl
  obtain ⟨F0, e0, x0⟩ := first_f H1
  have k2 := x0.live k1
  have i2 := live_ltG k2
  have hv0 := (hv.ext x1).ext x0
  have hu0 := (hu.ext x1).ext x0
  have hE0 := (hE.ext x1).ext x0
  have l1 := hv0.len
  have l2 := hu0.len
  rw [List.length_map] at l1 l2
  obtain ⟨o1, o2⟩ := hv0.one
  simp only [frL] at k1 k2 hH1
  rw [D_eq p3 _ _ (Nat.le_of_ble_eq_true rfl)]
  by_cases h1 : (60 : Int) < (f.2.2.length : Int)
  · simp (maxDischargeDepth := 8) only [r3, b3, c3_0, c3_1, c3_2, c3_3, c3_4, c3_5, c3_6, c3_7, c3_8, c3_9, c3_10, c3_11, c3_12, c3_13, frL, o1, o2, ← hH1, e0, k2, i2, l1, l2, h1, RUN, Ed, knd, kndR, resV, binInt, mnmxV, mnmx2, fillL, unV, extractV, partV, loadAt, Nat.reduceAdd, Nat.reduceBEq, Nat.reduceEqDiff, Nat.reduceLT, Nat.reduceLeDiff, Nat.reduceMul, Nat.reduceSub, reduceIte, Int.reduceEq, Int.reduceNe, Int.reduceLT, Int.reduceLE, Int.reduceAdd, Int.reduceSub, Int.reduceMul, Int.reduceNeg, Int.reduceMod, Int.reduceDiv, Int.reduceTMod, Int.reduceTDiv, Int.reduceToNat, okChain_i, okLoads_nil, okLoads_in, okLoads_eq]
    exact Ok.mk _
  by_cases h2 : (400 : Int) < (m.length : Int)
  · simp (maxDischargeDepth := 8) only [r3, b3, c3_0, c3_1, c3_2, c3_3, c3_4, c3_5, c3_6, c3_7, c3_8, c3_9, c3_10, c3_11, c3_12, c3_13, frL, o1, o2, ← hH1, e0, k2, i2, l1, l2, h1, h2, RUN, Ed, knd, kndR, resV, binInt, mnmxV, mnmx2, fillL, unV, extractV, partV, loadAt, Nat.reduceAdd, Nat.reduceBEq, Nat.reduceEqDiff, Nat.reduceLT, Nat.reduceLeDiff, Nat.reduceMul, Nat.reduceSub, reduceIte, Int.reduceEq, Int.reduceNe, Int.reduceLT, Int.reduceLE, Int.reduceAdd, Int.reduceSub, Int.reduceMul, Int.reduceNeg, Int.reduceMod, Int.reduceDiv, Int.reduceTMod, Int.reduceTDiv, Int.reduceToNat, okChain_i, okLoads_nil, okLoads_in, okLoads_eq]
    exact Ok.mk _
  by_cases h3 : f.2.2.length ≤ 32
  · have n3 : ¬ (32 : Int) < (f.2.2.length : Int) := by omega
    obtain ⟨w1, F1, e1, y1, m1⟩ := frame_f f v h3 F0 hv0
    obtain ⟨w2, F2, e2, y2, m2⟩ := split_f F1 u m (by omega) (hu0.ext y1)
    obtain ⟨w3, F3, e3, y3, m3⟩ := split2_f F2 u m (by omega) ((hu0.ext y1).ext y2)
    obtain ⟨a1, a2, a3⟩ := splitP_all m
    obtain ⟨X4, e4⟩ := sameFrames_f F3 w2 w3 _ _ (m2.ext y3).FS m3.FS (fun g hg => by have := a2 g hg; omega) (by omega)
    rw [decide_eq_true rfl] at e4
    have hd : decide ((((splitP m).2 : Nat) : Int) = (((splitP m).2 : Nat) : Int)) = true := by simp
    have z4 : Ext F0 (F3 ++ X4) := ((y1.trans y2).trans y3).app _
    have k4 := z4.live k2
    have i4 := live_ltG k4
    obtain ⟨w5, F5, e5, y5, m5⟩ := frame2_f f v h3 (F3 ++ X4) (hv0.ext z4)
    have hb1 : BS F5 w1 ((frB f).map w8) := by
      have := m1
      rw [show (frB f).length = ((frB f).map w8).length by rw [List.length_map]] at this
      exact this.BS.ext (((y2.trans y3).app X4).trans y5)
    have hb5 : BS F5 w5 ((frB f).map w8) := by
      have := m5
      rw [show (frB f).length = ((frB f).map w8).length by rw [List.length_map]] at this
      exact this.BS
    have e6 := sameBytes_f F5 w1 w5 _ _ hb1 hb5 (by rw [List.length_map, frB_len]; omega)
    rw [decide_eq_true rfl] at e6
    simp only [K] at e6
    have k5 := (z4.trans y5).live k2
    have i5 := live_ltG k5
    have e7 := size_f (w8 f.1) (w8 f.2.1) v f.2.2.length (by omega) F5 _ (hv0.ext (z4.trans y5)) (by rw [List.length_map])
    have l6 := hb1.len
    rw [List.length_map, frB_len] at l6
    have hd2 : decide ((6 : Int) + ((f.2.2.length : Nat) : Int) = ((f.2.2.length + 6 : Nat) : Int)) = true := by rw [decide_eq_true_iff]; omega
    simp only [frL] at e5
    generalize splitP m = sp at *
    simp (maxDischargeDepth := 8) only [r3, b3, c3_0, c3_1, c3_2, c3_3, c3_4, c3_5, c3_6, c3_7, c3_8, c3_9, c3_10, c3_11, c3_12, c3_13, frL, o1, o2, ← hH1, e0, k2, i2, l1, l2, h1, h2, n3, e1, e2, e3, e4, e5, e6, e7, k4, i4, k5, i5, l6, hd, hd2, (hv0.ext y1).one, y1.live k2, live_ltG (y1.live k2), RUN, Ed, knd, kndR, resV, binInt, mnmxV, mnmx2, fillL, unV, extractV, partV, loadAt, Nat.reduceAdd, Nat.reduceBEq, Nat.reduceEqDiff, Nat.reduceLT, Nat.reduceLeDiff, Nat.reduceMul, Nat.reduceSub, reduceIte, Int.reduceEq, Int.reduceNe, Int.reduceLT, Int.reduceLE, Int.reduceAdd, Int.reduceSub, Int.reduceMul, Int.reduceNeg, Int.reduceMod, Int.reduceDiv, Int.reduceTMod, Int.reduceTDiv, Int.reduceToNat, okChain_i, okLoads_nil, okLoads_in, okLoads_eq]
    exact Ok.mk _
  · have n3 : (32 : Int) < (f.2.2.length : Int) := by omega
    have lz : lenV false (.slice none 0 0) = some (.int .i64 0) := rfl
    obtain ⟨X1, e1⟩ := frame_long f v (by omega) F0 hv0 hE0
    have y1 : Ext F0 (F0 ++ X1) := Ext.more _ _
    obtain ⟨w2, F2, e2, y2, m2⟩ := split_f (F0 ++ X1) u m (by omega) (hu0.ext y1)
    obtain ⟨w3, F3, e3, y3, m3⟩ := split2_f F2 u m (by omega) ((hu0.ext y1).ext y2)
    obtain ⟨a1, a2, a3⟩ := splitP_all m
    obtain ⟨X4, e4⟩ := sameFrames_f F3 w2 w3 _ _ (m2.ext y3).FS m3.FS (fun g hg => by have := a2 g hg; omega) (by omega)
    rw [decide_eq_true rfl] at e4
    have hd : decide ((((splitP m).2 : Nat) : Int) = (((splitP m).2 : Nat) : Int)) = true := by simp
    have z4 : Ext F0 (F3 ++ X4) := ((y1.trans y2).trans y3).app _
    have k4 := z4.live k2
    have i4 := live_ltG k4
    obtain ⟨X5, e5⟩ := is_f (some 1) (by intro i h; cases h; omega) 102 (F3 ++ X4) (hE0.ext z4)
    rw [show decide (cd (some 1) = 102) = true from rfl] at e5
    simp only [K, EV] at e5
    generalize splitP m = sp at *
    simp (maxDischargeDepth := 8) only [r3, b3, c3_0, c3_1, c3_2, c3_3, c3_4, c3_5, c3_6, c3_7, c3_8, c3_9, c3_10, c3_11, c3_12, c3_13, frL, o1, o2, ← hH1, e0, k2, i2, l1, l2, h1, h2, n3, e1, e2, e3, e4, e5, k4, i4, hd, one_E, cells_E, y1.live k2, live_ltG (y1.live k2), lz, RUN, Ed, knd, kndR, resV, binInt, mnmxV, mnmx2, fillL, unV, extractV, partV, loadAt, Nat.reduceAdd, Nat.reduceBEq, Nat.reduceEqDiff, Nat.reduceLT, Nat.reduceLeDiff, Nat.reduceMul, Nat.reduceSub, reduceIte, Int.reduceEq, Int.reduceNe, Int.reduceLT, Int.reduceLE, Int.reduceAdd, Int.reduceSub, Int.reduceMul, Int.reduceNeg, Int.reduceMod, Int.reduceDiv, Int.reduceTMod, Int.reduceTDiv, Int.reduceToNat, okChain_i, okLoads_nil, okLoads_in, okLoads_eq]
    exact Ok.mk _
def sh3 : List Sh := [.agg ((.cons (.int .u8) (.cons (.int .u8) (.cons (.slice (.int .u8)) .nil)))), .slice (.int .u8)]
theorem says_law (H : Heap) (h : EH all7 H) (ls : List (List Value)) (o : OpnAll H sh3 ls) : Ok (D Tryd.prog hints 3 (argsS sh3 ls) H) := by
  obtain ⟨l0, _, rfl, h0, o⟩ := o.uncons
  obtain ⟨l1, _, rfl, h1, o⟩ := o.uncons
  cases o.unnil
  obtain ⟨f, v, rfl, hv⟩ := Opn_frame h0
  obtain ⟨u, m, rfl, hu⟩ := Opn_bytes h1
  exact says f v u m H h hv.BS hu.BS
end Go.Proofs.YtoknmodbdlfdmaaDoor.Sim
