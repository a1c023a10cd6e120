/- Journals over the plain heap: the newest slot, and what is recovered. -/
import Derived.Test.YtdipdpkdmiokeaaDoorSl11
import Derived.Test.YtdipdpkdmiokeaaDoorSim21
namespace Go.Proofs.YtdipdpkdmiokeaaDoor.Sim
open Go Go.Proofs.YtdipdpkdmiokeaaDoor.CrcMath
set_option linter.unusedSimpArgs false
set_option linter.unusedVariables false
def later (a b : Int) : Bool := decide (1 ≤ IntKind.u32.wrap (a - b)) && decide (IntKind.u32.wrap (a - b) ≤ 2147483647)
theorem later_f (a b : Int) (H : Heap) : D Tryd.prog hints 26 [.int .u32 a, .int .u32 b] H = some (.bool (later a b), H) := by
  rw [D_eq p26 _ _ (Nat.le_of_ble_eq_true rfl)]
  unfold later
  by_cases h : 1 ≤ IntKind.u32.wrap (a - b)
  · have hd : decide (1 ≤ IntKind.u32.wrap (a - b)) = true := by simpa using h
    simp (maxDischargeDepth := 8) only [r26, b26, c26_0, c26_1, c26_2, h, hd, RUN, Ed, knd, kndR, resV, binInt, mnmxV, mnmx2, fillL, unV, lenV, extractV, partV, loadAt, Nat.reduceAdd, Nat.reduceBEq, Nat.reduceEqDiff, Nat.reduceLT, Nat.reduceLeDiff, Nat.reduceMul, Nat.reduceSub, reduceIte, Int.reduceEq, Int.reduceNe, Int.reduceLT, Int.reduceLE, Int.reduceAdd, Int.reduceSub, Int.reduceMul, Int.reduceNeg, Int.reduceMod, Int.reduceDiv, Int.reduceTMod, Int.reduceTDiv, Int.reduceToNat, okChain_i, okLoads_nil, okLoads_in, okLoads_eq]
  · have hd : decide (1 ≤ IntKind.u32.wrap (a - b)) = false := by simpa using h
    simp (maxDischargeDepth := 8) only [r26, b26, c26_0, c26_1, c26_2, h, hd, RUN, Ed, knd, kndR, resV, binInt, mnmxV, mnmx2, fillL, unV, lenV, extractV, partV, loadAt, Nat.reduceAdd, Nat.reduceBEq, Nat.reduceEqDiff, Nat.reduceLT, Nat.reduceLeDiff, Nat.reduceMul, Nat.reduceSub, reduceIte, Int.reduceEq, Int.reduceNe, Int.reduceLT, Int.reduceLE, Int.reduceAdd, Int.reduceSub, Int.reduceMul, Int.reduceNeg, Int.reduceMod, Int.reduceDiv, Int.reduceTMod, Int.reduceTDiv, Int.reduceToNat, okChain_i, okLoads_nil, okLoads_in, okLoads_eq]
theorem later2_f (a b : Int) (H : Heap) : D Tryd.prog hints 34 [.int .u32 a, .int .u32 b] H = some (.bool (later a b), H) := by
  rw [D_eq p34 _ _ (Nat.le_of_ble_eq_true rfl)]
  unfold later
  by_cases h : 1 ≤ IntKind.u32.wrap (a - b)
  · have hd : decide (1 ≤ IntKind.u32.wrap (a - b)) = true := by simpa using h
    simp (maxDischargeDepth := 8) only [r34, b34, c34_0, c34_1, h, hd, RUN, Ed, knd, kndR, resV, binInt, mnmxV, mnmx2, fillL, unV, lenV, extractV, partV, loadAt, Nat.reduceAdd, Nat.reduceBEq, Nat.reduceEqDiff, Nat.reduceLT, Nat.reduceLeDiff, Nat.reduceMul, Nat.reduceSub, reduceIte, Int.reduceEq, Int.reduceNe, Int.reduceLT, Int.reduceLE, Int.reduceAdd, Int.reduceSub, Int.reduceMul, Int.reduceNeg, Int.reduceMod, Int.reduceDiv, Int.reduceTMod, Int.reduceTDiv, Int.reduceToNat, okChain_i, okLoads_nil, okLoads_in, okLoads_eq]
  · have hd : decide (1 ≤ IntKind.u32.wrap (a - b)) = false := by simpa using h
    simp (maxDischargeDepth := 8) only [r34, b34, c34_0, c34_1, h, hd, RUN, Ed, knd, kndR, resV, binInt, mnmxV, mnmx2, fillL, unV, lenV, extractV, partV, loadAt, Nat.reduceAdd, Nat.reduceBEq, Nat.reduceEqDiff, Nat.reduceLT, Nat.reduceLeDiff, Nat.reduceMul, Nat.reduceSub, reduceIte, Int.reduceEq, Int.reduceNe, Int.reduceLT, Int.reduceLE, Int.reduceAdd, Int.reduceSub, Int.reduceMul, Int.reduceNeg, Int.reduceMod, Int.reduceDiv, Int.reduceTMod, Int.reduceTDiv, Int.reduceToNat, okChain_i, okLoads_nil, okLoads_in, okLoads_eq]
def lenE (n : Nat) : Option Nat := if n < 88 then some 2 else if 88 < n then some 1 else none
theorem lenE_88 : lenE 88 = none := rfl
theorem lenE_lt {n i : Nat} (h : lenE n = some i) : i = 1 ∨ i = 2 := by
  unfold lenE at h
  split at h
  · injection h with h; omega
  · split at h
    · injection h with h; omega
    · cases h
theorem length_f (v : Value) (m : List B8) (hm : m.length ≤ 1000000) (H : Heap) (hE : EH all7 H) (hB : BS H v (m.map w8)) : D Tryd.prog hints 50 [v] H = some (EV (lenE m.length), H) := by
  have l1 := hB.len
  rw [List.length_map] at l1
  obtain ⟨t1, r1⟩ := hE 1 (by omega) rfl
  obtain ⟨t2, r2⟩ := hE 2 (by omega) rfl
  have j1 := live_ltG r1
  have j2 := live_ltG r2
  rw [D_eq p50 _ _ (Nat.le_of_ble_eq_true rfl)]
  unfold lenE
  by_cases c1 : m.length < 88
  · have d1 : (m.length : Int) < 88 := by omega
    rw [if_pos c1]
    simp (maxDischargeDepth := 8) only [r50, b50, c50_0, c50_1, c50_2, c50_3, c50_4, c50_5, l1, d1, r2, j2, g1, EV, RUN, Ed, knd, kndR, resV, binInt, mnmxV, mnmx2, fillL, unV, extractV, partV, loadAt, Nat.reduceAdd, Nat.reduceBEq, Nat.reduceEqDiff, Nat.reduceLT, Nat.reduceLeDiff, Nat.reduceMul, Nat.reduceSub, reduceIte, Int.reduceEq, Int.reduceNe, Int.reduceLT, Int.reduceLE, Int.reduceAdd, Int.reduceSub, Int.reduceMul, Int.reduceNeg, Int.reduceMod, Int.reduceDiv, Int.reduceTMod, Int.reduceTDiv, Int.reduceToNat, okChain_i, okLoads_nil, okLoads_in, okLoads_eq]
  have d1 : ¬ (m.length : Int) < 88 := by omega
  rw [if_neg c1]
  by_cases c2 : 88 < m.length
  · have d2 : (88 : Int) < (m.length : Int) := by omega
    rw [if_pos c2]
    simp (maxDischargeDepth := 8) only [r50, b50, c50_0, c50_1, c50_2, c50_3, c50_4, c50_5, l1, d1, d2, r1, j1, g2, EV, RUN, Ed, knd, kndR, resV, binInt, mnmxV, mnmx2, fillL, unV, extractV, partV, loadAt, Nat.reduceAdd, Nat.reduceBEq, Nat.reduceEqDiff, Nat.reduceLT, Nat.reduceLeDiff, Nat.reduceMul, Nat.reduceSub, reduceIte, Int.reduceEq, Int.reduceNe, Int.reduceLT, Int.reduceLE, Int.reduceAdd, Int.reduceSub, Int.reduceMul, Int.reduceNeg, Int.reduceMod, Int.reduceDiv, Int.reduceTMod, Int.reduceTDiv, Int.reduceToNat, okChain_i, okLoads_nil, okLoads_in, okLoads_eq]
  have d2 : ¬ (88 : Int) < (m.length : Int) := by omega
  rw [if_neg c2]
  simp (maxDischargeDepth := 8) only [r50, b50, c50_0, c50_1, c50_2, c50_3, c50_4, c50_5, l1, d1, d2, EV, RUN, Ed, knd, kndR, resV, binInt, mnmxV, mnmx2, fillL, unV, extractV, partV, loadAt, Nat.reduceAdd, Nat.reduceBEq, Nat.reduceEqDiff, Nat.reduceLT, Nat.reduceLeDiff, Nat.reduceMul, Nat.reduceSub, reduceIte, Int.reduceEq, Int.reduceNe, Int.reduceLT, Int.reduceLE, Int.reduceAdd, Int.reduceSub, Int.reduceMul, Int.reduceNeg, Int.reduceMod, Int.reduceDiv, Int.reduceTMod, Int.reduceTDiv, Int.reduceToNat, okChain_i, okLoads_nil, okLoads_in, okLoads_eq]
/-- Which slot of a journal is the newest. -/
def nw (m : List B8) : Int := if m.length ≠ 88 then -1 else if rdC (m.take 44) ≠ none then (if rdC (m.drop 44) ≠ none then -1 else 1) else if rdC (m.drop 44) ≠ none then 0 else if later (rdR (m.drop 44)).s (rdR (m.take 44)).s = true then 1 else 0
def nr (m : List B8) : Rec := if nw m = 1 then rdR (m.drop 44) else if nw m = 0 then rdR (m.take 44) else Rec.z
theorem zset {H F : Heap} (h : Ext (H ++ [some ⟨true, 26, Rec.z.L⟩]) F) (b : Blk) : Ext H (F.set H.length (some b)) := by
  obtain ⟨X, rfl⟩ := h
  exact (((Ext.more H _).app X)).set (Nat.le_refl _) _
theorem newest_f (v : Value) (m : List B8) (hm : m.length ≤ 1000000) (H : Heap) (hE : EH all7 H) (hB : BS H v (m.map w8)) : ∃ F, D Tryd.prog hints 51 [v] H = some (.tuple ⟨[.int .i64 (nw m), .agg ⟨(nr m).L⟩]⟩, F) ∧ Ext H F := by
  obtain ⟨H1, hH1⟩ : ∃ H1, H1 = H ++ [some ⟨true, 26, Rec.z.L⟩] := ⟨_, rfl⟩
  have x1 : Ext H H1 := ⟨_, hH1⟩
  have E1 := hE.ext x1
  have B1 := hB.ext x1
  have k1 : live H1 H.length = some ⟨true, 26, Rec.z.L⟩ := by rw [hH1]; exact (live_app_len _ _).trans rfl
  have i1 := live_ltG k1
  have el := length_f v m hm H1 E1 B1
  have q51 : D Tryd.prog hints 51 [v] H = done r51.res (E Tryd.prog hints r51.body (frame0 [v]) H) := D_eq p51 _ _ (Nat.le_of_ble_eq_true rfl)
  have zs : ∀ {F : Heap} (b : Blk), Ext H1 F → Ext H (F.set H.length (some b)) := fun b h => zset (hH1 ▸ h) b
  simp only [zL] at hH1 k1
  by_cases c0 : m.length = 88
  case neg =>
    have hn : nw m = -1 := if_pos c0
    have hr : nr m = Rec.z := by unfold nr; rw [hn]; rfl
    obtain ⟨e, he⟩ : ∃ e, lenE m.length = some e := by
      unfold lenE
      by_cases h : m.length < 88
      · exact ⟨_, if_pos h⟩
      · exact ⟨1, by rw [if_neg h, if_pos (by omega)]⟩
    rw [he] at el
    simp only [EV] at el
    rw [hn, hr, q51]
    refine ⟨_, ?_, zs ⟨true, 26, Rec.z.L⟩ (Ext.refl H1)⟩
    simp (maxDischargeDepth := 8) only [r51, b51, c51_0, c51_1, c51_2, c51_3, c51_4, c51_5, c51_6, c51_7, c51_8, c51_9, ← hH1, k1, i1, el, same_En, Rec.L, Rec.z, RUN, Ed, knd, kndR, resV, binInt, mnmxV, mnmx2, fillL, unV, lenV, extractV, partV, loadAt, Nat.reduceAdd, Nat.reduceBEq, Nat.reduceEqDiff, Nat.reduceLT, Nat.reduceLeDiff, Nat.reduceMul, Nat.reduceSub, reduceIte, Int.reduceEq, Int.reduceNe, Int.reduceLT, Int.reduceLE, Int.reduceAdd, Int.reduceSub, Int.reduceMul, Int.reduceNeg, Int.reduceMod, Int.reduceDiv, Int.reduceTMod, Int.reduceTDiv, Int.reduceToNat, okChain_i, okLoads_nil, okLoads_in, okLoads_eq]
  rw [c0, lenE_88] at el
  simp only [EV] at el
  obtain ⟨u1, es1, hu1⟩ := B1.cut (lo := none) (hi := some (.int .i64 ((44 : Nat) : Int))) (l := 0) (r := 44) rfl (bound_nat _ _ _) (by omega) (by rw [List.length_map]; omega)
  rw [List.drop_zero, ← List.map_take] at hu1
  have es1' : sliceV 1 v none (some (.int .i64 44)) = some u1 := es1
  obtain ⟨u2, es2, hu2⟩ := B1.cut (lo := some (.int .i64 ((44 : Nat) : Int))) (hi := none) (l := 44) (r := (m.map w8).length) (bound_nat _ _ _) rfl (by rw [List.length_map]; omega) (Nat.le_refl _)
  rw [List.take_length, ← List.map_drop] at hu2
  have es2' : sliceV 1 v (some (.int .i64 44)) none = some u2 := es2
  obtain ⟨X1, e1⟩ := read_f u1 (m.take 44) (by rw [List.length_take]; omega) H1 E1 hu1
  obtain ⟨F1, hF1⟩ : ∃ F1, F1 = H1 ++ X1 := ⟨_, rfl⟩
  rw [← hF1] at e1
  have y1 : Ext H1 F1 := ⟨_, hF1⟩
  obtain ⟨G1, hG1⟩ : ∃ G1, G1 = F1 ++ [some ⟨true, 26, (rdR (m.take 44)).L⟩] := ⟨_, rfl⟩
  have y2 : Ext F1 G1 := ⟨_, hG1⟩
  obtain ⟨X2, e2⟩ := read_f u2 (m.drop 44) (by rw [List.length_drop]; omega) G1 ((E1.ext y1).ext y2) ((hu2.ext y1).ext y2)
  obtain ⟨F2, hF2⟩ : ∃ F2, F2 = G1 ++ X2 := ⟨_, rfl⟩
  rw [← hF2] at e2
  have y3 : Ext G1 F2 := ⟨_, hF2⟩
  obtain ⟨G2, hG2⟩ : ∃ G2, G2 = F2 ++ [some ⟨true, 26, (rdR (m.drop 44)).L⟩] := ⟨_, rfl⟩
  have y4 : Ext F2 G2 := ⟨_, hG2⟩
  have z2 : Ext H1 G2 := ((y1.trans y2).trans y3).trans y4
  have ka : live G2 F1.length = some ⟨true, 26, (rdR (m.take 44)).L⟩ := (y3.trans y4).live (by rw [hG1]; exact (live_app_len _ _).trans rfl)
  have kb : live G2 F2.length = some ⟨true, 26, (rdR (m.drop 44)).L⟩ := by rw [hG2]; exact (live_app_len _ _).trans rfl
  have kc := z2.live k1
  have ia := live_ltG ka
  have ib := live_ltG kb
  have ic := live_ltG kc
  have el' := fun a b => later_f a b G2
  have hnw : nw m = (if rdC (m.take 44) ≠ none then (if rdC (m.drop 44) ≠ none then -1 else 1) else if rdC (m.drop 44) ≠ none then 0 else if later (rdR (m.drop 44)).s (rdR (m.take 44)).s = true then 1 else 0) := if_neg (by omega)
  have hnr : nr m = (if nw m = 1 then rdR (m.drop 44) else if nw m = 0 then rdR (m.take 44) else Rec.z) := rfl
  generalize nw m = N at *
  generalize nr m = NR at *
  generalize rdC (m.take 44) = A at *
  generalize rdC (m.drop 44) = B at *
  generalize rdR (m.take 44) = R at *
  generalize rdR (m.drop 44) = Q at *
  obtain ⟨s1, m1, l1, a1, b1, c1, d1⟩ := R
  obtain ⟨s2, m2, l2, a2, b2, c2, d2⟩ := Q
  simp only [Rec.L] at e1 e2 hG1 hG2 ka kb
  simp only at hnw
  cases A with
  | some i =>
    cases B with
    | some j =>
      simp at hnw
      rw [hnw] at hnr ⊢
      have hnr' : NR = Rec.z := hnr
      rw [hnr', q51]
      simp only [EV] at e1 e2
      refine ⟨_, ?_, zs ⟨true, 26, Rec.z.L⟩ z2⟩
      simp (maxDischargeDepth := 8) only [r51, b51, c51_0, c51_1, c51_2, c51_3, c51_4, c51_5, c51_6, c51_7, c51_8, c51_9, ← hH1, k1, i1, el, es1', es2', e1, ← hG1, e2, ← hG2, ka, kb, kc, ia, ib, ic, same_En, Rec.L, Rec.z, RUN, Ed, knd, kndR, resV, binInt, mnmxV, mnmx2, fillL, unV, lenV, extractV, partV, loadAt, Nat.reduceAdd, Nat.reduceBEq, Nat.reduceEqDiff, Nat.reduceLT, Nat.reduceLeDiff, Nat.reduceMul, Nat.reduceSub, reduceIte, Int.reduceEq, Int.reduceNe, Int.reduceLT, Int.reduceLE, Int.reduceAdd, Int.reduceSub, Int.reduceMul, Int.reduceNeg, Int.reduceMod, Int.reduceDiv, Int.reduceTMod, Int.reduceTDiv, Int.reduceToNat, okChain_i, okLoads_nil, okLoads_in, okLoads_eq]
    | none =>
      simp at hnw
      rw [hnw] at hnr ⊢
      have hnr' : NR = ⟨s2, m2, l2, a2, b2, c2, d2⟩ := hnr
      rw [hnr', q51]
      simp only [EV] at e1 e2
      refine ⟨_, ?_, zs ⟨true, 26, [.int .u32 s2, .int .i64 m2, .int .u32 l2, .int .i64 a2, .int .i64 b2, .int .i64 c2, .int .i64 d2]⟩ z2⟩
      simp (maxDischargeDepth := 8) only [r51, b51, c51_0, c51_1, c51_2, c51_3, c51_4, c51_5, c51_6, c51_7, c51_8, c51_9, ← hH1, k1, i1, el, es1', es2', e1, ← hG1, e2, ← hG2, ka, kb, kc, ia, ib, ic, same_En, Rec.L, Rec.z, RUN, Ed, knd, kndR, resV, binInt, mnmxV, mnmx2, fillL, unV, lenV, extractV, partV, loadAt, Nat.reduceAdd, Nat.reduceBEq, Nat.reduceEqDiff, Nat.reduceLT, Nat.reduceLeDiff, Nat.reduceMul, Nat.reduceSub, reduceIte, Int.reduceEq, Int.reduceNe, Int.reduceLT, Int.reduceLE, Int.reduceAdd, Int.reduceSub, Int.reduceMul, Int.reduceNeg, Int.reduceMod, Int.reduceDiv, Int.reduceTMod, Int.reduceTDiv, Int.reduceToNat, okChain_i, okLoads_nil, okLoads_in, okLoads_eq]
  | none =>
    cases B with
    | some j =>
      simp at hnw
      rw [hnw] at hnr ⊢
      have hnr' : NR = ⟨s1, m1, l1, a1, b1, c1, d1⟩ := hnr
      rw [hnr', q51]
      simp only [EV] at e1 e2
      refine ⟨_, ?_, zs ⟨true, 26, [.int .u32 s1, .int .i64 m1, .int .u32 l1, .int .i64 a1, .int .i64 b1, .int .i64 c1, .int .i64 d1]⟩ z2⟩
      simp (maxDischargeDepth := 8) only [r51, b51, c51_0, c51_1, c51_2, c51_3, c51_4, c51_5, c51_6, c51_7, c51_8, c51_9, ← hH1, k1, i1, el, es1', es2', e1, ← hG1, e2, ← hG2, ka, kb, kc, ia, ib, ic, same_En, Rec.L, Rec.z, RUN, Ed, knd, kndR, resV, binInt, mnmxV, mnmx2, fillL, unV, lenV, extractV, partV, loadAt, Nat.reduceAdd, Nat.reduceBEq, Nat.reduceEqDiff, Nat.reduceLT, Nat.reduceLeDiff, Nat.reduceMul, Nat.reduceSub, reduceIte, Int.reduceEq, Int.reduceNe, Int.reduceLT, Int.reduceLE, Int.reduceAdd, Int.reduceSub, Int.reduceMul, Int.reduceNeg, Int.reduceMod, Int.reduceDiv, Int.reduceTMod, Int.reduceTDiv, Int.reduceToNat, okChain_i, okLoads_nil, okLoads_in, okLoads_eq]
    | none =>
      cases hl : later s2 s1 with
      | true =>
        simp [hl] at hnw
        rw [hnw] at hnr ⊢
        have hnr' : NR = ⟨s2, m2, l2, a2, b2, c2, d2⟩ := hnr
        rw [hnr', q51]
        simp only [EV] at e1 e2
        refine ⟨_, ?_, zs ⟨true, 26, [.int .u32 s2, .int .i64 m2, .int .u32 l2, .int .i64 a2, .int .i64 b2, .int .i64 c2, .int .i64 d2]⟩ z2⟩
        simp (maxDischargeDepth := 8) only [r51, b51, c51_0, c51_1, c51_2, c51_3, c51_4, c51_5, c51_6, c51_7, c51_8, c51_9, ← hH1, k1, i1, el, es1', es2', e1, ← hG1, e2, ← hG2, ka, kb, kc, ia, ib, ic, el', hl, same_En, Rec.L, Rec.z, RUN, Ed, knd, kndR, resV, binInt, mnmxV, mnmx2, fillL, unV, lenV, extractV, partV, loadAt, Nat.reduceAdd, Nat.reduceBEq, Nat.reduceEqDiff, Nat.reduceLT, Nat.reduceLeDiff, Nat.reduceMul, Nat.reduceSub, reduceIte, Int.reduceEq, Int.reduceNe, Int.reduceLT, Int.reduceLE, Int.reduceAdd, Int.reduceSub, Int.reduceMul, Int.reduceNeg, Int.reduceMod, Int.reduceDiv, Int.reduceTMod, Int.reduceTDiv, Int.reduceToNat, okChain_i, okLoads_nil, okLoads_in, okLoads_eq]
      | false =>
        simp [hl] at hnw
        rw [hnw] at hnr ⊢
        have hnr' : NR = ⟨s1, m1, l1, a1, b1, c1, d1⟩ := hnr
        rw [hnr', q51]
        simp only [EV] at e1 e2
        refine ⟨_, ?_, zs ⟨true, 26, [.int .u32 s1, .int .i64 m1, .int .u32 l1, .int .i64 a1, .int .i64 b1, .int .i64 c1, .int .i64 d1]⟩ z2⟩
        simp (maxDischargeDepth := 8) only [r51, b51, c51_0, c51_1, c51_2, c51_3, c51_4, c51_5, c51_6, c51_7, c51_8, c51_9, ← hH1, k1, i1, el, es1', es2', e1, ← hG1, e2, ← hG2, ka, kb, kc, ia, ib, ic, el', hl, same_En, Rec.L, Rec.z, RUN, Ed, knd, kndR, resV, binInt, mnmxV, mnmx2, fillL, unV, lenV, extractV, partV, loadAt, Nat.reduceAdd, Nat.reduceBEq, Nat.reduceEqDiff, Nat.reduceLT, Nat.reduceLeDiff, Nat.reduceMul, Nat.reduceSub, reduceIte, Int.reduceEq, Int.reduceNe, Int.reduceLT, Int.reduceLE, Int.reduceAdd, Int.reduceSub, Int.reduceMul, Int.reduceNeg, Int.reduceMod, Int.reduceDiv, Int.reduceTMod, Int.reduceTDiv, Int.reduceToNat, okChain_i, okLoads_nil, okLoads_in, okLoads_eq]
theorem newestI_f (v : Value) (m : List B8) (hm : m.length ≤ 1000000) (H : Heap) (hE : EH all7 H) (hB : BS H v (m.map w8)) : ∃ X, D Tryd.prog hints 31 [v] H = some (.int .i64 (nw m), H ++ X) := by
  obtain ⟨F, e, X, rfl⟩ := newest_f v m hm H hE hB
  generalize nr m = R at *
  obtain ⟨s1, m1, l1, a1, b1, c1, d1⟩ := R
  simp only [Rec.L] at e
  refine ⟨?X1, ?run1⟩
  case run1 =>
    rw [D_eq p31 _ _ (Nat.le_of_ble_eq_true rfl)]
    simp (maxDischargeDepth := 8) only [r31, b31, c31_0, c31_1, c31_2, e, RUN, Ed, knd, kndR, resV, binInt, mnmxV, mnmx2, fillL, unV, lenV, extractV, partV, loadAt, Nat.reduceAdd, Nat.reduceBEq, Nat.reduceEqDiff, Nat.reduceLT, Nat.reduceLeDiff, Nat.reduceMul, Nat.reduceSub, reduceIte, Int.reduceEq, Int.reduceNe, Int.reduceLT, Int.reduceLE, Int.reduceAdd, Int.reduceSub, Int.reduceMul, Int.reduceNeg, Int.reduceMod, Int.reduceDiv, Int.reduceTMod, Int.reduceTDiv, Int.reduceToNat, okChain_i, okLoads_nil, okLoads_in, okLoads_eq]
    rfl
/-- What is amiss with a journal. -/
def rcC (m : List B8) : Option Nat := if m.length < 88 then some 2 else if 88 < m.length then some 1 else if nw m < 0 then some 6 else none
def rcR (m : List B8) : Rec := if rcC m = none then nr m else Rec.z
theorem rcC_lt (m : List B8) : ∀ i, rcC m = some i → i < 7 := by
  intro i h
  unfold rcC at h
  split at h
  · injection h with h; omega
  · split at h
    · injection h with h; omega
    · split at h
      · injection h with h; omega
      · cases h
theorem recover_f (v : Value) (m : List B8) (hm : m.length ≤ 1000000) (H : Heap) (hE : EH all7 H) (hB : BS H v (m.map w8)) : ∃ X, D Tryd.prog hints 27 [v] H = some (.tuple ⟨[.agg ⟨(rcR m).L⟩, EV (rcC m)]⟩, H ++ X) := by
  obtain ⟨H1, hH1⟩ : ∃ H1, H1 = H ++ [some ⟨true, 26, Rec.z.L⟩] := ⟨_, rfl⟩
  have x1 : Ext H H1 := ⟨_, hH1⟩
  have E1 := hE.ext x1
  have B1 := hB.ext x1
  have k1 : live H1 H.length = some ⟨true, 26, Rec.z.L⟩ := by rw [hH1]; exact (live_app_len _ _).trans rfl
  have i1 := live_ltG k1
  have el := length_f v m hm H1 E1 B1
  have q27 : D Tryd.prog hints 27 [v] H = done r27.res (E Tryd.prog hints r27.body (frame0 [v]) H) := D_eq p27 _ _ (Nat.le_of_ble_eq_true rfl)
  have zs : ∀ {F : Heap} (b : Blk), Ext H1 F → Ext H (F.set H.length (some b)) := fun b h => zset (hH1 ▸ h) b
  simp only [zL] at hH1 k1
  have fin : ∀ {V : Value} {F : Heap}, D Tryd.prog hints 27 [v] H = some (V, F) → Ext H F → ∃ X, D Tryd.prog hints 27 [v] H = some (V, H ++ X) := by
    rintro V F h ⟨X, rfl⟩
    exact ⟨X, h⟩
  have hrC : rcC m = (match lenE m.length with | some e => some e | none => if nw m < 0 then some 6 else none) := by
    unfold rcC lenE
    by_cases h1 : m.length < 88
    · rw [if_pos h1, if_pos h1]
    · rw [if_neg h1, if_neg h1]
      by_cases h2 : 88 < m.length
      · rw [if_pos h2, if_pos h2]
      · rw [if_neg h2, if_neg h2]
  unfold rcR
  cases hl : lenE m.length with
  | some e =>
    rw [hl] at el hrC
    simp only at hrC
    rw [hrC, if_neg (by simp)]
    simp only [EV] at el
    refine fin ?_ (zs ⟨true, 26, Rec.z.L⟩ (Ext.refl H1))
    rw [q27]
    simp (maxDischargeDepth := 8) only [r27, b27, c27_0, c27_1, c27_2, c27_3, c27_4, c27_5, c27_6, c27_7, ← hH1, k1, i1, el, same_En, EV, Rec.L, Rec.z, RUN, Ed, knd, kndR, resV, binInt, mnmxV, mnmx2, fillL, unV, lenV, extractV, partV, loadAt, Nat.reduceAdd, Nat.reduceBEq, Nat.reduceEqDiff, Nat.reduceLT, Nat.reduceLeDiff, Nat.reduceMul, Nat.reduceSub, reduceIte, Int.reduceEq, Int.reduceNe, Int.reduceLT, Int.reduceLE, Int.reduceAdd, Int.reduceSub, Int.reduceMul, Int.reduceNeg, Int.reduceMod, Int.reduceDiv, Int.reduceTMod, Int.reduceTDiv, Int.reduceToNat, okChain_i, okLoads_nil, okLoads_in, okLoads_eq]
  | none =>
    rw [hl] at el hrC
    simp only at hrC
    simp only [EV] at el
    obtain ⟨F, en, yF⟩ := newest_f v m hm H1 E1 B1
    obtain ⟨G, hG⟩ : ∃ G, G = F ++ [some ⟨true, 26, (nr m).L⟩] := ⟨_, rfl⟩
    have yG : Ext F G := ⟨_, hG⟩
    have zG := yF.trans yG
    have k2 : live G F.length = some ⟨true, 26, (nr m).L⟩ := by rw [hG]; exact (live_app_len _ _).trans rfl
    have i2 := live_ltG k2
    have k3 := zG.live k1
    have i3 := live_ltG k3
    obtain ⟨t6, r6⟩ := (E1.ext zG) 6 (by omega) rfl
    have j6 := live_ltG r6
    have hlow : 7 ≤ H.length := by
      obtain ⟨t, h6⟩ := hE 6 (by omega) rfl
      have := live_ltG h6; omega
    have n6 : ¬ (H.length = 6) := by omega
    generalize nr m = R at *
    obtain ⟨s1, m1, l1, a1, b1, c1, d1⟩ := R
    simp only [Rec.L] at en hG k2
    by_cases hneg : nw m < 0
    · rw [if_pos hneg] at hrC
      rw [hrC, if_neg (by simp)]
      refine fin ?_ (zs ⟨true, 26, Rec.z.L⟩ zG)
      rw [q27]
      simp (maxDischargeDepth := 8) only [r27, b27, c27_0, c27_1, c27_2, c27_3, c27_4, c27_5, c27_6, c27_7, ← hH1, k1, i1, el, en, ← hG, k2, i2, k3, i3, hneg, r6, j6, n6, g3, EV, Rec.L, Rec.z, RUN, Ed, knd, kndR, resV, binInt, mnmxV, mnmx2, fillL, unV, lenV, extractV, partV, loadAt, Nat.reduceAdd, Nat.reduceBEq, Nat.reduceEqDiff, Nat.reduceLT, Nat.reduceLeDiff, Nat.reduceMul, Nat.reduceSub, reduceIte, Int.reduceEq, Int.reduceNe, Int.reduceLT, Int.reduceLE, Int.reduceAdd, Int.reduceSub, Int.reduceMul, Int.reduceNeg, Int.reduceMod, Int.reduceDiv, Int.reduceTMod, Int.reduceTDiv, Int.reduceToNat, okChain_i, okLoads_nil, okLoads_in, okLoads_eq]
    · rw [if_neg hneg] at hrC
      rw [hrC, if_pos rfl]
      refine fin ?_ (zs ⟨true, 26, [.int .u32 s1, .int .i64 m1, .int .u32 l1, .int .i64 a1, .int .i64 b1, .int .i64 c1, .int .i64 d1]⟩ zG)
      rw [q27]
      simp (maxDischargeDepth := 8) only [r27, b27, c27_0, c27_1, c27_2, c27_3, c27_4, c27_5, c27_6, c27_7, ← hH1, k1, i1, el, en, ← hG, k2, i2, k3, i3, hneg, EV, Rec.L, Rec.z, RUN, Ed, knd, kndR, resV, binInt, mnmxV, mnmx2, fillL, unV, lenV, extractV, partV, loadAt, Nat.reduceAdd, Nat.reduceBEq, Nat.reduceEqDiff, Nat.reduceLT, Nat.reduceLeDiff, Nat.reduceMul, Nat.reduceSub, reduceIte, Int.reduceEq, Int.reduceNe, Int.reduceLT, Int.reduceLE, Int.reduceAdd, Int.reduceSub, Int.reduceMul, Int.reduceNeg, Int.reduceMod, Int.reduceDiv, Int.reduceTMod, Int.reduceTDiv, Int.reduceToNat, okChain_i, okLoads_nil, okLoads_in, okLoads_eq]
def zz : List B8 := List.replicate 88 0#8
theorem zz_len : zz.length = 88 := rfl
set_option maxRecDepth 100000 in
theorem zz_nw : nw zz = -1 := by decide
theorem zz_rc : rcC zz = some 6 := by
  unfold rcC
  rw [zz_nw]
  rfl
set_option maxRecDepth 100000 in
theorem zz_cells : fillZ [Value.int .u8 0] 88 = bL (zz.map w8) := rfl
theorem zz_BS {H : Heap} {b : Nat} (h : live H b = some ⟨true, 5, fillZ [.int .u8 0] 88⟩) : BS H (.slice (some ⟨b, 0, none⟩) 88 1) (zz.map w8) := BS.of (A := zz.map w8) (h.trans (by rw [zz_cells]))
theorem mk88 (H : Heap) : mksliceV 5 1 1 [.int .u8 0] H (.int .i64 88) (.int .i64 88) = some (.slice (some ⟨H.length, 0, none⟩) 88 1, H ++ [some ⟨true, 5, fillZ [.int .u8 0] 88⟩]) := mkslice_i (H := H) 5 1 1 _ .i64 .i64 88 88 (by omega) (by omega) (by omega) (by omega)
theorem first2_f (H : Heap) (hE : EH all7 H) : ∃ X, D Tryd.prog hints 25 [] H = some (.bool true, H ++ X) := by
  obtain ⟨H1, hH1⟩ : ∃ H1, H1 = H ++ [some ⟨true, 5, fillZ [.int .u8 0] 88⟩] := ⟨_, rfl⟩
  have x1 : Ext H H1 := ⟨_, hH1⟩
  have k1 : live H1 H.length = some ⟨true, 5, fillZ [.int .u8 0] 88⟩ := by rw [hH1]; exact (live_app_len _ _).trans rfl
  have E1 := hE.ext x1
  obtain ⟨X1, e1⟩ := recover_f _ zz (by rw [zz_len]; omega) H1 E1 (zz_BS k1)
  have hr : rcR zz = Rec.z := if_neg (by rw [zz_rc]; simp)
  rw [zz_rc, hr] at e1
  simp only [Rec.L, Rec.z, EV] at e1
  obtain ⟨F, hF⟩ : ∃ F, F = H1 ++ (X1 ++ [some ⟨true, 26, Rec.z.L⟩]) := ⟨_, rfl⟩
  have xF : Ext H1 F := ⟨_, hF⟩
  obtain ⟨v4, u4⟩ := put_same hF
  have t4 := live_ltG v4
  obtain ⟨X2, e2⟩ := is_f (some 6) (by intro i h; cases h; omega) 107 F (E1.ext xF)
  rw [show decide (cd (some 6) = 107) = true from rfl] at e2
  simp only [K, EV] at e2
  obtain ⟨X3, e3⟩ := newestI_f (.slice none 0 0) [] (by simp) (F ++ X2) ((E1.ext xF).more _) (BS.nil _ _)
  rw [show nw [] = -1 from rfl] at e3
  have hend : ∀ Z, ∃ X, F ++ Z = H ++ X := fun Z => by
    obtain ⟨Y, hY⟩ := (x1.trans xF).app Z
    exact ⟨Y, hY⟩
  simp only [zL] at hF v4 u4
  have : ∃ Z, D Tryd.prog hints 25 [] H = some (.bool true, F ++ Z) := by
    refine ⟨?X3, ?run3⟩
    case run3 =>
      rw [D_eq p25 _ _ (Nat.le_of_ble_eq_true rfl)]
      simp (maxDischargeDepth := 8) only [r25, b25, c25_0, c25_1, c25_2, mk88, ← hH1, e1, ← hF, v4, u4, t4, e2, e3, one_E, cells_E, RUN, Ed, knd, kndR, resV, binInt, mnmxV, mnmx2, fillL, unV, lenV, extractV, partV, loadAt, Nat.reduceAdd, Nat.reduceBEq, Nat.reduceEqDiff, Nat.reduceLT, Nat.reduceLeDiff, Nat.reduceMul, Nat.reduceSub, reduceIte, Int.reduceEq, Int.reduceNe, Int.reduceLT, Int.reduceLE, Int.reduceAdd, Int.reduceSub, Int.reduceMul, Int.reduceNeg, Int.reduceMod, Int.reduceDiv, Int.reduceTMod, Int.reduceTDiv, Int.reduceToNat, okChain_i, okLoads_nil, okLoads_in, okLoads_eq]
      rfl
  obtain ⟨Z, hZ⟩ := this
  obtain ⟨X, hX⟩ := hend Z
  exact ⟨X, by rw [hZ, hX]⟩
theorem wrapu32 (x : Int) : IntKind.u32.wrap x = x % 4294967296 := by
  simp [IntKind.wrap, IntKind.bits, IntKind.signed]
theorem later_law (a b : Int) (a0 : 0 ≤ a) (a1 : a < 4294967296) (b0 : 0 ≤ b) (b1 : b < 4294967296) (H : Heap) (hE : EH all7 H) : Ok (D Tryd.prog hints 7 [.int .u32 a, .int .u32 b] H) := by
  obtain ⟨X0, e0⟩ := first2_f H hE
  have f1 := fun a b F => later_f a b F
  have h1 : later (IntKind.u32.wrap (a + 1)) a = true := by
    unfold later
    simp only [wrapu32, Bool.and_eq_true, decide_eq_true_eq]
    omega
  have h2 : later a a = false := by
    unfold later
    simp only [wrapu32, Bool.and_eq_false_iff, decide_eq_false_iff_not]
    omega
  rw [D_eq p7 _ _ (Nat.le_of_ble_eq_true rfl)]
  by_cases c1 : a = b
  · subst c1
    simp (maxDischargeDepth := 8) only [r7, b7, c7_0, c7_1, c7_2, c7_3, c7_4, c7_5, c7_6, e0, f1, h1, h2, RUN, Ed, knd, kndR, resV, binInt, mnmxV, mnmx2, fillL, unV, lenV, extractV, partV, loadAt, Nat.reduceAdd, Nat.reduceBEq, Nat.reduceEqDiff, Nat.reduceLT, Nat.reduceLeDiff, Nat.reduceMul, Nat.reduceSub, reduceIte, Int.reduceEq, Int.reduceNe, Int.reduceLT, Int.reduceLE, Int.reduceAdd, Int.reduceSub, Int.reduceMul, Int.reduceNeg, Int.reduceMod, Int.reduceDiv, Int.reduceTMod, Int.reduceTDiv, Int.reduceToNat, okChain_i, okLoads_nil, okLoads_in, okLoads_eq]
    exact Ok.mk _
  by_cases c2 : IntKind.u32.wrap (a - b) = 2147483648
  · have h3 : later a b = false := by
      unfold later
      rw [c2]; rfl
    have h4 : later b a = false := by
      unfold later
      rw [wrapu32] at c2
      simp only [wrapu32, Bool.and_eq_false_iff, decide_eq_false_iff_not]
      omega
    simp (maxDischargeDepth := 8) only [r7, b7, c7_0, c7_1, c7_2, c7_3, c7_4, c7_5, c7_6, e0, f1, h1, h2, h3, h4, c1, c2, RUN, Ed, knd, kndR, resV, binInt, mnmxV, mnmx2, fillL, unV, lenV, extractV, partV, loadAt, Nat.reduceAdd, Nat.reduceBEq, Nat.reduceEqDiff, Nat.reduceLT, Nat.reduceLeDiff, Nat.reduceMul, Nat.reduceSub, reduceIte, Int.reduceEq, Int.reduceNe, Int.reduceLT, Int.reduceLE, Int.reduceAdd, Int.reduceSub, Int.reduceMul, Int.reduceNeg, Int.reduceMod, Int.reduceDiv, Int.reduceTMod, Int.reduceTDiv, Int.reduceToNat, okChain_i, okLoads_nil, okLoads_in, okLoads_eq]
    exact Ok.mk _
  by_cases c3 : IntKind.u32.wrap (a - b) < 2147483648
  · have h3 : later a b = true := by
      unfold later
      rw [wrapu32] at c2 c3
      simp only [wrapu32, Bool.and_eq_true, decide_eq_true_eq]
      omega
    have h4 : later b a = false := by
      unfold later
      rw [wrapu32] at c2 c3
      simp only [wrapu32, Bool.and_eq_false_iff, decide_eq_false_iff_not]
      omega
    simp (maxDischargeDepth := 8) only [r7, b7, c7_0, c7_1, c7_2, c7_3, c7_4, c7_5, c7_6, e0, f1, h1, h2, h3, h4, c1, c2, RUN, Ed, knd, kndR, resV, binInt, mnmxV, mnmx2, fillL, unV, lenV, extractV, partV, loadAt, Nat.reduceAdd, Nat.reduceBEq, Nat.reduceEqDiff, Nat.reduceLT, Nat.reduceLeDiff, Nat.reduceMul, Nat.reduceSub, reduceIte, Int.reduceEq, Int.reduceNe, Int.reduceLT, Int.reduceLE, Int.reduceAdd, Int.reduceSub, Int.reduceMul, Int.reduceNeg, Int.reduceMod, Int.reduceDiv, Int.reduceTMod, Int.reduceTDiv, Int.reduceToNat, okChain_i, okLoads_nil, okLoads_in, okLoads_eq]
    exact Ok.mk _
  · have h3 : later a b = false := by
      unfold later
      rw [wrapu32] at c2 c3
      simp only [wrapu32, Bool.and_eq_false_iff, decide_eq_false_iff_not]
      omega
    have h4 : later b a = true := by
      unfold later
      rw [wrapu32] at c2 c3
      simp only [wrapu32, Bool.and_eq_true, decide_eq_true_eq]
      omega
    simp (maxDischargeDepth := 8) only [r7, b7, c7_0, c7_1, c7_2, c7_3, c7_4, c7_5, c7_6, e0, f1, h1, h2, h3, h4, c1, c2, RUN, Ed, knd, kndR, resV, binInt, mnmxV, mnmx2, fillL, unV, lenV, extractV, partV, loadAt, Nat.reduceAdd, Nat.reduceBEq, Nat.reduceEqDiff, Nat.reduceLT, Nat.reduceLeDiff, Nat.reduceMul, Nat.reduceSub, reduceIte, Int.reduceEq, Int.reduceNe, Int.reduceLT, Int.reduceLE, Int.reduceAdd, Int.reduceSub, Int.reduceMul, Int.reduceNeg, Int.reduceMod, Int.reduceDiv, Int.reduceTMod, Int.reduceTDiv, Int.reduceToNat, okChain_i, okLoads_nil, okLoads_in, okLoads_eq]
    exact Ok.mk _
def sh7 : List Sh := [.int .u32, .int .u32]
theorem jlater_law (H : Heap) (h : EH all7 H) (ls : List (List Value)) (o : OpnAll H sh7 ls) : Ok (D Tryd.prog hints 7 (argsS sh7 ls) H) := by
  obtain ⟨l0, _, rfl, h0, o⟩ := o.uncons
  obtain ⟨l1, _, rfl, h1, o⟩ := o.uncons
  cases o.unnil
  simp only [Opn.eq_1] at h0 h1
  obtain ⟨a, rfl, ha⟩ := h0
  obtain ⟨b, rfl, hb⟩ := h1
  exact later_law a b (wfu32 ha).1 (wfu32 ha).2 (wfu32 hb).1 (wfu32 hb).2 H h
end Go.Proofs.YtdipdpkdmiokeaaDoor.Sim
