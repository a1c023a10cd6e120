/- The document's journal; the stage theorem of journals. -/
import Derived.Test.YtdipdpkdmiokeaaDoorJo9
import Derived.Test.YtdipdpkdmiokeaaDoorSim21
namespace Go.Proofs.YtdipdpkdmiokeaaDoor.Sim
open Go Go.Proofs.YtdipdpkdmiokeaaDoor.CrcMath
set_option linter.unusedSimpArgs false
set_option linter.unusedVariables false
theorem length2_f (v : Value) (m : List B8) (H : Heap) (hB : BS H v (m.map w8)) : D Tryd.prog hints 52 [v] H = some (.int .i64 (cd (lenE m.length)), H) := by
  have l1 := hB.len
  rw [List.length_map] at l1
  rw [D_eq p52 _ _ (Nat.le_of_ble_eq_true rfl)]
  unfold lenE
  by_cases c1 : m.length < 88
  · have d1 : (m.length : Int) < 88 := by omega
    rw [if_pos c1]
    simp (maxDischargeDepth := 8) only [r52, b52, c52_0, c52_1, c52_2, c52_3, c52_4, c52_5, l1, d1, RUN, Ed, knd, kndR, resV, binInt, mnmxV, mnmx2, fillL, unV, extractV, partV, loadAt, Nat.reduceAdd, Nat.reduceBEq, Nat.reduceEqDiff, Nat.reduceLT, Nat.reduceLeDiff, Nat.reduceMul, Nat.reduceSub, reduceIte, Int.reduceEq, Int.reduceNe, Int.reduceLT, Int.reduceLE, Int.reduceAdd, Int.reduceSub, Int.reduceMul, Int.reduceNeg, Int.reduceMod, Int.reduceDiv, Int.reduceTMod, Int.reduceTDiv, Int.reduceToNat, okChain_i, okLoads_nil, okLoads_in, okLoads_eq]
    rfl
  have d1 : ¬ (m.length : Int) < 88 := by omega
  rw [if_neg c1]
  by_cases c2 : 88 < m.length
  · have d2 : (88 : Int) < (m.length : Int) := by omega
    rw [if_pos c2]
    simp (maxDischargeDepth := 8) only [r52, b52, c52_0, c52_1, c52_2, c52_3, c52_4, c52_5, l1, d1, d2, RUN, Ed, knd, kndR, resV, binInt, mnmxV, mnmx2, fillL, unV, extractV, partV, loadAt, Nat.reduceAdd, Nat.reduceBEq, Nat.reduceEqDiff, Nat.reduceLT, Nat.reduceLeDiff, Nat.reduceMul, Nat.reduceSub, reduceIte, Int.reduceEq, Int.reduceNe, Int.reduceLT, Int.reduceLE, Int.reduceAdd, Int.reduceSub, Int.reduceMul, Int.reduceNeg, Int.reduceMod, Int.reduceDiv, Int.reduceTMod, Int.reduceTDiv, Int.reduceToNat, okChain_i, okLoads_nil, okLoads_in, okLoads_eq]
    rfl
  have d2 : ¬ (88 : Int) < (m.length : Int) := by omega
  rw [if_neg c2]
  simp (maxDischargeDepth := 8) only [r52, b52, c52_0, c52_1, c52_2, c52_3, c52_4, c52_5, l1, d1, d2, RUN, Ed, knd, kndR, resV, binInt, mnmxV, mnmx2, fillL, unV, extractV, partV, loadAt, Nat.reduceAdd, Nat.reduceBEq, Nat.reduceEqDiff, Nat.reduceLT, Nat.reduceLeDiff, Nat.reduceMul, Nat.reduceSub, reduceIte, Int.reduceEq, Int.reduceNe, Int.reduceLT, Int.reduceLE, Int.reduceAdd, Int.reduceSub, Int.reduceMul, Int.reduceNeg, Int.reduceMod, Int.reduceDiv, Int.reduceTMod, Int.reduceTDiv, Int.reduceToNat, okChain_i, okLoads_nil, okLoads_in, okLoads_eq]
  rfl
theorem cd_some (i : Nat) : ¬ (cd (some i) = 0) := by unfold cd; simp only; omega
theorem cd_none : cd none = 0 := rfl
theorem newest2_f (v : Value) (m : List B8) (hm : m.length ≤ 1000000) (H : Heap) (hB : BS H v (m.map w8)) : ∃ X, D Tryd.prog hints 32 [v] H = some (.int .i64 (nw m), H ++ X) := by
  have l1 := hB.len
  rw [List.length_map] at l1
  have q32 : D Tryd.prog hints 32 [v] H = done r32.res (E Tryd.prog hints r32.body (frame0 [v]) H) := D_eq p32 _ _ (Nat.le_of_ble_eq_true rfl)
  by_cases c0 : m.length = 88
  case neg =>
    have hn : nw m = -1 := if_pos c0
    have d0 : ¬ (m.length : Int) = 88 := by omega
    refine ⟨[], ?_⟩
    rw [hn, q32, List.append_nil]
    simp (maxDischargeDepth := 8) only [r32, b32, c32_0, c32_1, c32_2, c32_3, c32_4, c32_5, c32_6, c32_7, c32_8, c32_9, c32_10, c32_11, c32_12, c32_13, l1, d0, RUN, Ed, knd, kndR, resV, binInt, mnmxV, mnmx2, fillL, unV, extractV, partV, loadAt, Nat.reduceAdd, Nat.reduceBEq, Nat.reduceEqDiff, Nat.reduceLT, Nat.reduceLeDiff, Nat.reduceMul, Nat.reduceSub, reduceIte, Int.reduceEq, Int.reduceNe, Int.reduceLT, Int.reduceLE, Int.reduceAdd, Int.reduceSub, Int.reduceMul, Int.reduceNeg, Int.reduceMod, Int.reduceDiv, Int.reduceTMod, Int.reduceTDiv, Int.reduceToNat, okChain_i, okLoads_nil, okLoads_in, okLoads_eq]
  have d0 : (m.length : Int) = 88 := by omega
  obtain ⟨u1, es1, hu1⟩ := hB.cut (lo := none) (hi := some (.int .i64 ((44 : Nat) : Int))) (l := 0) (r := 44) rfl (bound_nat _ _ _) (by omega) (by rw [List.length_map]; omega)
  rw [List.drop_zero, ← List.map_take] at hu1
  have es1' : sliceV 1 v none (some (.int .i64 44)) = some u1 := es1
  obtain ⟨u2, es2, hu2⟩ := hB.cut (lo := some (.int .i64 ((44 : Nat) : Int))) (hi := none) (l := 44) (r := (m.map w8).length) (bound_nat _ _ _) rfl (by rw [List.length_map]; omega) (Nat.le_refl _)
  rw [List.take_length, ← List.map_drop] at hu2
  have es2' : sliceV 1 v (some (.int .i64 44)) none = some u2 := es2
  obtain ⟨X1, e1⟩ := read2_f u1 (m.take 44) (by rw [List.length_take]; omega) H hu1
  obtain ⟨F1, hF1⟩ : ∃ F1, F1 = H ++ X1 := ⟨_, rfl⟩
  rw [← hF1] at e1
  have y1 : Ext H F1 := ⟨_, hF1⟩
  obtain ⟨G1, hG1⟩ : ∃ G1, G1 = F1 ++ [some ⟨true, 26, (rdR (m.take 44)).L⟩] := ⟨_, rfl⟩
  have y2 : Ext F1 G1 := ⟨_, hG1⟩
  obtain ⟨X2, e2⟩ := read2_f u2 (m.drop 44) (by rw [List.length_drop]; omega) G1 ((hu2.ext y1).ext y2)
  obtain ⟨F2, hF2⟩ : ∃ F2, F2 = G1 ++ X2 := ⟨_, rfl⟩
  rw [← hF2] at e2
  have y3 : Ext G1 F2 := ⟨_, hF2⟩
  obtain ⟨G2, hG2⟩ : ∃ G2, G2 = F2 ++ [some ⟨true, 26, (rdR (m.drop 44)).L⟩] := ⟨_, rfl⟩
  have y4 : Ext F2 G2 := ⟨_, hG2⟩
  have z2 : Ext H G2 := ((y1.trans y2).trans y3).trans y4
  have ka : live G2 F1.length = some ⟨true, 26, (rdR (m.take 44)).L⟩ := (y3.trans y4).live (by rw [hG1]; exact (live_app_len _ _).trans rfl)
  have kb : live G2 F2.length = some ⟨true, 26, (rdR (m.drop 44)).L⟩ := by rw [hG2]; exact (live_app_len _ _).trans rfl
  have ia := live_ltG ka
  have ib := live_ltG kb
  have el' := fun a b => later2_f a b G2
  have hnw : nw m = (if rdC (m.take 44) ≠ none then (if rdC (m.drop 44) ≠ none then -1 else 1) else if rdC (m.drop 44) ≠ none then 0 else if later (rdR (m.drop 44)).s (rdR (m.take 44)).s = true then 1 else 0) := if_neg (by omega)
  have fin : D Tryd.prog hints 32 [v] H = some (.int .i64 (nw m), G2) → ∃ X, D Tryd.prog hints 32 [v] H = some (.int .i64 (nw m), H ++ X) := fun h => by
    obtain ⟨X, hX⟩ := z2
    exact ⟨X, by rw [h, hX]⟩
  apply fin
  generalize nw m = N at *
  generalize rdC (m.take 44) = A at *
  generalize rdC (m.drop 44) = B at *
  generalize rdR (m.take 44) = R at *
  generalize rdR (m.drop 44) = Q at *
  obtain ⟨s1, m1, l1', a1, b1, c1, d1⟩ := R
  obtain ⟨s2, m2, l2, a2, b2, c2, d2⟩ := Q
  simp only [Rec.L] at e1 e2 hG1 hG2 ka kb
  simp only at hnw
  rw [q32]
  cases A with
  | some i =>
    cases B with
    | some j =>
      simp at hnw
      have hi := cd_some i
      have hj := cd_some j
      rw [hnw]
      simp (maxDischargeDepth := 8) only [r32, b32, c32_0, c32_1, c32_2, c32_3, c32_4, c32_5, c32_6, c32_7, c32_8, c32_9, c32_10, c32_11, c32_12, c32_13, l1, d0, es1', es2', e1, ← hG1, e2, ← hG2, hi, hj, RUN, Ed, knd, kndR, resV, binInt, mnmxV, mnmx2, fillL, unV, extractV, partV, loadAt, Nat.reduceAdd, Nat.reduceBEq, Nat.reduceEqDiff, Nat.reduceLT, Nat.reduceLeDiff, Nat.reduceMul, Nat.reduceSub, reduceIte, Int.reduceEq, Int.reduceNe, Int.reduceLT, Int.reduceLE, Int.reduceAdd, Int.reduceSub, Int.reduceMul, Int.reduceNeg, Int.reduceMod, Int.reduceDiv, Int.reduceTMod, Int.reduceTDiv, Int.reduceToNat, okChain_i, okLoads_nil, okLoads_in, okLoads_eq]
    | none =>
      simp at hnw
      have hi := cd_some i
      rw [hnw]
      simp (maxDischargeDepth := 8) only [r32, b32, c32_0, c32_1, c32_2, c32_3, c32_4, c32_5, c32_6, c32_7, c32_8, c32_9, c32_10, c32_11, c32_12, c32_13, l1, d0, es1', es2', e1, ← hG1, e2, ← hG2, hi, cd_none, RUN, Ed, knd, kndR, resV, binInt, mnmxV, mnmx2, fillL, unV, extractV, partV, loadAt, Nat.reduceAdd, Nat.reduceBEq, Nat.reduceEqDiff, Nat.reduceLT, Nat.reduceLeDiff, Nat.reduceMul, Nat.reduceSub, reduceIte, Int.reduceEq, Int.reduceNe, Int.reduceLT, Int.reduceLE, Int.reduceAdd, Int.reduceSub, Int.reduceMul, Int.reduceNeg, Int.reduceMod, Int.reduceDiv, Int.reduceTMod, Int.reduceTDiv, Int.reduceToNat, okChain_i, okLoads_nil, okLoads_in, okLoads_eq]
  | none =>
    cases B with
    | some j =>
      simp at hnw
      have hj := cd_some j
      rw [hnw]
      simp (maxDischargeDepth := 8) only [r32, b32, c32_0, c32_1, c32_2, c32_3, c32_4, c32_5, c32_6, c32_7, c32_8, c32_9, c32_10, c32_11, c32_12, c32_13, l1, d0, es1', es2', e1, ← hG1, e2, ← hG2, hj, cd_none, RUN, Ed, knd, kndR, resV, binInt, mnmxV, mnmx2, fillL, unV, extractV, partV, loadAt, Nat.reduceAdd, Nat.reduceBEq, Nat.reduceEqDiff, Nat.reduceLT, Nat.reduceLeDiff, Nat.reduceMul, Nat.reduceSub, reduceIte, Int.reduceEq, Int.reduceNe, Int.reduceLT, Int.reduceLE, Int.reduceAdd, Int.reduceSub, Int.reduceMul, Int.reduceNeg, Int.reduceMod, Int.reduceDiv, Int.reduceTMod, Int.reduceTDiv, Int.reduceToNat, okChain_i, okLoads_nil, okLoads_in, okLoads_eq]
    | none =>
      cases hl : later s2 s1 with
      | true =>
        simp [hl] at hnw
        rw [hnw]
        simp (maxDischargeDepth := 8) only [r32, b32, c32_0, c32_1, c32_2, c32_3, c32_4, c32_5, c32_6, c32_7, c32_8, c32_9, c32_10, c32_11, c32_12, c32_13, l1, d0, es1', es2', e1, ← hG1, e2, ← hG2, cd_none, ka, kb, ia, ib, el', hl, RUN, Ed, knd, kndR, resV, binInt, mnmxV, mnmx2, fillL, unV, extractV, partV, loadAt, Nat.reduceAdd, Nat.reduceBEq, Nat.reduceEqDiff, Nat.reduceLT, Nat.reduceLeDiff, Nat.reduceMul, Nat.reduceSub, reduceIte, Int.reduceEq, Int.reduceNe, Int.reduceLT, Int.reduceLE, Int.reduceAdd, Int.reduceSub, Int.reduceMul, Int.reduceNeg, Int.reduceMod, Int.reduceDiv, Int.reduceTMod, Int.reduceTDiv, Int.reduceToNat, okChain_i, okLoads_nil, okLoads_in, okLoads_eq]
      | false =>
        simp [hl] at hnw
        rw [hnw]
        simp (maxDischargeDepth := 8) only [r32, b32, c32_0, c32_1, c32_2, c32_3, c32_4, c32_5, c32_6, c32_7, c32_8, c32_9, c32_10, c32_11, c32_12, c32_13, l1, d0, es1', es2', e1, ← hG1, e2, ← hG2, cd_none, ka, kb, ia, ib, el', hl, RUN, Ed, knd, kndR, resV, binInt, mnmxV, mnmx2, fillL, unV, extractV, partV, loadAt, Nat.reduceAdd, Nat.reduceBEq, Nat.reduceEqDiff, Nat.reduceLT, Nat.reduceLeDiff, Nat.reduceMul, Nat.reduceSub, reduceIte, Int.reduceEq, Int.reduceNe, Int.reduceLT, Int.reduceLE, Int.reduceAdd, Int.reduceSub, Int.reduceMul, Int.reduceNeg, Int.reduceMod, Int.reduceDiv, Int.reduceTMod, Int.reduceTDiv, Int.reduceToNat, okChain_i, okLoads_nil, okLoads_in, okLoads_eq]
theorem recover2_f (v : Value) (m : List B8) (hm : m.length ≤ 1000000) (H : Heap) (hB : BS H v (m.map w8)) : ∃ X, D Tryd.prog hints 28 [v] H = some (.tuple ⟨[.agg ⟨(rcR m).L⟩, .int .i64 (cd (rcC m))]⟩, H ++ X) := by
  obtain ⟨H1, hH1⟩ : ∃ H1, H1 = H ++ [some ⟨true, 26, Rec.z.L⟩] := ⟨_, rfl⟩
  have x1 : Ext H H1 := ⟨_, hH1⟩
  have B1 := hB.ext x1
  have k1 : live H1 H.length = some ⟨true, 26, Rec.z.L⟩ := by rw [hH1]; exact (live_app_len _ _).trans rfl
  have i1 := live_ltG k1
  have el := length2_f v m H1 B1
  have q28 : D Tryd.prog hints 28 [v] H = done r28.res (E Tryd.prog hints r28.body (frame0 [v]) H) := D_eq p28 _ _ (Nat.le_of_ble_eq_true rfl)
  have zs : ∀ {F : Heap} (b : Blk), Ext H1 F → Ext H (F.set H.length (some b)) := fun b h => zset (hH1 ▸ h) b
  simp only [zL] at hH1 k1
  have fin : ∀ {V : Value} {F : Heap}, D Tryd.prog hints 28 [v] H = some (V, F) → Ext H F → ∃ X, D Tryd.prog hints 28 [v] H = some (V, H ++ X) := by
    rintro V F h ⟨X, rfl⟩
    exact ⟨X, h⟩
  by_cases c0 : m.length = 88
  case neg =>
    obtain ⟨e, he⟩ : ∃ e, lenE m.length = some e := by
      unfold lenE
      by_cases h : m.length < 88
      · exact ⟨_, if_pos h⟩
      · exact ⟨1, by rw [if_neg h, if_pos (by omega)]⟩
    have hrC : rcC m = some e := by
      unfold rcC
      unfold lenE at he
      by_cases h1 : m.length < 88
      · rw [if_pos h1] at he ⊢; exact he
      · rw [if_neg h1] at he ⊢
        rw [if_pos (by omega)] at he ⊢
        exact he
    unfold rcR
    rw [hrC, if_neg (by simp)]
    rw [he] at el
    have hi := cd_some e
    refine fin ?_ (zs ⟨true, 26, Rec.z.L⟩ (Ext.refl H1))
    rw [q28]
    simp (maxDischargeDepth := 8) only [r28, b28, c28_0, c28_1, c28_2, c28_3, c28_4, c28_5, c28_6, c28_7, ← hH1, k1, i1, el, hi, Rec.L, Rec.z, RUN, Ed, knd, kndR, resV, binInt, mnmxV, mnmx2, fillL, unV, lenV, extractV, partV, loadAt, Nat.reduceAdd, Nat.reduceBEq, Nat.reduceEqDiff, Nat.reduceLT, Nat.reduceLeDiff, Nat.reduceMul, Nat.reduceSub, reduceIte, Int.reduceEq, Int.reduceNe, Int.reduceLT, Int.reduceLE, Int.reduceAdd, Int.reduceSub, Int.reduceMul, Int.reduceNeg, Int.reduceMod, Int.reduceDiv, Int.reduceTMod, Int.reduceTDiv, Int.reduceToNat, okChain_i, okLoads_nil, okLoads_in, okLoads_eq]
  rw [c0, lenE_88, cd_none] at el
  obtain ⟨r1, r2⟩ := rc_of m c0
  rw [r1, r2]
  obtain ⟨X2, e2⟩ := newest2_f v m (by omega) H1 B1
  obtain ⟨F2, hF2⟩ : ∃ F2, F2 = H1 ++ X2 := ⟨_, rfl⟩
  rw [← hF2] at e2
  have y2 : Ext H1 F2 := ⟨_, hF2⟩
  have k2 := y2.live k1
  have i2 := live_ltG k2
  by_cases hneg : nw m < 0
  · rw [if_pos hneg, if_pos hneg]
    refine fin ?_ (zs ⟨true, 26, Rec.z.L⟩ y2)
    rw [q28]
    simp (maxDischargeDepth := 8) only [r28, b28, c28_0, c28_1, c28_2, c28_3, c28_4, c28_5, c28_6, c28_7, ← hH1, k1, i1, el, e2, hneg, k2, i2, Rec.L, Rec.z, RUN, Ed, knd, kndR, resV, binInt, mnmxV, mnmx2, fillL, unV, lenV, extractV, partV, loadAt, Nat.reduceAdd, Nat.reduceBEq, Nat.reduceEqDiff, Nat.reduceLT, Nat.reduceLeDiff, Nat.reduceMul, Nat.reduceSub, reduceIte, Int.reduceEq, Int.reduceNe, Int.reduceLT, Int.reduceLE, Int.reduceAdd, Int.reduceSub, Int.reduceMul, Int.reduceNeg, Int.reduceMod, Int.reduceDiv, Int.reduceTMod, Int.reduceTDiv, Int.reduceToNat, okChain_i, okLoads_nil, okLoads_in, okLoads_eq]
    rfl
  · rw [if_neg hneg, if_neg hneg]
    obtain ⟨n1, n2, n3⟩ := nr_of m
    have hslot : ∃ u, sliceV 1 v (some (.int .i64 (44 * nw m))) (some (.int .i64 (44 * nw m + 44))) = some u ∧ ∃ s, s.length ≤ 1000000 ∧ BS H1 u (s.map w8) ∧ rdC s = none ∧ rdR s = nr m := by
      rcases nw_cases m c0 with ⟨h, _, _⟩ | ⟨h, h2⟩ | ⟨h, h2⟩
      · omega
      · obtain ⟨u, es, hu⟩ := B1.cut (lo := some (.int .i64 ((0 : Nat) : Int))) (hi := some (.int .i64 ((44 : Nat) : Int))) (l := 0) (r := 44) (bound_nat _ _ _) (bound_nat _ _ _) (by omega) (by rw [List.length_map]; omega)
        rw [List.drop_zero, ← List.map_take] at hu
        exact ⟨u, by rw [h]; exact es, m.take 44, by rw [List.length_take]; omega, hu, h2, (n1 h).symm⟩
      · obtain ⟨u, es, hu⟩ := B1.cut (lo := some (.int .i64 ((44 : Nat) : Int))) (hi := some (.int .i64 ((88 : Nat) : Int))) (l := 44) (r := 88) (bound_nat _ _ _) (bound_nat _ _ _) (by omega) (by rw [List.length_map]; omega)
        rw [← List.map_take, ← List.map_drop, List.take_of_length_le (by omega)] at hu
        exact ⟨u, by rw [h]; exact es, m.drop 44, by rw [List.length_drop]; omega, hu, h2, (n2 h).symm⟩
    obtain ⟨u, es, s, hsl, hu, hs1, hs2⟩ := hslot
    obtain ⟨X3, e3⟩ := read2_f u s hsl F2 (hu.ext y2)
    rw [hs1, hs2, cd_none] at e3
    obtain ⟨F3, hF3⟩ : ∃ F3, F3 = F2 ++ X3 := ⟨_, rfl⟩
    rw [← hF3] at e3
    have y3 : Ext F2 F3 := ⟨_, hF3⟩
    have k3 := y3.live k2
    have i3 := live_ltG k3
    have hb := nw_cases m c0
    have w1 : IntKind.i64.wrap (44 * nw m) = 44 * nw m := wrap64 _ (by omega) (by omega)
    have w2 : IntKind.i64.wrap (44 * nw m + 44) = 44 * nw m + 44 := wrap64 _ (by omega) (by omega)
    generalize nr m = Q at *
    obtain ⟨s1, m1, l1, a1, b1, c1, d1⟩ := Q
    simp only [Rec.L] at e3
    refine fin ?_ (zs ⟨true, 26, [.int .u32 s1, .int .i64 m1, .int .u32 l1, .int .i64 a1, .int .i64 b1, .int .i64 c1, .int .i64 d1]⟩ (y2.trans y3))
    rw [q28]
    simp (maxDischargeDepth := 8) only [r28, b28, c28_0, c28_1, c28_2, c28_3, c28_4, c28_5, c28_6, c28_7, ← hH1, k1, i1, el, e2, hneg, w1, w2, es, e3, k3, i3, cd_none, Rec.L, Rec.z, RUN, Ed, knd, kndR, resV, binInt, mnmxV, mnmx2, fillL, unV, lenV, extractV, partV, loadAt, Nat.reduceAdd, Nat.reduceBEq, Nat.reduceEqDiff, Nat.reduceLT, Nat.reduceLeDiff, Nat.reduceMul, Nat.reduceSub, reduceIte, Int.reduceEq, Int.reduceNe, Int.reduceLT, Int.reduceLE, Int.reduceAdd, Int.reduceSub, Int.reduceMul, Int.reduceNeg, Int.reduceMod, Int.reduceDiv, Int.reduceTMod, Int.reduceTDiv, Int.reduceToNat, okChain_i, okLoads_nil, okLoads_in, okLoads_eq]
theorem same_f (v u : Value) (l : List Wr) (hl : l.length ≤ 1000000) (H : Heap) (hv : WS H v l) (hu : WS H u l) : D Tryd.prog hints 33 [v, u] H = some (.bool true, H) := by
  have l1 := hv.len
  have l2 := hu.len
  have key : ∀ ρ0, ρ0 0 = v → ρ0 1 = u → ρ0 5 = .int .i64 (0 : Nat) → done [.tmp 4] (andThen (blk 0 (E Tryd.prog hints (.loop l33_0) ρ0 H)) (E Tryd.prog hints (.seq (.region c33_8) .ret))) = some (.bool true, H) := by
    intro ρ0 q0 q1 q5
    obtain ⟨ρ', G', e, hf, rfl⟩ := loop_keep (P := Tryd.prog) (hs := hints) (b := l33_0) (id := 0) ρ0 (fun j ρ G => ρ 5 = .int .i64 j ∧ G = H) (fun ρ G => G = H) l.length
      (by
        rintro j ρ G hj hf ⟨r5, rfl⟩
        have r0 := (hf 0 rfl).trans q0
        have r1 := (hf 1 rfl).trans q1
        have hp : l[j]? = some l[j] := List.getElem?_eq_getElem hj
        obtain ⟨i, x1, ow, ty, cells, x2, x3, x4, x5, x6⟩ := hv.idx hp
        obtain ⟨i', y1, ow', ty', cells', y2, y3, y4, y5, y6⟩ := hu.idx hp
        have i2 := live_ltG x2
        have i3 := live_ltG y2
        have hlt : (j : Int) < (l.length : Int) := by omega
        have wj := wrap64 ((j : Int) + 1) (by omega) (by omega)
        refine ⟨?ρ1, G, ?run1, ?_, rfl⟩
        case run1 =>
          simp (maxDischargeDepth := 8) only [l33_0, c33_0, c33_1, c33_2, c33_3, c33_4, c33_5, c33_6, c33_7, c33_8, r0, r1, r5, l1, hlt, x1, x2, x5, x6, y1, y2, y5, y6, i2, i3, wj, RUN, Ed, knd, kndR, resV, binInt, mnmxV, mnmx2, fillL, unV, extractV, partV, loadAt, Nat.reduceAdd, Nat.reduceBEq, Nat.reduceEqDiff, Nat.reduceLT, Nat.reduceLeDiff, Nat.reduceMul, Nat.reduceSub, reduceIte, Int.reduceEq, Int.reduceNe, Int.reduceLT, Int.reduceLE, Int.reduceAdd, Int.reduceSub, Int.reduceMul, Int.reduceNeg, Int.reduceMod, Int.reduceDiv, Int.reduceTMod, Int.reduceTDiv, Int.reduceToNat, okChain_i, okLoads_nil, okLoads_in, okLoads_eq]
          rfl
        first | (simp (maxDischargeDepth := 8) only [RUN, Ed, knd, kndR, resV, binInt, mnmxV, mnmx2, fillL, unV, lenV, extractV, partV, loadAt, Nat.reduceAdd, Nat.reduceBEq, Nat.reduceEqDiff, Nat.reduceLT, Nat.reduceLeDiff, Nat.reduceMul, Nat.reduceSub, reduceIte, Int.reduceEq, Int.reduceNe, Int.reduceLT, Int.reduceLE, Int.reduceAdd, Int.reduceSub, Int.reduceMul, Int.reduceNeg, Int.reduceMod, Int.reduceDiv, Int.reduceTMod, Int.reduceTDiv, Int.reduceToNat, okChain_i, okLoads_nil, okLoads_in, okLoads_eq]; done) | (simp (maxDischargeDepth := 8) only [RUN, Ed, knd, kndR, resV, binInt, mnmxV, mnmx2, fillL, unV, lenV, extractV, partV, loadAt, Nat.reduceAdd, Nat.reduceBEq, Nat.reduceEqDiff, Nat.reduceLT, Nat.reduceLeDiff, Nat.reduceMul, Nat.reduceSub, reduceIte, Int.reduceEq, Int.reduceNe, Int.reduceLT, Int.reduceLE, Int.reduceAdd, Int.reduceSub, Int.reduceMul, Int.reduceNeg, Int.reduceMod, Int.reduceDiv, Int.reduceTMod, Int.reduceTDiv, Int.reduceToNat, okChain_i, okLoads_nil, okLoads_in, okLoads_eq]; rfl))
      (by
        rintro ρ G hf ⟨r5, rfl⟩
        have r0 := (hf 0 rfl).trans q0
        have hlt : ¬ (l.length : Int) < (l.length : Int) := by omega
        refine ⟨?ρ2, G, ?run2, rfl⟩
        case run2 =>
          simp (maxDischargeDepth := 8) only [l33_0, c33_4, r0, r5, l1, hlt, RUN, Ed, knd, kndR, resV, binInt, mnmxV, mnmx2, fillL, unV, extractV, partV, loadAt, Nat.reduceAdd, Nat.reduceBEq, Nat.reduceEqDiff, Nat.reduceLT, Nat.reduceLeDiff, Nat.reduceMul, Nat.reduceSub, reduceIte, Int.reduceEq, Int.reduceNe, Int.reduceLT, Int.reduceLE, Int.reduceAdd, Int.reduceSub, Int.reduceMul, Int.reduceNeg, Int.reduceMod, Int.reduceDiv, Int.reduceTMod, Int.reduceTDiv, Int.reduceToNat, okChain_i, okLoads_nil, okLoads_in, okLoads_eq]
          rfl)
      H ⟨q5, rfl⟩
    rw [e]
    simp (maxDischargeDepth := 8) only [c33_8, RUN, Ed, knd, kndR, resV, binInt, mnmxV, mnmx2, fillL, unV, lenV, extractV, partV, loadAt, Nat.reduceAdd, Nat.reduceBEq, Nat.reduceEqDiff, Nat.reduceLT, Nat.reduceLeDiff, Nat.reduceMul, Nat.reduceSub, reduceIte, Int.reduceEq, Int.reduceNe, Int.reduceLT, Int.reduceLE, Int.reduceAdd, Int.reduceSub, Int.reduceMul, Int.reduceNeg, Int.reduceMod, Int.reduceDiv, Int.reduceTMod, Int.reduceTDiv, Int.reduceToNat, okChain_i, okLoads_nil, okLoads_in, okLoads_eq]
  rw [D_eq p33 _ _ (Nat.le_of_ble_eq_true rfl)]
  simp (maxDischargeDepth := 8) only [r33, b33, c33_0, c33_1, c33_2, c33_3, l1, l2, RUN, Ed, knd, kndR, resV, binInt, mnmxV, mnmx2, fillL, unV, extractV, partV, loadAt, Nat.reduceAdd, Nat.reduceBEq, Nat.reduceEqDiff, Nat.reduceLT, Nat.reduceLeDiff, Nat.reduceMul, Nat.reduceSub, reduceIte, Int.reduceEq, Int.reduceNe, Int.reduceLT, Int.reduceLE, Int.reduceAdd, Int.reduceSub, Int.reduceMul, Int.reduceNeg, Int.reduceMod, Int.reduceDiv, Int.reduceTMod, Int.reduceTDiv, Int.reduceToNat, okChain_i, okLoads_nil, okLoads_in, okLoads_eq]
  refine key _ ?_ ?_ ?_
  all_goals first | (simp (maxDischargeDepth := 8) only [RUN, Ed, knd, kndR, resV, binInt, mnmxV, mnmx2, fillL, unV, lenV, extractV, partV, loadAt, Nat.reduceAdd, Nat.reduceBEq, Nat.reduceEqDiff, Nat.reduceLT, Nat.reduceLeDiff, Nat.reduceMul, Nat.reduceSub, reduceIte, Int.reduceEq, Int.reduceNe, Int.reduceLT, Int.reduceLE, Int.reduceAdd, Int.reduceSub, Int.reduceMul, Int.reduceNeg, Int.reduceMod, Int.reduceDiv, Int.reduceTMod, Int.reduceTDiv, Int.reduceToNat, okChain_i, okLoads_nil, okLoads_in, okLoads_eq]; done) | (simp (maxDischargeDepth := 8) only [RUN, Ed, knd, kndR, resV, binInt, mnmxV, mnmx2, fillL, unV, lenV, extractV, partV, loadAt, Nat.reduceAdd, Nat.reduceBEq, Nat.reduceEqDiff, Nat.reduceLT, Nat.reduceLeDiff, Nat.reduceMul, Nat.reduceSub, reduceIte, Int.reduceEq, Int.reduceNe, Int.reduceLT, Int.reduceLE, Int.reduceAdd, Int.reduceSub, Int.reduceMul, Int.reduceNeg, Int.reduceMod, Int.reduceDiv, Int.reduceTMod, Int.reduceTDiv, Int.reduceToNat, okChain_i, okLoads_nil, okLoads_in, okLoads_eq]; rfl)
theorem step36 (H : Heap) (w u : Value) (m : List B8) (hm : m.length ≤ 1000000) (l : List Wr) (hl : l.length ≤ 1000000) (n : Int) (j : Nat) (p : Wr) (hp : l[j]? = some p) (hn : (j : Int) < n) (G : Heap) (hG : Ext H G) (hu : WS H u l) (hb : BO H G w m) (ρ : Fr) (q1 : ρ 1 = u) (q2 : ρ 2 = .int .i64 n) (q7 : ρ 7 = w) (q8 : ρ 8 = .int .i64 j) :
    ∃ ρ' F, E Tryd.prog hints l36_0 ρ G = some (.normal, ρ', F) ∧ ρ' 8 = .int .i64 (j + 1 : Nat) ∧ Ext H F ∧ BO H F w (st m p) := by
  obtain ⟨i, x1, ow, ty, cells, x2', x3, x4, x5, x6⟩ := hu.idx hp
  have i0 := live_ltG x2'
  have x2 := hG.live x2'
  have i2 := live_ltG x2
  have hj : j < l.length := by
    rcases Nat.lt_or_ge j l.length with q | q
    · exact q
    · rw [List.getElem?_eq_none q] at hp; cases hp
  have hlt : (j : Int) < (l.length : Int) := by omega
  have wj := wrap64 ((j : Int) + 1) (by omega) (by omega)
  obtain ⟨a, b⟩ := p
  simp only at x5 x6
  have lw := hb.len
  have lu := hu.len
  by_cases c1 : 0 ≤ a
  · by_cases c2 : a < m.length
    · have hst : st m (a, b) = m.set a.toNat b := if_pos ⟨c1, c2⟩
      rw [hst]
      obtain ⟨k, rfl⟩ : ∃ k : Nat, a = k := ⟨a.toNat, by omega⟩
      rw [Int.toNat_natCast]
      obtain ⟨c, z1, z2, z3, z4, z5, z6⟩ := hb.put (i := k) (by omega) b
      have i3 := live_ltG z2
      have hne : ¬ (i = c) := by omega
      have hne' : ¬ (c = i) := by omega
      refine ⟨?ρ1, _, ?run1, ?_, hG.set z3 _, z6⟩
      case run1 =>
        simp (maxDischargeDepth := 8) only [l36_0, c36_0, c36_1, c36_2, c36_3, c36_4, c36_5, c36_6, c36_7, q1, q2, q7, q8, hlt, hn, wj, x1, x2, x5, x6, i2, lw, lu, c1, c2, z1, z2, z4, z5, i3, hne, hne', RUN, Ed, knd, kndR, resV, binInt, mnmxV, mnmx2, fillL, unV, extractV, partV, loadAt, Nat.reduceAdd, Nat.reduceBEq, Nat.reduceEqDiff, Nat.reduceLT, Nat.reduceLeDiff, Nat.reduceMul, Nat.reduceSub, reduceIte, Int.reduceEq, Int.reduceNe, Int.reduceLT, Int.reduceLE, Int.reduceAdd, Int.reduceSub, Int.reduceMul, Int.reduceNeg, Int.reduceMod, Int.reduceDiv, Int.reduceTMod, Int.reduceTDiv, Int.reduceToNat, okChain_i, okLoads_nil, okLoads_in, okLoads_eq]
        rfl
      simp (maxDischargeDepth := 8) only [RUN, Ed, knd, kndR, resV, binInt, mnmxV, mnmx2, fillL, unV, lenV, extractV, partV, loadAt, Nat.reduceAdd, Nat.reduceBEq, Nat.reduceEqDiff, Nat.reduceLT, Nat.reduceLeDiff, Nat.reduceMul, Nat.reduceSub, reduceIte, Int.reduceEq, Int.reduceNe, Int.reduceLT, Int.reduceLE, Int.reduceAdd, Int.reduceSub, Int.reduceMul, Int.reduceNeg, Int.reduceMod, Int.reduceDiv, Int.reduceTMod, Int.reduceTDiv, Int.reduceToNat, okChain_i, okLoads_nil, okLoads_in, okLoads_eq]; rfl
    · have hst : st m (a, b) = m := if_neg (fun h => c2 h.2)
      rw [hst]
      refine ⟨?ρ2, G, ?run2, ?_, hG, hb⟩
      case run2 =>
        simp (maxDischargeDepth := 8) only [l36_0, c36_0, c36_1, c36_2, c36_3, c36_4, c36_5, c36_6, c36_7, q1, q2, q7, q8, hlt, hn, wj, x1, x2, x5, x6, i2, lw, lu, c1, c2, RUN, Ed, knd, kndR, resV, binInt, mnmxV, mnmx2, fillL, unV, extractV, partV, loadAt, Nat.reduceAdd, Nat.reduceBEq, Nat.reduceEqDiff, Nat.reduceLT, Nat.reduceLeDiff, Nat.reduceMul, Nat.reduceSub, reduceIte, Int.reduceEq, Int.reduceNe, Int.reduceLT, Int.reduceLE, Int.reduceAdd, Int.reduceSub, Int.reduceMul, Int.reduceNeg, Int.reduceMod, Int.reduceDiv, Int.reduceTMod, Int.reduceTDiv, Int.reduceToNat, okChain_i, okLoads_nil, okLoads_in, okLoads_eq]
        rfl
      simp (maxDischargeDepth := 8) only [RUN, Ed, knd, kndR, resV, binInt, mnmxV, mnmx2, fillL, unV, lenV, extractV, partV, loadAt, Nat.reduceAdd, Nat.reduceBEq, Nat.reduceEqDiff, Nat.reduceLT, Nat.reduceLeDiff, Nat.reduceMul, Nat.reduceSub, reduceIte, Int.reduceEq, Int.reduceNe, Int.reduceLT, Int.reduceLE, Int.reduceAdd, Int.reduceSub, Int.reduceMul, Int.reduceNeg, Int.reduceMod, Int.reduceDiv, Int.reduceTMod, Int.reduceTDiv, Int.reduceToNat, okChain_i, okLoads_nil, okLoads_in, okLoads_eq]; rfl
  · have hst : st m (a, b) = m := if_neg (fun h => c1 h.1)
    rw [hst]
    refine ⟨?ρ3, G, ?run3, ?_, hG, hb⟩
    case run3 =>
      simp (maxDischargeDepth := 8) only [l36_0, c36_0, c36_1, c36_2, c36_3, c36_4, c36_5, c36_6, c36_7, q1, q2, q7, q8, hlt, hn, wj, x1, x2, x5, x6, i2, lw, lu, c1, RUN, Ed, knd, kndR, resV, binInt, mnmxV, mnmx2, fillL, unV, extractV, partV, loadAt, Nat.reduceAdd, Nat.reduceBEq, Nat.reduceEqDiff, Nat.reduceLT, Nat.reduceLeDiff, Nat.reduceMul, Nat.reduceSub, reduceIte, Int.reduceEq, Int.reduceNe, Int.reduceLT, Int.reduceLE, Int.reduceAdd, Int.reduceSub, Int.reduceMul, Int.reduceNeg, Int.reduceMod, Int.reduceDiv, Int.reduceTMod, Int.reduceTDiv, Int.reduceToNat, okChain_i, okLoads_nil, okLoads_in, okLoads_eq]
      rfl
    simp (maxDischargeDepth := 8) only [RUN, Ed, knd, kndR, resV, binInt, mnmxV, mnmx2, fillL, unV, lenV, extractV, partV, loadAt, Nat.reduceAdd, Nat.reduceBEq, Nat.reduceEqDiff, Nat.reduceLT, Nat.reduceLeDiff, Nat.reduceMul, Nat.reduceSub, reduceIte, Int.reduceEq, Int.reduceNe, Int.reduceLT, Int.reduceLE, Int.reduceAdd, Int.reduceSub, Int.reduceMul, Int.reduceNeg, Int.reduceMod, Int.reduceDiv, Int.reduceTMod, Int.reduceTDiv, Int.reduceToNat, okChain_i, okLoads_nil, okLoads_in, okLoads_eq]; rfl
theorem apply2_f (v ws : Value) (m : List B8) (hm : m.length ≤ 1000000) (l : List Wr) (hl : l.length ≤ 1000000) (n : Int) (H : Heap) (hB : BS H v (m.map w8)) (hW : WS H ws l) : ∃ w F, D Tryd.prog hints 36 [v, ws, .int .i64 n] H = some (w, F) ∧ Ext H F ∧ BO H F w (ap m (l.take n.toNat)) := by
  obtain ⟨w, X, e1, hb⟩ := bytes_BO H v m hm hB
  obtain ⟨k, hk⟩ : ∃ k, k = min n.toNat l.length := ⟨_, rfl⟩
  have htk : l.take n.toNat = l.take k := by
    rw [hk]
    rcases Nat.le_total n.toNat l.length with h | h
    · rw [Nat.min_eq_left h]
    · rw [Nat.min_eq_right h, List.take_of_length_le h, List.take_length]
  rw [htk]
  have lw := hW.len
  have key : ∀ ρ0, ρ0 1 = ws → ρ0 2 = .int .i64 n → ρ0 7 = w → ρ0 8 = .int .i64 (0 : Nat) → ∃ F', done [.tmp 6] (andThen (blk 0 (E Tryd.prog hints (.loop l36_0) ρ0 (H ++ X))) (E Tryd.prog hints (.seq (.region c36_7) .ret))) = some (w, F') ∧ Ext H F' ∧ BO H F' w (ap m (l.take k)) := by
    intro ρ0 q1 q2 q7 q8
    obtain ⟨ρ', G', e, hf, hE', hb'⟩ := loop_keep (P := Tryd.prog) (hs := hints) (b := l36_0) (id := 0) ρ0 (fun j ρ G => ρ 8 = .int .i64 j ∧ Ext H G ∧ BO H G w (ap m (l.take j))) (fun ρ G => Ext H G ∧ BO H G w (ap m (l.take k))) k
      (by
        rintro j ρ G hj hf ⟨r8, hG, hbj⟩
        have hjl : j < l.length := by omega
        have hp : l[j]? = some l[j] := List.getElem?_eq_getElem hjl
        obtain ⟨ρ', F', e, s8, hF', hb'⟩ := step36 H w ws (ap m (l.take j)) (by rw [ap_len]; exact hm) l hl n j _ hp (by omega) G hG hW hbj ρ ((hf 1 rfl).trans q1) ((hf 2 rfl).trans q2) ((hf 7 rfl).trans q7) r8
        refine ⟨ρ', F', e, s8, hF', ?_⟩
        rw [take_getG l j _ hp, ap_app]
        exact hb')
      (by
        rintro ρ G hf ⟨r8, hG, hbj⟩
        have r1 := (hf 1 rfl).trans q1
        have r2 := (hf 2 rfl).trans q2
        by_cases c : (k : Int) < (l.length : Int)
        · have hlt : ¬ (k : Int) < n := by omega
          refine ⟨?ρ2, G, ?run2, hG, hbj⟩
          case run2 =>
            simp (maxDischargeDepth := 8) only [l36_0, c36_3, r1, r2, r8, lw, c, hlt, RUN, Ed, knd, kndR, resV, binInt, mnmxV, mnmx2, fillL, unV, extractV, partV, loadAt, Nat.reduceAdd, Nat.reduceBEq, Nat.reduceEqDiff, Nat.reduceLT, Nat.reduceLeDiff, Nat.reduceMul, Nat.reduceSub, reduceIte, Int.reduceEq, Int.reduceNe, Int.reduceLT, Int.reduceLE, Int.reduceAdd, Int.reduceSub, Int.reduceMul, Int.reduceNeg, Int.reduceMod, Int.reduceDiv, Int.reduceTMod, Int.reduceTDiv, Int.reduceToNat, okChain_i, okLoads_nil, okLoads_in, okLoads_eq]
            rfl
        · refine ⟨?ρ3, G, ?run3, hG, hbj⟩
          case run3 =>
            simp (maxDischargeDepth := 8) only [l36_0, c36_3, r1, r2, r8, lw, c, RUN, Ed, knd, kndR, resV, binInt, mnmxV, mnmx2, fillL, unV, extractV, partV, loadAt, Nat.reduceAdd, Nat.reduceBEq, Nat.reduceEqDiff, Nat.reduceLT, Nat.reduceLeDiff, Nat.reduceMul, Nat.reduceSub, reduceIte, Int.reduceEq, Int.reduceNe, Int.reduceLT, Int.reduceLE, Int.reduceAdd, Int.reduceSub, Int.reduceMul, Int.reduceNeg, Int.reduceMod, Int.reduceDiv, Int.reduceTMod, Int.reduceTDiv, Int.reduceToNat, okChain_i, okLoads_nil, okLoads_in, okLoads_eq]
            rfl)
      (H ++ X) ⟨q8, Ext.more _ _, hb⟩
    have r7 := (hf 7 rfl).trans q7
    refine ⟨G', ?_, hE', hb'⟩
    rw [e]
    simp (maxDischargeDepth := 8) only [c36_7, r7, RUN, Ed, knd, kndR, resV, binInt, mnmxV, mnmx2, fillL, unV, lenV, extractV, partV, loadAt, Nat.reduceAdd, Nat.reduceBEq, Nat.reduceEqDiff, Nat.reduceLT, Nat.reduceLeDiff, Nat.reduceMul, Nat.reduceSub, reduceIte, Int.reduceEq, Int.reduceNe, Int.reduceLT, Int.reduceLE, Int.reduceAdd, Int.reduceSub, Int.reduceMul, Int.reduceNeg, Int.reduceMod, Int.reduceDiv, Int.reduceTMod, Int.reduceTDiv, Int.reduceToNat, okChain_i, okLoads_nil, okLoads_in, okLoads_eq]
  have fin : ∀ V, (∃ F', V = some (w, F') ∧ Ext H F' ∧ BO H F' w (ap m (l.take k))) → ∃ w F', V = some (w, F') ∧ Ext H F' ∧ BO H F' w (ap m (l.take k)) := fun V ⟨F', h⟩ => ⟨w, F', h⟩
  rw [D_eq p36 _ _ (Nat.le_of_ble_eq_true rfl)]
  apply fin
  simp (maxDischargeDepth := 8) only [r36, b36, c36_0, c36_1, c36_2, e1, RUN, Ed, knd, kndR, resV, binInt, mnmxV, mnmx2, fillL, unV, extractV, partV, loadAt, Nat.reduceAdd, Nat.reduceBEq, Nat.reduceEqDiff, Nat.reduceLT, Nat.reduceLeDiff, Nat.reduceMul, Nat.reduceSub, reduceIte, Int.reduceEq, Int.reduceNe, Int.reduceLT, Int.reduceLE, Int.reduceAdd, Int.reduceSub, Int.reduceMul, Int.reduceNeg, Int.reduceMod, Int.reduceDiv, Int.reduceTMod, Int.reduceTDiv, Int.reduceToNat, okChain_i, okLoads_nil, okLoads_in, okLoads_eq]
  refine key _ ?_ ?_ ?_ ?_
  all_goals first | (simp (maxDischargeDepth := 8) only [RUN, Ed, knd, kndR, resV, binInt, mnmxV, mnmx2, fillL, unV, lenV, extractV, partV, loadAt, Nat.reduceAdd, Nat.reduceBEq, Nat.reduceEqDiff, Nat.reduceLT, Nat.reduceLeDiff, Nat.reduceMul, Nat.reduceSub, reduceIte, Int.reduceEq, Int.reduceNe, Int.reduceLT, Int.reduceLE, Int.reduceAdd, Int.reduceSub, Int.reduceMul, Int.reduceNeg, Int.reduceMod, Int.reduceDiv, Int.reduceTMod, Int.reduceTDiv, Int.reduceToNat, okChain_i, okLoads_nil, okLoads_in, okLoads_eq]; done) | (simp (maxDischargeDepth := 8) only [RUN, Ed, knd, kndR, resV, binInt, mnmxV, mnmx2, fillL, unV, lenV, extractV, partV, loadAt, Nat.reduceAdd, Nat.reduceBEq, Nat.reduceEqDiff, Nat.reduceLT, Nat.reduceLeDiff, Nat.reduceMul, Nat.reduceSub, reduceIte, Int.reduceEq, Int.reduceNe, Int.reduceLT, Int.reduceLE, Int.reduceAdd, Int.reduceSub, Int.reduceMul, Int.reduceNeg, Int.reduceMod, Int.reduceDiv, Int.reduceTMod, Int.reduceTDiv, Int.reduceToNat, okChain_i, okLoads_nil, okLoads_in, okLoads_eq]; rfl)
/-- The writes that a record asks for, or what is amiss. -/
def wpair (m : List B8) (r : Rec) : List Wr × Option Nat := match lenE m.length with
  | some e => ([], some e)
  | none => if good r = true then (wrs (rn m r) (aw m), none) else ([], some 0)
theorem lenE_none {n : Nat} (h : lenE n = none) : n = 88 := by
  unfold lenE at h
  split at h
  · cases h
  · split at h
    · cases h
    · omega
theorem wpair_lt (m : List B8) (r : Rec) : ∀ i, (wpair m r).2 = some i → i < 7 := by
  intro i h
  unfold wpair at h
  cases he : lenE m.length with
  | some e =>
    rw [he] at h
    simp only at h
    injection h with h
    have := lenE_lt he
    omega
  | none =>
    rw [he] at h
    simp only at h
    split at h
    · cases h
    · simp only at h; injection h with h; omega
theorem wpair_len (m : List B8) (r : Rec) : (wpair m r).1.length ≤ 45 := by
  unfold wpair
  cases lenE m.length with
  | some e => simp
  | none =>
    simp only
    split
    · rw [wrs_len]; omega
    · simp
theorem writesG_f (v : Value) (m : List B8) (hm : m.length ≤ 1000000) (r : Rec) (H : Heap) (hE : EH all7 H) (hB : BS H v (m.map w8)) : ∃ w F, D Tryd.prog hints 29 [v, .agg ⟨r.L⟩] H = some (.tuple ⟨[w, EV (wpair m r).2]⟩, F) ∧ Ext H F ∧ WS F w (wpair m r).1 := by
  obtain ⟨H1, hH1⟩ : ∃ H1, H1 = H ++ [some ⟨true, 26, r.L⟩] := ⟨_, rfl⟩
  have x1 : Ext H H1 := ⟨_, hH1⟩
  have k1 : live H1 H.length = some ⟨true, 26, r.L⟩ := by rw [hH1]; exact (live_app_len _ _).trans rfl
  have E1 := hE.ext x1
  have B1 := hB.ext x1
  have el := length_f v m (by omega) H1 E1 B1
  unfold wpair
  cases he : lenE m.length with
  | some e =>
    rw [he] at el
    simp only [EV] at el
    refine ⟨.slice none 0 0, H1, ?_, x1, .inl ⟨rfl, 0, rfl⟩⟩
    simp only [Rec.L] at hH1
    rw [D_eq p29 _ _ (Nat.le_of_ble_eq_true rfl)]
    simp (maxDischargeDepth := 8) only [r29, b29, c29_0, c29_1, c29_2, c29_3, c29_4, c29_5, c29_6, c29_7, c29_8, c29_9, c29_10, c29_11, c29_12, c29_13, c29_14, c29_15, c29_16, c29_17, c29_18, Rec.L, ← hH1, el, same_En, EV, RUN, Ed, knd, kndR, resV, binInt, mnmxV, mnmx2, fillL, unV, lenV, extractV, partV, loadAt, Nat.reduceAdd, Nat.reduceBEq, Nat.reduceEqDiff, Nat.reduceLT, Nat.reduceLeDiff, Nat.reduceMul, Nat.reduceSub, reduceIte, Int.reduceEq, Int.reduceNe, Int.reduceLT, Int.reduceLE, Int.reduceAdd, Int.reduceSub, Int.reduceMul, Int.reduceNeg, Int.reduceMod, Int.reduceDiv, Int.reduceTMod, Int.reduceTDiv, Int.reduceToNat, okChain_i, okLoads_nil, okLoads_in, okLoads_eq]
  | none =>
    have hm88 := lenE_none he
    simp only
    by_cases hg : good r = true
    · rw [if_pos hg]
      exact writes_f v m hm88 r hg H hE hB
    · rw [if_neg hg]
      have hg' : good r = false := by simpa using hg
      rw [he] at el
      simp only [EV] at el
      obtain ⟨F, en, yF⟩ := newest_f v m (by omega) H1 E1 B1
      obtain ⟨G, hG⟩ : ∃ G, G = F ++ [some ⟨true, 26, (nr m).L⟩] := ⟨_, rfl⟩
      have yG : Ext F G := ⟨_, hG⟩
      have zG := yF.trans yG
      have k2 : live G F.length = some ⟨true, 26, (nr m).L⟩ := by rw [hG]; exact (live_app_len _ _).trans rfl
      have i2 := live_ltG k2
      have k3 := zG.live k1
      have i3 := live_ltG k3
      have hgn : good (rn m r) = false := hg'
      obtain ⟨G', hG'⟩ : ∃ G', G' = G.set H.length (some ⟨true, 26, (rn m r).L⟩) := ⟨_, rfl⟩
      have yG' : Ext H G' := by rw [hG']; exact (x1.trans zG).set (Nat.le_refl _) _
      have k4 : live G' H.length = some ⟨true, 26, (rn m r).L⟩ := by rw [hG']; exact live_set_eq _ _ _ i3
      have i4 := live_ltG k4
      obtain ⟨X, e14⟩ := recBytes_bad (rn m r) hgn G' (hE.ext yG')
      have hrn : (rn m r).L = [.int .u32 (IntKind.u32.wrap ((nr m).s + 1)), .int .i64 r.m, .int .u32 r.l, .int .i64 r.a, .int .i64 r.b, .int .i64 r.c, .int .i64 r.d] := rfl
      rw [hrn] at hG' k4 e14
      refine ⟨.slice none 0 0, G' ++ X, ?_, yG'.app X, .inl ⟨rfl, 0, rfl⟩⟩
      generalize rn m r = RN at *
      generalize nr m = R at *
      obtain ⟨s1, m1, l1, a1, b1, c1, d1⟩ := R
      obtain ⟨s2, m2, l2, a2, b2, c2, d2⟩ := r
      simp only [Rec.L] at hH1 k1 en hG k2 k3 hG' k4 e14
      rw [D_eq p29 _ _ (Nat.le_of_ble_eq_true rfl)]
      simp (maxDischargeDepth := 8) only [r29, b29, c29_0, c29_1, c29_2, c29_3, c29_4, c29_5, c29_6, c29_7, c29_8, c29_9, c29_10, c29_11, c29_12, c29_13, c29_14, c29_15, c29_16, c29_17, c29_18, Rec.L, ← hH1, el, en, ← hG, k2, i2, k3, i3, ← hG', k4, i4, e14, same_En, EV, RUN, Ed, knd, kndR, resV, binInt, mnmxV, mnmx2, fillL, unV, lenV, extractV, partV, loadAt, Nat.reduceAdd, Nat.reduceBEq, Nat.reduceEqDiff, Nat.reduceLT, Nat.reduceLeDiff, Nat.reduceMul, Nat.reduceSub, reduceIte, Int.reduceEq, Int.reduceNe, Int.reduceLT, Int.reduceLE, Int.reduceAdd, Int.reduceSub, Int.reduceMul, Int.reduceNeg, Int.reduceMod, Int.reduceDiv, Int.reduceTMod, Int.reduceTDiv, Int.reduceToNat, okChain_i, okLoads_nil, okLoads_in, okLoads_eq]
def WP (H G : Heap) (w : Value) (l : List Wr) : Prop := SM 60 2 H G w l.length (wC l)
theorem WP.WS {H G : Heap} {w : Value} {l : List Wr} (h : WP H G w l) : Sim.WS G w l := by
  rcases h with ⟨h1, rfl, _⟩ | ⟨c, _, rfl, h3, _⟩
  · exact .inl ⟨List.eq_nil_of_length_eq_zero h1, 0, rfl⟩
  · exact .inr ⟨c, 2, true, 60, wC l, rfl, h3, wC_get l⟩
theorem WP.app1 {H G : Heap} {w : Value} {l : List Wr} (h : WP H G w l) (hG : Ext H G) (hl : l.length ≤ 1000000) (a : Int) (b : B8) : ∃ w' F', appendV 60 2 16 (G ++ [some ⟨true, 60, [.int .i64 a, .int .u8 (w8 b)]⟩]) w (.slice (some ⟨G.length, 0, none⟩) 1 2) = some (w', F') ∧ WP H F' w' (l ++ [(a, b)]) ∧ Ext H F' := by
  obtain ⟨w', F', h1, h2, h3, _⟩ := SM.append (bytes := 16) h hG (Ext.more G [some ⟨true, 60, [.int .i64 a, .int .u8 (w8 b)]⟩]) (j := G.length) (m := 1) (e := 2) ((live_app_len _ _).trans rfl) (by omega) (by rfl) (by omega) (by rfl)
  refine ⟨w', F', h1, ?_, h3⟩
  unfold WP
  rw [wC_app, List.length_append]
  exact h2
theorem loop30 (r : Rec) (k : Nat) (hk : k ≤ 44) (H : Heap) (u w : Value) (hu : BS H u ((recB r).map w8)) (G : Heap) (hG : Ext H G) (hw : WP H G w (wrk r k 0)) (ρ0 : Fr) (q8 : ρ0 8 = .int .i64 (k : Nat)) (q11 : ρ0 11 = u) (q12 : ρ0 12 = w) (q13 : ρ0 13 = .int .i64 (0 + 1 : Nat)) :
    ∃ ρ' G' w', E Tryd.prog hints (.loop l30_0) ρ0 G = some (.exit 0, ρ', G') ∧ ρ' 8 = .int .i64 (k : Nat) ∧ ρ' 11 = u ∧ ρ' 12 = w' ∧ Ext H G' ∧ WP H G' w' (wrk r k 43) := by
  have hlen := recB_len r
  have lu := hu.len
  rw [List.length_map, hlen] at lu
  have lu' : lenV false u = some (.int .i64 44) := lu
  obtain ⟨ρ', G', e, hf, w', h12, hE', hw'⟩ := loop_keep (P := Tryd.prog) (hs := hints) (b := l30_0) (id := 0) ρ0 (fun j ρ G => ∃ w', ρ 13 = .int .i64 (j + 1 : Nat) ∧ ρ 12 = w' ∧ Ext H G ∧ WP H G w' (wrk r k j)) (fun ρ G => ∃ w', ρ 12 = w' ∧ Ext H G ∧ WP H G w' (wrk r k 43)) 43
    (by
      rintro j ρ F hj hf ⟨w1, r13, r12, hF, hw1⟩
      have r8 := (hf 8 rfl).trans q8
      have r11 := (hf 11 rfl).trans q11
      obtain ⟨i, o, x1, ow, ty, cells, x2, x3⟩ := (hu.ext hF).idx (map_get (ix_get (m := recB r) (i := j + 1) (by omega)))
      have i2 := live_ltG x2
      obtain ⟨q, hq⟩ : ∃ q, q = k + 1 + j := ⟨_, rfl⟩
      obtain ⟨J, hJ⟩ : ∃ J, J = j + 1 := ⟨_, rfl⟩
      have w2' : IntKind.i64.wrap ((k : Int) + (J : Int)) = ((q : Nat) : Int) := by rw [wrap64 _ (by omega) (by omega)]; omega
      have hlt : (J : Int) < 44 := by omega
      have wj : IntKind.i64.wrap ((J : Int) + 1) = ((j + 1 + 1 : Nat) : Int) := by rw [wrap64 _ (by omega) (by omega)]; omega
      obtain ⟨w2, F2, ea, hw2, hE2⟩ := hw1.app1 hF (by rw [wrk_len]; omega) ((q : Nat) : Int) (ix (recB r) (j + 1))
      rw [hq, ← wrk_succ] at hw2
      rw [← hJ] at r13 x1 x3 ea
      refine ⟨?ρ1, F2, ?run1, w2, ?_, ?_, hE2, hw2⟩
      case run1 =>
        simp (maxDischargeDepth := 8) only [l30_0, c30_0, c30_1, c30_2, c30_3, c30_4, c30_5, c30_6, c30_7, c30_8, c30_9, c30_10, c30_11, c30_12, c30_13, c30_14, c30_15, c30_16, c30_17, c30_18, c30_19, r8, r11, r12, r13, lu', hlt, wj, w2', x1, x2, x3, i2, fillL, ea, RUN, Ed, knd, kndR, resV, binInt, mnmxV, mnmx2, fillL, unV, extractV, partV, loadAt, Nat.reduceAdd, Nat.reduceBEq, Nat.reduceEqDiff, Nat.reduceLT, Nat.reduceLeDiff, Nat.reduceMul, Nat.reduceSub, reduceIte, Int.reduceEq, Int.reduceNe, Int.reduceLT, Int.reduceLE, Int.reduceAdd, Int.reduceSub, Int.reduceMul, Int.reduceNeg, Int.reduceMod, Int.reduceDiv, Int.reduceTMod, Int.reduceTDiv, Int.reduceToNat, okChain_i, okLoads_nil, okLoads_in, okLoads_eq]
        rfl
      all_goals first | (simp (maxDischargeDepth := 8) only [RUN, Ed, knd, kndR, resV, binInt, mnmxV, mnmx2, fillL, unV, lenV, extractV, partV, loadAt, Nat.reduceAdd, Nat.reduceBEq, Nat.reduceEqDiff, Nat.reduceLT, Nat.reduceLeDiff, Nat.reduceMul, Nat.reduceSub, reduceIte, Int.reduceEq, Int.reduceNe, Int.reduceLT, Int.reduceLE, Int.reduceAdd, Int.reduceSub, Int.reduceMul, Int.reduceNeg, Int.reduceMod, Int.reduceDiv, Int.reduceTMod, Int.reduceTDiv, Int.reduceToNat, okChain_i, okLoads_nil, okLoads_in, okLoads_eq]; done) | (simp (maxDischargeDepth := 8) only [RUN, Ed, knd, kndR, resV, binInt, mnmxV, mnmx2, fillL, unV, lenV, extractV, partV, loadAt, Nat.reduceAdd, Nat.reduceBEq, Nat.reduceEqDiff, Nat.reduceLT, Nat.reduceLeDiff, Nat.reduceMul, Nat.reduceSub, reduceIte, Int.reduceEq, Int.reduceNe, Int.reduceLT, Int.reduceLE, Int.reduceAdd, Int.reduceSub, Int.reduceMul, Int.reduceNeg, Int.reduceMod, Int.reduceDiv, Int.reduceTMod, Int.reduceTDiv, Int.reduceToNat, okChain_i, okLoads_nil, okLoads_in, okLoads_eq]; rfl))
    (by
      rintro ρ F hf ⟨w1, r13, r12, hF, hw1⟩
      have r11 := (hf 11 rfl).trans q11
      have r13' : ρ 13 = .int .i64 44 := r13
      refine ⟨?ρ2, F, ?run2, w1, ?_, hF, hw1⟩
      case run2 =>
        simp (maxDischargeDepth := 8) only [l30_0, c30_16, r11, r13', lu', RUN, Ed, knd, kndR, resV, binInt, mnmxV, mnmx2, fillL, unV, extractV, partV, loadAt, Nat.reduceAdd, Nat.reduceBEq, Nat.reduceEqDiff, Nat.reduceLT, Nat.reduceLeDiff, Nat.reduceMul, Nat.reduceSub, reduceIte, Int.reduceEq, Int.reduceNe, Int.reduceLT, Int.reduceLE, Int.reduceAdd, Int.reduceSub, Int.reduceMul, Int.reduceNeg, Int.reduceMod, Int.reduceDiv, Int.reduceTMod, Int.reduceTDiv, Int.reduceToNat, okChain_i, okLoads_nil, okLoads_in, okLoads_eq]
        rfl
      simp (maxDischargeDepth := 8) only [r12, RUN, Ed, knd, kndR, resV, binInt, mnmxV, mnmx2, fillL, unV, lenV, extractV, partV, loadAt, Nat.reduceAdd, Nat.reduceBEq, Nat.reduceEqDiff, Nat.reduceLT, Nat.reduceLeDiff, Nat.reduceMul, Nat.reduceSub, reduceIte, Int.reduceEq, Int.reduceNe, Int.reduceLT, Int.reduceLE, Int.reduceAdd, Int.reduceSub, Int.reduceMul, Int.reduceNeg, Int.reduceMod, Int.reduceDiv, Int.reduceTMod, Int.reduceTDiv, Int.reduceToNat, okChain_i, okLoads_nil, okLoads_in, okLoads_eq])
    G ⟨w, q13, q12, hG, hw⟩
  exact ⟨ρ', G', w', e, (hf 8 rfl).trans q8, (hf 11 rfl).trans q11, h12, hE', hw'⟩
def t30 : RCode := (.seq (.region c30_13) (.seq (.region c30_14) (.seq (.seq (.region c30_15) (.block 0 (.loop l30_0))) (.seq (.region c30_19) .ret))))
theorem b30t : b30 = (.seq (.region c30_0) (.seq (.region c30_1) (.seq (.seq (.region c30_2) (.cond (.tmp 17) (.seq (.region c30_3) .ret) .skip)) (.seq (.seq (.region c30_4) (.cond (.tmp 21) (.seq (.region c30_5) .ret) .skip)) (.seq (.region c30_6) (.seq (.region c30_7) (.seq (.region c30_8) (.seq (.seq (.region c30_9) (.cond (.tmp 26) (.seq (.region c30_10) (.seq (.region c30_11) (.region c30_12))) .skip)) t30)))))))) := (rfl)
theorem tail30 (r : Rec) (k : Nat) (hk : k ≤ 44) (H : Heap) (p : Nat) (kp : live H p = some ⟨true, 26, r.L⟩) (ρ : Fr) (q3 : ρ 3 = .pointer (some ⟨p, 0, none⟩)) (q8 : ρ 8 = .int .i64 (k : Nat)) : ∃ w' F, done [.tmp 4, .tmp 5] (E Tryd.prog hints t30 ρ H) = some (.tuple ⟨[w', .int .i64 0]⟩, F) ∧ Ext H F ∧ WS F w' (wrs r k) := by
  have hlen := recB_len r
  have ip := live_ltG kp
  obtain ⟨u, F, e1, y1, hb⟩ := recBytes2_f r H
  obtain ⟨G, hG⟩ : ∃ G, G = F ++ [some ⟨true, 60, [.int .i64 (k : Nat), .int .u8 (w8 0#8)]⟩] := ⟨_, rfl⟩
  have yG : Ext F G := ⟨_, hG⟩
  have hw0 : WP F G (.slice (some ⟨F.length, 0, none⟩) 1 2) (wrk r k 0) := .inr ⟨F.length, Nat.le_refl _, rfl, by rw [hG]; exact (live_app_len _ _).trans rfl, rfl⟩
  have key : ∀ ρ0, ρ0 8 = .int .i64 (k : Nat) → ρ0 11 = u → ρ0 12 = .slice (some ⟨F.length, 0, none⟩) 1 2 → ρ0 13 = .int .i64 (0 + 1 : Nat) → ∃ w' F', done [.tmp 4, .tmp 5] (andThen (blk 0 (E Tryd.prog hints (.loop l30_0) ρ0 G)) (E Tryd.prog hints (.seq (.region c30_19) .ret))) = some (.tuple ⟨[w', .int .i64 0]⟩, F') ∧ Ext H F' ∧ WS F' w' (wrs r k) := by
    intro ρ0 p8 p11 p12 p13
    obtain ⟨ρ', G', w', e, a8, a11, a12, hE', hw'⟩ := loop30 r k hk F u _ hb.BS G yG hw0 ρ0 p8 p11 p12 p13
    obtain ⟨i, o, x1, ow, ty, cells, x2, x3⟩ := (hb.BS.ext hE').idx (map_get (ix_get (m := recB r) (i := 0) (by omega)))
    have i2 := live_ltG x2
    have x1' : idxSV 1 u (.int .i64 0) = some (.pointer (some ⟨i, o, none⟩)) := x1
    have x3' : cells[o]? = some (.int .u8 165) := x3
    obtain ⟨w2, F2, ea, hw2, hE2⟩ := hw'.app1 hE' (by rw [wrk_len]; omega) ((k : Nat) : Int) 0xa5#8
    have ea' : appendV 60 2 16 (G' ++ [some ⟨true, 60, [.int .i64 (k : Nat), .int .u8 165]⟩]) w' (.slice (some ⟨G'.length, 0, none⟩) 1 2) = some (w2, F2) := ea
    refine ⟨w2, F2, ?_, y1.trans hE2, hw2.WS⟩
    rw [e]
    simp (maxDischargeDepth := 8) only [c30_19, a8, a11, a12, x1', x2, x3', i2, fillL, ea', RUN, Ed, knd, kndR, resV, binInt, mnmxV, mnmx2, fillL, unV, lenV, extractV, partV, loadAt, Nat.reduceAdd, Nat.reduceBEq, Nat.reduceEqDiff, Nat.reduceLT, Nat.reduceLeDiff, Nat.reduceMul, Nat.reduceSub, reduceIte, Int.reduceEq, Int.reduceNe, Int.reduceLT, Int.reduceLE, Int.reduceAdd, Int.reduceSub, Int.reduceMul, Int.reduceNeg, Int.reduceMod, Int.reduceDiv, Int.reduceTMod, Int.reduceTDiv, Int.reduceToNat, okChain_i, okLoads_nil, okLoads_in, okLoads_eq]
  have hG' : G = F ++ [some ⟨true, 60, [.int .i64 (k : Nat), .int .u8 0]⟩] := hG
  obtain ⟨s2, m2, l2, a2, b2, c2, d2⟩ := r
  simp only [Rec.L] at kp e1
  simp (maxDischargeDepth := 8) only [t30, c30_13, c30_14, c30_15, q3, q8, kp, ip, e1, fillL, ← hG', RUN, Ed, knd, kndR, resV, binInt, mnmxV, mnmx2, fillL, unV, lenV, extractV, partV, loadAt, Nat.reduceAdd, Nat.reduceBEq, Nat.reduceEqDiff, Nat.reduceLT, Nat.reduceLeDiff, Nat.reduceMul, Nat.reduceSub, reduceIte, Int.reduceEq, Int.reduceNe, Int.reduceLT, Int.reduceLE, Int.reduceAdd, Int.reduceSub, Int.reduceMul, Int.reduceNeg, Int.reduceMod, Int.reduceDiv, Int.reduceTMod, Int.reduceTDiv, Int.reduceToNat, okChain_i, okLoads_nil, okLoads_in, okLoads_eq]
  refine key _ ?_ ?_ ?_ ?_
  all_goals first | (simp (maxDischargeDepth := 8) only [q8, RUN, Ed, knd, kndR, resV, binInt, mnmxV, mnmx2, fillL, unV, lenV, extractV, partV, loadAt, Nat.reduceAdd, Nat.reduceBEq, Nat.reduceEqDiff, Nat.reduceLT, Nat.reduceLeDiff, Nat.reduceMul, Nat.reduceSub, reduceIte, Int.reduceEq, Int.reduceNe, Int.reduceLT, Int.reduceLE, Int.reduceAdd, Int.reduceSub, Int.reduceMul, Int.reduceNeg, Int.reduceMod, Int.reduceDiv, Int.reduceTMod, Int.reduceTDiv, Int.reduceToNat, okChain_i, okLoads_nil, okLoads_in, okLoads_eq]; done) | (simp (maxDischargeDepth := 8) only [q8, RUN, Ed, knd, kndR, resV, binInt, mnmxV, mnmx2, fillL, unV, lenV, extractV, partV, loadAt, Nat.reduceAdd, Nat.reduceBEq, Nat.reduceEqDiff, Nat.reduceLT, Nat.reduceLeDiff, Nat.reduceMul, Nat.reduceSub, reduceIte, Int.reduceEq, Int.reduceNe, Int.reduceLT, Int.reduceLE, Int.reduceAdd, Int.reduceSub, Int.reduceMul, Int.reduceNeg, Int.reduceMod, Int.reduceDiv, Int.reduceTMod, Int.reduceTDiv, Int.reduceToNat, okChain_i, okLoads_nil, okLoads_in, okLoads_eq]; rfl)
theorem writes2G_f (v : Value) (m : List B8) (hm : m.length ≤ 1000000) (r : Rec) (H : Heap) (hB : BS H v (m.map w8)) : ∃ w F, D Tryd.prog hints 30 [v, .agg ⟨r.L⟩] H = some (.tuple ⟨[w, .int .i64 (cd (wpair m r).2)]⟩, F) ∧ Ext H F ∧ WS F w (wpair m r).1 := by
  obtain ⟨H1, hH1⟩ : ∃ H1, H1 = H ++ [some ⟨true, 26, r.L⟩] := ⟨_, rfl⟩
  have x1 : Ext H H1 := ⟨_, hH1⟩
  have k1 : live H1 H.length = some ⟨true, 26, r.L⟩ := by rw [hH1]; exact (live_app_len _ _).trans rfl
  have i1 := live_ltG k1
  have B1 := hB.ext x1
  have el := length2_f v m H1 B1
  obtain ⟨Xg, eg⟩ := goodR_f r H1
  have q30 : D Tryd.prog hints 30 [v, .agg ⟨r.L⟩] H = done r30.res (E Tryd.prog hints r30.body (frame0 [v, .agg ⟨r.L⟩]) H) := D_eq p30 _ _ (Nat.le_of_ble_eq_true rfl)
  unfold wpair
  cases he : lenE m.length with
  | some e =>
    rw [he] at el
    have hi := cd_some e
    refine ⟨.slice none 0 0, H1, ?_, x1, .inl ⟨rfl, 0, rfl⟩⟩
    simp only [Rec.L] at hH1
    rw [q30]
    simp (maxDischargeDepth := 8) only [r30, b30t, c30_0, c30_1, c30_2, c30_3, Rec.L, ← hH1, el, hi, RUN, Ed, knd, kndR, resV, binInt, mnmxV, mnmx2, fillL, unV, lenV, extractV, partV, loadAt, Nat.reduceAdd, Nat.reduceBEq, Nat.reduceEqDiff, Nat.reduceLT, Nat.reduceLeDiff, Nat.reduceMul, Nat.reduceSub, reduceIte, Int.reduceEq, Int.reduceNe, Int.reduceLT, Int.reduceLE, Int.reduceAdd, Int.reduceSub, Int.reduceMul, Int.reduceNeg, Int.reduceMod, Int.reduceDiv, Int.reduceTMod, Int.reduceTDiv, Int.reduceToNat, okChain_i, okLoads_nil, okLoads_in, okLoads_eq]
  | none =>
    have hm88 := lenE_none he
    rw [he, cd_none] at el
    simp only
    by_cases hg : good r = true
    case neg =>
      rw [if_neg hg]
      have hg' : good r = false := by simpa using hg
      rw [hg'] at eg
      refine ⟨.slice none 0 0, H1 ++ Xg, ?_, x1.app Xg, .inl ⟨rfl, 0, rfl⟩⟩
      simp only [Rec.L] at hH1 k1 eg
      rw [q30]
      simp (maxDischargeDepth := 8) only [r30, b30t, c30_0, c30_1, c30_2, c30_3, c30_4, c30_5, Rec.L, ← hH1, k1, i1, el, eg, RUN, Ed, knd, kndR, resV, binInt, mnmxV, mnmx2, fillL, unV, lenV, extractV, partV, loadAt, Nat.reduceAdd, Nat.reduceBEq, Nat.reduceEqDiff, Nat.reduceLT, Nat.reduceLeDiff, Nat.reduceMul, Nat.reduceSub, reduceIte, Int.reduceEq, Int.reduceNe, Int.reduceLT, Int.reduceLE, Int.reduceAdd, Int.reduceSub, Int.reduceMul, Int.reduceNeg, Int.reduceMod, Int.reduceDiv, Int.reduceTMod, Int.reduceTDiv, Int.reduceToNat, okChain_i, okLoads_nil, okLoads_in, okLoads_eq]
      rfl
    case pos =>
      rw [if_pos hg]
      rw [hg] at eg
      obtain ⟨G1, hG1⟩ : ∃ G1, G1 = H1 ++ Xg := ⟨_, rfl⟩
      rw [← hG1] at eg
      have y1 : Ext H1 G1 := ⟨_, hG1⟩
      obtain ⟨X2, e2⟩ := newest2_f v m hm G1 (B1.ext y1)
      obtain ⟨G2, hG2⟩ : ∃ G2, G2 = G1 ++ X2 := ⟨_, rfl⟩
      rw [← hG2] at e2
      have y2 : Ext G1 G2 := ⟨_, hG2⟩
      have k2 := (y1.trans y2).live k1
      have i2 := live_ltG k2
      obtain ⟨G3, hG3⟩ : ∃ G3, G3 = G2.set H.length (some ⟨true, 26, [.int .u32 1, .int .i64 r.m, .int .u32 r.l, .int .i64 r.a, .int .i64 r.b, .int .i64 r.c, .int .i64 r.d]⟩) := ⟨_, rfl⟩
      have y3 : Ext H G3 := by rw [hG3]; exact ((x1.trans y1).trans y2).set (Nat.le_refl _) _
      have k3 : live G3 H.length = some ⟨true, 26, [.int .u32 1, .int .i64 r.m, .int .u32 r.l, .int .i64 r.a, .int .i64 r.b, .int .i64 r.c, .int .i64 r.d]⟩ := by rw [hG3]; exact live_set_eq _ _ _ i2
      have i3 := live_ltG k3
      have hrn : (rn m r).L = [.int .u32 (IntKind.u32.wrap ((nr m).s + 1)), .int .i64 r.m, .int .u32 r.l, .int .i64 r.a, .int .i64 r.b, .int .i64 r.c, .int .i64 r.d] := rfl
      obtain ⟨n1, n2, n3⟩ := nr_of m
      have fin : ∀ (ρ : Fr) (F : Heap), ρ 3 = .pointer (some ⟨H.length, 0, none⟩) → ρ 8 = .int .i64 ((aw m : Nat) : Int) → Ext H F → live F H.length = some ⟨true, 26, (rn m r).L⟩ → ∃ w F', done [.tmp 4, .tmp 5] (E Tryd.prog hints t30 ρ F) = some (.tuple ⟨[w, .int .i64 0]⟩, F') ∧ Ext H F' ∧ WS F' w (wrs (rn m r) (aw m)) := by
        intro ρ F q3 q8 hF hk
        obtain ⟨w, F', h1, h2, h3⟩ := tail30 (rn m r) (aw m) (by unfold aw; split <;> omega) F H.length hk ρ q3 q8
        exact ⟨w, F', h1, hF.trans h2, h3⟩
      have hcd : cd (wrs (rn m r) (aw m), (none : Option Nat)).2 = 0 := rfl
      by_cases hneg : nw m < 0
      · have hnr : nr m = Rec.z := n3 (by rcases nw_cases m hm88 with ⟨h, _⟩ | ⟨h, _⟩ | ⟨h, _⟩ <;> omega)
        have hge : ¬ 0 ≤ nw m := by omega
        have haw : ((aw m : Nat) : Int) = 0 := by unfold aw; rw [if_neg (by omega)]; rfl
        have hrn' : (rn m r).L = [.int .u32 1, .int .i64 r.m, .int .u32 r.l, .int .i64 r.a, .int .i64 r.b, .int .i64 r.c, .int .i64 r.d] := by rw [hrn, hnr]; rfl
        have fin' := fun ρ F => fin ρ F
        rw [haw] at fin'
        rw [hcd, q30]
        rw [hrn'] at fin'
        generalize wrs (rn m r) (aw m) = WL at *
        generalize rn m r = RN at *
        obtain ⟨s2, m2, l2, a2, b2, c2, d2⟩ := r
        simp only [Rec.L] at hH1 k1 k2 eg
        simp only at hG3 k3
        simp (maxDischargeDepth := 8) only [r30, b30t, c30_0, c30_1, c30_2, c30_3, c30_4, c30_5, c30_6, c30_7, c30_8, c30_9, c30_10, c30_11, c30_12, Rec.L, ← hH1, k1, i1, el, eg, e2, k2, i2, ← hG3, hge, RUN, Ed, knd, kndR, resV, binInt, mnmxV, mnmx2, fillL, unV, lenV, extractV, partV, loadAt, Nat.reduceAdd, Nat.reduceBEq, Nat.reduceEqDiff, Nat.reduceLT, Nat.reduceLeDiff, Nat.reduceMul, Nat.reduceSub, reduceIte, Int.reduceEq, Int.reduceNe, Int.reduceLT, Int.reduceLE, Int.reduceAdd, Int.reduceSub, Int.reduceMul, Int.reduceNeg, Int.reduceMod, Int.reduceDiv, Int.reduceTMod, Int.reduceTDiv, Int.reduceToNat, okChain_i, okLoads_nil, okLoads_in, okLoads_eq]
        refine fin' _ _ ?_ ?_ y3 k3
        all_goals first | (simp (maxDischargeDepth := 8) only [RUN, Ed, knd, kndR, resV, binInt, mnmxV, mnmx2, fillL, unV, lenV, extractV, partV, loadAt, Nat.reduceAdd, Nat.reduceBEq, Nat.reduceEqDiff, Nat.reduceLT, Nat.reduceLeDiff, Nat.reduceMul, Nat.reduceSub, reduceIte, Int.reduceEq, Int.reduceNe, Int.reduceLT, Int.reduceLE, Int.reduceAdd, Int.reduceSub, Int.reduceMul, Int.reduceNeg, Int.reduceMod, Int.reduceDiv, Int.reduceTMod, Int.reduceTDiv, Int.reduceToNat, okChain_i, okLoads_nil, okLoads_in, okLoads_eq]; done) | (simp (maxDischargeDepth := 8) only [RUN, Ed, knd, kndR, resV, binInt, mnmxV, mnmx2, fillL, unV, lenV, extractV, partV, loadAt, Nat.reduceAdd, Nat.reduceBEq, Nat.reduceEqDiff, Nat.reduceLT, Nat.reduceLeDiff, Nat.reduceMul, Nat.reduceSub, reduceIte, Int.reduceEq, Int.reduceNe, Int.reduceLT, Int.reduceLE, Int.reduceAdd, Int.reduceSub, Int.reduceMul, Int.reduceNeg, Int.reduceMod, Int.reduceDiv, Int.reduceTMod, Int.reduceTDiv, Int.reduceToNat, okChain_i, okLoads_nil, okLoads_in, okLoads_eq]; rfl)
      · have hge : 0 ≤ nw m := by omega
        obtain ⟨r1, r2⟩ := rc_of m hm88
        rw [if_neg hneg] at r1 r2
        obtain ⟨X4, e4⟩ := recover2_f v m hm G3 (hB.ext y3)
        rw [r1, r2, cd_none] at e4
        obtain ⟨G4, hG4⟩ : ∃ G4, G4 = G3 ++ X4 := ⟨_, rfl⟩
        rw [← hG4] at e4
        have y4 : Ext G3 G4 := ⟨_, hG4⟩
        obtain ⟨G5, hG5⟩ : ∃ G5, G5 = G4 ++ [some ⟨true, 26, (nr m).L⟩] := ⟨_, rfl⟩
        have y5 : Ext G4 G5 := ⟨_, hG5⟩
        have k9 : live G5 G4.length = some ⟨true, 26, (nr m).L⟩ := by rw [hG5]; exact (live_app_len _ _).trans rfl
        have i9 := live_ltG k9
        have k5 := (y4.trans y5).live k3
        have i5 := live_ltG k5
        obtain ⟨G6, hG6⟩ : ∃ G6, G6 = G5.set H.length (some ⟨true, 26, (rn m r).L⟩) := ⟨_, rfl⟩
        have y6 : Ext H G6 := by rw [hG6]; exact ((y3.trans y4).trans y5).set (Nat.le_refl _) _
        have k6 : live G6 H.length = some ⟨true, 26, (rn m r).L⟩ := by rw [hG6]; exact live_set_eq _ _ _ i5
        have w1 : IntKind.i64.wrap (1 - nw m) = 1 - nw m := by
          rcases nw_cases m hm88 with ⟨h, _⟩ | ⟨h, _⟩ | ⟨h, _⟩ <;> rw [h] <;> rfl
        have w2 : IntKind.i64.wrap (44 * (1 - nw m)) = ((aw m : Nat) : Int) := by
          unfold aw
          rcases nw_cases m hm88 with ⟨h, _⟩ | ⟨h, _⟩ | ⟨h, _⟩
          · omega
          · rw [h]; rfl
          · rw [h]; rfl
        rw [hcd, q30]
        have fin' := fun ρ => fin ρ G6
        rw [hrn] at hG6 k6
        generalize wrs (rn m r) (aw m) = WL at *
        generalize aw m = A at *
        generalize hRN : rn m r = RN at *
        have hRL : RN.L = [.int .u32 (IntKind.u32.wrap ((nr m).s + 1)), .int .i64 r.m, .int .u32 r.l, .int .i64 r.a, .int .i64 r.b, .int .i64 r.c, .int .i64 r.d] := hrn
        rw [hRL] at fin'
        generalize nr m = Q at *
        obtain ⟨s1, m1, l1, a1, b1, c1, d1⟩ := Q
        obtain ⟨s2, m2, l2, a2, b2, c2, d2⟩ := r
        simp only [Rec.L] at hH1 k1 k2 eg e4 hG5 k9
        simp only at hG3 k3 k5 hG6 k6 fin'
        simp (maxDischargeDepth := 8) only [r30, b30t, c30_0, c30_1, c30_2, c30_3, c30_4, c30_5, c30_6, c30_7, c30_8, c30_9, c30_10, c30_11, c30_12, Rec.L, ← hH1, k1, i1, el, eg, e2, k2, i2, ← hG3, hge, e4, ← hG5, k9, i9, k5, i5, ← hG6, w1, w2, RUN, Ed, knd, kndR, resV, binInt, mnmxV, mnmx2, fillL, unV, lenV, extractV, partV, loadAt, Nat.reduceAdd, Nat.reduceBEq, Nat.reduceEqDiff, Nat.reduceLT, Nat.reduceLeDiff, Nat.reduceMul, Nat.reduceSub, reduceIte, Int.reduceEq, Int.reduceNe, Int.reduceLT, Int.reduceLE, Int.reduceAdd, Int.reduceSub, Int.reduceMul, Int.reduceNeg, Int.reduceMod, Int.reduceDiv, Int.reduceTMod, Int.reduceTDiv, Int.reduceToNat, okChain_i, okLoads_nil, okLoads_in, okLoads_eq]
        refine fin' _ ?_ ?_ y6 k6
        all_goals first | (simp (maxDischargeDepth := 8) only [RUN, Ed, knd, kndR, resV, binInt, mnmxV, mnmx2, fillL, unV, lenV, extractV, partV, loadAt, Nat.reduceAdd, Nat.reduceBEq, Nat.reduceEqDiff, Nat.reduceLT, Nat.reduceLeDiff, Nat.reduceMul, Nat.reduceSub, reduceIte, Int.reduceEq, Int.reduceNe, Int.reduceLT, Int.reduceLE, Int.reduceAdd, Int.reduceSub, Int.reduceMul, Int.reduceNeg, Int.reduceMod, Int.reduceDiv, Int.reduceTMod, Int.reduceTDiv, Int.reduceToNat, okChain_i, okLoads_nil, okLoads_in, okLoads_eq]; done) | (simp (maxDischargeDepth := 8) only [RUN, Ed, knd, kndR, resV, binInt, mnmxV, mnmx2, fillL, unV, lenV, extractV, partV, loadAt, Nat.reduceAdd, Nat.reduceBEq, Nat.reduceEqDiff, Nat.reduceLT, Nat.reduceLeDiff, Nat.reduceMul, Nat.reduceSub, reduceIte, Int.reduceEq, Int.reduceNe, Int.reduceLT, Int.reduceLE, Int.reduceAdd, Int.reduceSub, Int.reduceMul, Int.reduceNeg, Int.reduceMod, Int.reduceDiv, Int.reduceTMod, Int.reduceTDiv, Int.reduceToNat, okChain_i, okLoads_nil, okLoads_in, okLoads_eq]; rfl)
theorem loop8 (G0 : Heap) (ws : Value) (l : List Wr) (hl : l.length ≤ 1000) (hW : WS G0 ws l) (ρ0 : Fr) (q5 : ρ0 5 = ws) (q22 : ρ0 22 = .slice none 0 0) (q23 : ρ0 23 = .int .i64 (0 : Nat)) : ∃ ρ' G' w', E Tryd.prog hints (.loop l8_0) ρ0 G0 = some (.exit 0, ρ', G') ∧ (∀ t, wrC l8_0 t = false → ρ' t = ρ0 t) ∧ ρ' 22 = w' ∧ Ext G0 G' ∧ WS G' w' l := by
  obtain ⟨ρ', G', e, hf, w', h22, hE', hw'⟩ := loop_keep (P := Tryd.prog) (hs := hints) (b := l8_0) (id := 0) ρ0 (fun j ρ G => ∃ w', ρ 23 = .int .i64 j ∧ ρ 22 = w' ∧ Ext G0 G ∧ WP G0 G w' (l.take j)) (fun ρ G => ∃ w', ρ 22 = w' ∧ Ext G0 G ∧ WP G0 G w' l) l.length
    (by
      rintro j ρ F hj hf ⟨w1, r23, r22, hF, hw1⟩
      have r5 := (hf 5 rfl).trans q5
      have hp : l[j]? = some l[j] := List.getElem?_eq_getElem hj
      have hW' := hW.ext hF
      obtain ⟨i, x1, ow, ty, cells, x2, x3, x4, x5, x6⟩ := hW'.idx hp
      have i2 := live_ltG x2
      have lw := hW'.len
      have hlt : (j : Int) < (l.length : Int) := by omega
      have wj := wrap64 ((j : Int) + 1) (by omega) (by omega)
      rw [show l.take (j + 1) = l.take j ++ [l[j]] from take_getG l j _ hp]
      generalize l[j] = p at *
      obtain ⟨a, b⟩ := p
      simp only at x5 x6
      obtain ⟨w2, F2, ea, hw2, hE2⟩ := hw1.app1 hF (by rw [List.length_take]; omega) a b
      refine ⟨?ρ1, F2, ?run1, w2, ?_, ?_, hE2, hw2⟩
      case run1 =>
        simp (maxDischargeDepth := 8) only [l8_0, c8_0, c8_1, c8_2, c8_3, c8_4, c8_5, c8_6, c8_7, c8_8, c8_9, c8_10, c8_11, c8_12, c8_13, c8_14, c8_15, r5, r22, r23, lw, hlt, x1, x2, x5, x6, i2, wj, fillL, ea, RUN, Ed, knd, kndR, resV, binInt, mnmxV, mnmx2, fillL, unV, extractV, partV, loadAt, Nat.reduceAdd, Nat.reduceBEq, Nat.reduceEqDiff, Nat.reduceLT, Nat.reduceLeDiff, Nat.reduceMul, Nat.reduceSub, reduceIte, Int.reduceEq, Int.reduceNe, Int.reduceLT, Int.reduceLE, Int.reduceAdd, Int.reduceSub, Int.reduceMul, Int.reduceNeg, Int.reduceMod, Int.reduceDiv, Int.reduceTMod, Int.reduceTDiv, Int.reduceToNat, okChain_i, okLoads_nil, okLoads_in, okLoads_eq]
        rfl
      all_goals first | (simp (maxDischargeDepth := 8) only [RUN, Ed, knd, kndR, resV, binInt, mnmxV, mnmx2, fillL, unV, lenV, extractV, partV, loadAt, Nat.reduceAdd, Nat.reduceBEq, Nat.reduceEqDiff, Nat.reduceLT, Nat.reduceLeDiff, Nat.reduceMul, Nat.reduceSub, reduceIte, Int.reduceEq, Int.reduceNe, Int.reduceLT, Int.reduceLE, Int.reduceAdd, Int.reduceSub, Int.reduceMul, Int.reduceNeg, Int.reduceMod, Int.reduceDiv, Int.reduceTMod, Int.reduceTDiv, Int.reduceToNat, okChain_i, okLoads_nil, okLoads_in, okLoads_eq]; done) | (simp (maxDischargeDepth := 8) only [RUN, Ed, knd, kndR, resV, binInt, mnmxV, mnmx2, fillL, unV, lenV, extractV, partV, loadAt, Nat.reduceAdd, Nat.reduceBEq, Nat.reduceEqDiff, Nat.reduceLT, Nat.reduceLeDiff, Nat.reduceMul, Nat.reduceSub, reduceIte, Int.reduceEq, Int.reduceNe, Int.reduceLT, Int.reduceLE, Int.reduceAdd, Int.reduceSub, Int.reduceMul, Int.reduceNeg, Int.reduceMod, Int.reduceDiv, Int.reduceTMod, Int.reduceTDiv, Int.reduceToNat, okChain_i, okLoads_nil, okLoads_in, okLoads_eq]; rfl))
    (by
      rintro ρ F hf ⟨w1, r23, r22, hF, hw1⟩
      have r5 := (hf 5 rfl).trans q5
      have lw := hW.len
      rw [List.take_length] at hw1
      have hlt : ¬ (l.length : Int) < (l.length : Int) := by omega
      refine ⟨?ρ2, F, ?run2, w1, ?_, hF, hw1⟩
      case run2 =>
        simp (maxDischargeDepth := 8) only [l8_0, c8_12, r5, r23, lw, hlt, RUN, Ed, knd, kndR, resV, binInt, mnmxV, mnmx2, fillL, unV, extractV, partV, loadAt, Nat.reduceAdd, Nat.reduceBEq, Nat.reduceEqDiff, Nat.reduceLT, Nat.reduceLeDiff, Nat.reduceMul, Nat.reduceSub, reduceIte, Int.reduceEq, Int.reduceNe, Int.reduceLT, Int.reduceLE, Int.reduceAdd, Int.reduceSub, Int.reduceMul, Int.reduceNeg, Int.reduceMod, Int.reduceDiv, Int.reduceTMod, Int.reduceTDiv, Int.reduceToNat, okChain_i, okLoads_nil, okLoads_in, okLoads_eq]
        rfl
      simp (maxDischargeDepth := 8) only [r22, RUN, Ed, knd, kndR, resV, binInt, mnmxV, mnmx2, fillL, unV, lenV, extractV, partV, loadAt, Nat.reduceAdd, Nat.reduceBEq, Nat.reduceEqDiff, Nat.reduceLT, Nat.reduceLeDiff, Nat.reduceMul, Nat.reduceSub, reduceIte, Int.reduceEq, Int.reduceNe, Int.reduceLT, Int.reduceLE, Int.reduceAdd, Int.reduceSub, Int.reduceMul, Int.reduceNeg, Int.reduceMod, Int.reduceDiv, Int.reduceTMod, Int.reduceTDiv, Int.reduceToNat, okChain_i, okLoads_nil, okLoads_in, okLoads_eq])
    G0 ⟨_, q23, q22, Ext.refl _, SM.nil _ _ _ _⟩
  exact ⟨ρ', G', w', e, hf, h22, hE', hw'.WS⟩
theorem end8 (m : List B8) (hm : m.length ≤ 1000000) (r : Rec) (v ws ws2 w18 w20 : Value) (a b n : Int) (l : List Wr) (hl : l.length ≤ 1000) (G : Heap) (hE : EH all7 G) (hB : BS G v (m.map w8)) (hW : WS G ws l) (hW2 : WS G ws2 l) (h18 : WS G w18 (wpair m r).1) (h20 : WS G w20 (wpair m r).1) (p14 p16 : Nat) (k14 : live G p14 = some ⟨true, 26, (rcR m).L⟩) (k16 : live G p16 = some ⟨true, 26, (rcR m).L⟩) (ρ : Fr) (q0 : ρ 0 = v) (q2 : ρ 2 = .int .u32 a) (q3 : ρ 3 = .int .u32 b) (q4 : ρ 4 = .int .i64 n) (q5 : ρ 5 = ws) (q13 : ρ 13 = .bool true) (q14 : ρ 14 = .pointer (some ⟨p14, 0, none⟩)) (q15 : ρ 15 = EV (rcC m)) (q16 : ρ 16 = .pointer (some ⟨p16, 0, none⟩)) (q17 : ρ 17 = .int .i64 (cd (rcC m))) (q18 : ρ 18 = w18) (q19 : ρ 19 = EV (wpair m r).2) (q20 : ρ 20 = w20) (q21 : ρ 21 = .int .i64 (cd (wpair m r).2)) (q22 : ρ 22 = ws2) : Ok (done [.tmp 12] (E Tryd.prog hints (.seq (.region c8_15) .ret) ρ G)) := by
  obtain ⟨X1, e1⟩ := newestI_f v m hm G hE hB
  obtain ⟨K1, hK1⟩ : ∃ K1, K1 = G ++ X1 := ⟨_, rfl⟩
  rw [← hK1] at e1
  have y1 : Ext G K1 := ⟨_, hK1⟩
  obtain ⟨X2, e2⟩ := newest2_f v m hm K1 (hB.ext y1)
  obtain ⟨K2, hK2⟩ : ∃ K2, K2 = K1 ++ X2 := ⟨_, rfl⟩
  rw [← hK2] at e2
  have y2 : Ext G K2 := y1.trans ⟨_, hK2⟩
  have k14' := y2.live k14
  have k16' := y2.live k16
  have i14 := live_ltG k14'
  have i16 := live_ltG k16'
  obtain ⟨X3, e3⟩ := sameRec_f (rcR m) (rcR m) K2
  rw [decide_eq_true rfl] at e3
  obtain ⟨K3, hK3⟩ : ∃ K3, K3 = K2 ++ X3 := ⟨_, rfl⟩
  rw [← hK3] at e3
  have y3 : Ext G K3 := y2.trans ⟨_, hK3⟩
  obtain ⟨X4, e4⟩ := is_f (rcC m) (rcC_lt m) (cd (rcC m)) K3 (hE.ext y3)
  rw [decide_eq_true rfl] at e4
  obtain ⟨K4, hK4⟩ : ∃ K4, K4 = K3 ++ X4 := ⟨_, rfl⟩
  rw [← hK4] at e4
  have y4 : Ext G K4 := y3.trans ⟨_, hK4⟩
  have hwl := wpair_len m r
  have e5 := same_f w18 w20 (wpair m r).1 (by omega) K4 (h18.ext y4) (h20.ext y4)
  obtain ⟨X6, e6⟩ := is_f (wpair m r).2 (wpair_lt m r) (cd (wpair m r).2) K4 (hE.ext y4)
  rw [decide_eq_true rfl] at e6
  obtain ⟨K6, hK6⟩ : ∃ K6, K6 = K4 ++ X6 := ⟨_, rfl⟩
  rw [← hK6] at e6
  have y6 : Ext G K6 := y4.trans ⟨_, hK6⟩
  have e7 := later_f a b K6
  have e8 := later2_f a b K6
  obtain ⟨w, K7, e9, y7, b9⟩ := apply_f v ws m hm l (by omega) n K6 (hB.ext y6) (hW.ext y6)
  obtain ⟨w', K8, e10, y8, b10⟩ := apply2_f v ws2 m hm l (by omega) n K7 ((hB.ext y6).ext y7) ((hW2.ext y6).ext y7)
  have e11 := sameBytes_f K8 w w' _ _ (b9.ext y8).BS b10.BS (by rw [List.length_map, ap_len]; omega)
  rw [decide_eq_true rfl] at e11
  simp only [K] at e4 e6 e11
  have hbb : (later a b == later a b) = true := by cases later a b <;> rfl
  generalize rcC m = rc at *
  generalize (wpair m r).2 = wc at *
  generalize rcR m = Q at *
  obtain ⟨s1, m1, l1, a1, b1, c1, d1⟩ := Q
  simp only [Rec.L] at k14' k16' e3
  simp (maxDischargeDepth := 8) only [c8_15, q0, q2, q3, q4, q5, q13, q14, q15, q16, q17, q18, q19, q20, q21, q22, e1, e2, k14', k16', i14, i16, e3, e4, e5, e6, e7, e8, hbb, e9, e10, e11, one_EV, cells_EV, RUN, Ed, knd, kndR, resV, binInt, mnmxV, mnmx2, fillL, unV, lenV, extractV, partV, loadAt, Nat.reduceAdd, Nat.reduceBEq, Nat.reduceEqDiff, Nat.reduceLT, Nat.reduceLeDiff, Nat.reduceMul, Nat.reduceSub, reduceIte, Int.reduceEq, Int.reduceNe, Int.reduceLT, Int.reduceLE, Int.reduceAdd, Int.reduceSub, Int.reduceMul, Int.reduceNeg, Int.reduceMod, Int.reduceDiv, Int.reduceTMod, Int.reduceTDiv, Int.reduceToNat, okChain_i, okLoads_nil, okLoads_in, okLoads_eq]
  exact Ok.mk _
theorem jsays (v ws : Value) (m : List B8) (r : Rec) (a b n : Int) (l : List Wr) (H : Heap) (hE : EH all7 H) (hB : BS H v (m.map w8)) (hW : WS H ws l) : Ok (D Tryd.prog hints 8 [v, .agg ⟨r.L⟩, .int .u32 a, .int .u32 b, .int .i64 n, ws] H) := by
  obtain ⟨o1, o2⟩ := hB.one
  obtain ⟨H1, hH1⟩ : ∃ H1, H1 = H ++ [some ⟨true, 26, r.L⟩] := ⟨_, rfl⟩
  have x1 : Ext H H1 := ⟨_, hH1⟩
  have k1 : live H1 H.length = some ⟨true, 26, r.L⟩ := by rw [hH1]; exact (live_app_len _ _).trans rfl
  obtain ⟨X0, e0⟩ := first2_f H1 (hE.ext x1)
  obtain ⟨G0, hG0⟩ : ∃ G0, G0 = H1 ++ X0 := ⟨_, rfl⟩
  rw [← hG0] at e0
  have x2 : Ext H G0 := x1.trans ⟨_, hG0⟩
  have E0 := hE.ext x2
  have B0 := hB.ext x2
  have W0 := hW.ext x2
  have lm := B0.len
  rw [List.length_map] at lm
  have lw := W0.len
  have hRL : r.L = [.int .u32 r.s, .int .i64 r.m, .int .u32 r.l, .int .i64 r.a, .int .i64 r.b, .int .i64 r.c, .int .i64 r.d] := rfl
  have q8 : D Tryd.prog hints 8 [v, .agg ⟨r.L⟩, .int .u32 a, .int .u32 b, .int .i64 n, ws] H = done r8.res (E Tryd.prog hints r8.body (frame0 [v, .agg ⟨r.L⟩, .int .u32 a, .int .u32 b, .int .i64 n, ws]) H) := D_eq p8 _ _ (Nat.le_of_ble_eq_true rfl)
  rw [q8]
  by_cases c1 : (100 : Int) < (m.length : Int)
  · rw [hRL] at hH1
    simp (maxDischargeDepth := 8) only [r8, b8, c8_0, c8_1, c8_2, c8_3, c8_4, c8_5, hRL, ← hH1, e0, lm, c1, RUN, Ed, knd, kndR, resV, binInt, mnmxV, mnmx2, fillL, unV, extractV, partV, loadAt, Nat.reduceAdd, Nat.reduceBEq, Nat.reduceEqDiff, Nat.reduceLT, Nat.reduceLeDiff, Nat.reduceMul, Nat.reduceSub, reduceIte, Int.reduceEq, Int.reduceNe, Int.reduceLT, Int.reduceLE, Int.reduceAdd, Int.reduceSub, Int.reduceMul, Int.reduceNeg, Int.reduceMod, Int.reduceDiv, Int.reduceTMod, Int.reduceTDiv, Int.reduceToNat, okChain_i, okLoads_nil, okLoads_in, okLoads_eq]
    exact Ok.mk _
  by_cases c2 : (100 : Int) < (l.length : Int)
  · rw [hRL] at hH1
    simp (maxDischargeDepth := 8) only [r8, b8, c8_0, c8_1, c8_2, c8_3, c8_4, c8_5, hRL, ← hH1, e0, lm, lw, c1, c2, RUN, Ed, knd, kndR, resV, binInt, mnmxV, mnmx2, fillL, unV, extractV, partV, loadAt, Nat.reduceAdd, Nat.reduceBEq, Nat.reduceEqDiff, Nat.reduceLT, Nat.reduceLeDiff, Nat.reduceMul, Nat.reduceSub, reduceIte, Int.reduceEq, Int.reduceNe, Int.reduceLT, Int.reduceLE, Int.reduceAdd, Int.reduceSub, Int.reduceMul, Int.reduceNeg, Int.reduceMod, Int.reduceDiv, Int.reduceTMod, Int.reduceTDiv, Int.reduceToNat, okChain_i, okLoads_nil, okLoads_in, okLoads_eq]
    exact Ok.mk _
  obtain ⟨X1, e1⟩ := recover_f v m (by omega) G0 E0 B0
  obtain ⟨G1, hG1⟩ : ∃ G1, G1 = G0 ++ X1 := ⟨_, rfl⟩
  rw [← hG1] at e1
  have y1 : Ext G0 G1 := ⟨_, hG1⟩
  obtain ⟨G2, hG2⟩ : ∃ G2, G2 = G1 ++ [some ⟨true, 26, (rcR m).L⟩] := ⟨_, rfl⟩
  have y2 : Ext G1 G2 := ⟨_, hG2⟩
  have k14 : live G2 G1.length = some ⟨true, 26, (rcR m).L⟩ := by rw [hG2]; exact (live_app_len _ _).trans rfl
  have z2 := y1.trans y2
  obtain ⟨X3, e3⟩ := recover2_f v m (by omega) G2 (B0.ext z2)
  obtain ⟨G3, hG3⟩ : ∃ G3, G3 = G2 ++ X3 := ⟨_, rfl⟩
  rw [← hG3] at e3
  have y3 : Ext G2 G3 := ⟨_, hG3⟩
  obtain ⟨G4, hG4⟩ : ∃ G4, G4 = G3 ++ [some ⟨true, 26, (rcR m).L⟩] := ⟨_, rfl⟩
  have y4 : Ext G3 G4 := ⟨_, hG4⟩
  have k16 : live G4 G3.length = some ⟨true, 26, (rcR m).L⟩ := by rw [hG4]; exact (live_app_len _ _).trans rfl
  have z4 := (z2.trans y3).trans y4
  have k7 : live G4 H.length = some ⟨true, 26, r.L⟩ := (Ext.trans (show Ext H1 G0 from ⟨_, hG0⟩) z4).live k1
  have i7 := live_ltG k7
  obtain ⟨w18, G5, e5, y5, h18⟩ := writesG_f v m (by omega) r G4 (E0.ext z4) (B0.ext z4)
  have k7' := y5.live k7
  have i7' := live_ltG k7'
  have z5 := z4.trans y5
  obtain ⟨w20, G6, e6, y6, h20⟩ := writes2G_f v m (by omega) r G5 (B0.ext z5)
  have z6 := z5.trans y6
  have key : ∀ ρ0, ρ0 0 = v → ρ0 2 = .int .u32 a → ρ0 3 = .int .u32 b → ρ0 4 = .int .i64 n → ρ0 5 = ws → ρ0 13 = .bool true → ρ0 14 = .pointer (some ⟨G1.length, 0, none⟩) → ρ0 15 = EV (rcC m) → ρ0 16 = .pointer (some ⟨G3.length, 0, none⟩) → ρ0 17 = .int .i64 (cd (rcC m)) → ρ0 18 = w18 → ρ0 19 = EV (wpair m r).2 → ρ0 20 = w20 → ρ0 21 = .int .i64 (cd (wpair m r).2) → ρ0 22 = .slice none 0 0 → ρ0 23 = .int .i64 (0 : Nat) → Ok (done [.tmp 12] (andThen (blk 0 (E Tryd.prog hints (.loop l8_0) ρ0 G6)) (E Tryd.prog hints (.seq (.region c8_15) .ret)))) := by
    intro ρ0 p0 p2 p3 p4 p5 p13 p14 p15 p16 p17 p18 p19 p20 p21 p22 p23
    obtain ⟨ρ', G', w', e, hf, h22, hE', hw'⟩ := loop8 G6 ws l (by omega) (W0.ext z6) ρ0 p5 p22 p23
    rw [e]
    exact end8 m (by omega) r v ws w' w18 w20 a b n l (by omega) G' ((E0.ext z6).ext hE') ((B0.ext z6).ext hE') ((W0.ext z6).ext hE') hw' ((h18.ext y6).ext hE') (h20.ext hE') G1.length G3.length ((((y3.trans y4).trans y5).trans y6).trans hE' |>.live k14) ((y5.trans y6).trans hE' |>.live k16) ρ' ((hf 0 rfl).trans p0) ((hf 2 rfl).trans p2) ((hf 3 rfl).trans p3) ((hf 4 rfl).trans p4) ((hf 5 rfl).trans p5) ((hf 13 rfl).trans p13) ((hf 14 rfl).trans p14) ((hf 15 rfl).trans p15) ((hf 16 rfl).trans p16) ((hf 17 rfl).trans p17) ((hf 18 rfl).trans p18) ((hf 19 rfl).trans p19) ((hf 20 rfl).trans p20) ((hf 21 rfl).trans p21) h22
  rw [hRL] at hH1 k7 k7' e5 e6
  generalize rcC m = rc at *
  generalize (wpair m r).2 = wc at *
  generalize rcR m = Q at *
  obtain ⟨s1, m1, l1, a1, b1, c1', d1⟩ := Q
  simp only [Rec.L] at e1 hG2 k14 e3 hG4 k16
  simp (maxDischargeDepth := 8) only [r8, b8, c8_0, c8_1, c8_2, c8_3, c8_4, c8_5, c8_6, c8_7, c8_8, c8_9, c8_10, c8_11, hRL, ← hH1, e0, lm, lw, c1, c2, e1, ← hG2, e3, ← hG4, k7, i7, e5, k7', i7', e6, one_EV, cells_EV, RUN, Ed, knd, kndR, resV, binInt, mnmxV, mnmx2, fillL, unV, extractV, partV, loadAt, Nat.reduceAdd, Nat.reduceBEq, Nat.reduceEqDiff, Nat.reduceLT, Nat.reduceLeDiff, Nat.reduceMul, Nat.reduceSub, reduceIte, Int.reduceEq, Int.reduceNe, Int.reduceLT, Int.reduceLE, Int.reduceAdd, Int.reduceSub, Int.reduceMul, Int.reduceNeg, Int.reduceMod, Int.reduceDiv, Int.reduceTMod, Int.reduceTDiv, Int.reduceToNat, okChain_i, okLoads_nil, okLoads_in, okLoads_eq]
  refine key _ ?_ ?_ ?_ ?_ ?_ ?_ ?_ ?_ ?_ ?_ ?_ ?_ ?_ ?_ ?_ ?_
  all_goals first | (simp (maxDischargeDepth := 8) only [RUN, Ed, knd, kndR, resV, binInt, mnmxV, mnmx2, fillL, unV, lenV, extractV, partV, loadAt, Nat.reduceAdd, Nat.reduceBEq, Nat.reduceEqDiff, Nat.reduceLT, Nat.reduceLeDiff, Nat.reduceMul, Nat.reduceSub, reduceIte, Int.reduceEq, Int.reduceNe, Int.reduceLT, Int.reduceLE, Int.reduceAdd, Int.reduceSub, Int.reduceMul, Int.reduceNeg, Int.reduceMod, Int.reduceDiv, Int.reduceTMod, Int.reduceTDiv, Int.reduceToNat, okChain_i, okLoads_nil, okLoads_in, okLoads_eq]; done) | (simp (maxDischargeDepth := 8) only [RUN, Ed, knd, kndR, resV, binInt, mnmxV, mnmx2, fillL, unV, lenV, extractV, partV, loadAt, Nat.reduceAdd, Nat.reduceBEq, Nat.reduceEqDiff, Nat.reduceLT, Nat.reduceLeDiff, Nat.reduceMul, Nat.reduceSub, reduceIte, Int.reduceEq, Int.reduceNe, Int.reduceLT, Int.reduceLE, Int.reduceAdd, Int.reduceSub, Int.reduceMul, Int.reduceNeg, Int.reduceMod, Int.reduceDiv, Int.reduceTMod, Int.reduceTDiv, Int.reduceToNat, okChain_i, okLoads_nil, okLoads_in, okLoads_eq]; rfl)
theorem Opn_wrs {H : Heap} {l : List Value} (h : Opn H (.slice (.agg ((.cons (.int .i64) (.cons (.int .u8) .nil))))) l) : ∃ (v : Value) (L : List Wr), l = [v] ∧ WS H v L := by
  simp only [Opn, OpnL] at h
  obtain ⟨i, x, ty, L, rfl, hl, hc, hm⟩ := h
  obtain ⟨M, rfl, hM⟩ := rows_map (fun p : Wr => [Value.int .i64 p.1, .int .u8 (w8 p.2)]) (fun a => True) L (fun c hc' => by
    obtain ⟨a, b, rfl, ⟨x, rfl, _⟩, c', d, rfl, ⟨y, rfl, hy⟩, rfl⟩ := hc c hc'
    obtain ⟨z, rfl⟩ := wf8 y hy
    exact ⟨(x, z), rfl, trivial⟩)
  rw [List.length_map] at hm ⊢
  refine ⟨_, M, rfl, ?_⟩
  unfold argV
  by_cases h0 : M.length = 0
  · rw [if_pos h0]
    exact .inl ⟨List.eq_nil_of_length_eq_zero h0, x, rfl⟩
  · rw [if_neg h0]
    exact .inr ⟨i, 0, false, ty, _, rfl, hm (by omega), wC_get M⟩
def sh8 : List Sh := [.slice (.int .u8), .agg ((.cons (.int .u32) (.cons (.int .i64) (.cons (.int .u32) (.cons (.agg ((.cons (.int .i64) (.cons (.int .i64) .nil)))) (.cons (.agg ((.cons (.int .i64) (.cons (.int .i64) .nil)))) .nil)))))), .int .u32, .int .u32, .int .i64, .slice (.agg ((.cons (.int .i64) (.cons (.int .u8) .nil))))]
theorem jsays_law (H : Heap) (h : EH all7 H) (ls : List (List Value)) (o : OpnAll H sh8 ls) : Ok (D Tryd.prog hints 8 (argsS sh8 ls) H) := by
  obtain ⟨l0, _, rfl, h0, o⟩ := o.uncons
  obtain ⟨l1, _, rfl, h1, o⟩ := o.uncons
  obtain ⟨l2, _, rfl, h2, o⟩ := o.uncons
  obtain ⟨l3, _, rfl, h3, o⟩ := o.uncons
  obtain ⟨l4, _, rfl, h4, o⟩ := o.uncons
  obtain ⟨l5, _, rfl, h5, o⟩ := o.uncons
  cases o.unnil
  obtain ⟨v, m, rfl, hv⟩ := Opn_bytes h0
  obtain ⟨r, rfl⟩ := Opn_rec h1
  obtain ⟨ws, L, rfl, hw⟩ := Opn_wrs h5
  simp only [Opn.eq_1] at h2 h3 h4
  obtain ⟨a, rfl, ha⟩ := h2
  obtain ⟨b, rfl, hb⟩ := h3
  obtain ⟨c, rfl, hc⟩ := h4
  exact jsays v ws m r a b c L H h hv hw
end Go.Proofs.YtdipdpkdmiokeaaDoor.Sim
