/- Bytes as the document's record; the chapter's examples; the stage theorem. -/
import Derived.Test.YtdipdpkdmiokeaaDoorSl4
import Derived.Test.YtdipdpkdmiokeaaDoorSim21
namespace Go.Proofs.YtdipdpkdmiokeaaDoor.Sim
open Go Go.Proofs.YtdipdpkdmiokeaaDoor.CrcMath
set_option linter.unusedSimpArgs false
set_option linter.unusedVariables false
theorem part2_f (G : Heap) (v : Value) (m : List B8) (hl : m.length = 44) (hB : BS G v (m.map w8)) (k c : Nat) (hk : k + c ≤ 44) : ∃ u, sliceV 1 v (some (.int .i64 (k : Int))) (some (.int .i64 ((k + c : Nat) : Int))) = some u ∧ D Tryd.prog hints 45 [u] G = some (.int .u64 (w64 (num ((m.drop k).take c))), G) := by
  obtain ⟨u, es, hu⟩ := hB.cut (lo := some (.int .i64 (k : Int))) (hi := some (.int .i64 ((k + c : Nat) : Int))) (l := k) (r := k + c) (bound_nat _ _ _) (bound_nat _ _ _) (by omega) (by rw [List.length_map]; omega)
  rw [← List.map_take, ← List.map_drop] at hu
  have e : (m.take (k + c)).drop k = (m.drop k).take c := by
    rw [List.take_drop]
  rw [e] at hu
  exact ⟨u, es, number2_f G u _ (by simp; omega) hu⟩
theorem read2_f (v : Value) (m : List B8) (hm : m.length ≤ 1000000) (H : Heap) (hB : BS H v (m.map w8)) : ∃ X, D Tryd.prog hints 16 [v] H = some (.tuple ⟨[.agg ⟨(rdR m).L⟩, .int .i64 (cd (rdC m))]⟩, H ++ X) := by
  obtain ⟨H2, hH2⟩ : ∃ H2, H2 = H ++ [some ⟨true, 26, Rec.z.L⟩] := ⟨_, rfl⟩
  have x2 : Ext H H2 := ⟨_, hH2⟩
  have k2 : live H2 H.length = some ⟨true, 26, Rec.z.L⟩ := by rw [hH2]; exact (live_app_len _ _).trans rfl
  have i2 := live_ltG k2
  have hB2 := hB.ext x2
  have l1 := hB2.len
  rw [List.length_map] at l1
  have hset : H2.set H.length (some ⟨true, 26, Rec.z.L⟩) = H2 := by
    rw [hH2, set_app_len]; rfl
  have hend : ∀ (c : Int) (R : Rec) (X : Heap), D Tryd.prog hints 16 [v] H = some (.tuple ⟨[.agg ⟨R.L⟩, .int .i64 c]⟩, H2 ++ X) → ∃ X, D Tryd.prog hints 16 [v] H = some (.tuple ⟨[.agg ⟨R.L⟩, .int .i64 c]⟩, H ++ X) := by
    intro c R X h
    exact ⟨_, by rw [h, hH2, List.append_assoc]⟩
  have q16 : D Tryd.prog hints 16 [v] H = done r16.res (E Tryd.prog hints r16.body (frame0 [v]) H) := D_eq p16 _ _ (Nat.le_of_ble_eq_true rfl)
  simp only [Rec.L, Rec.z] at k2 hset hH2
  by_cases c1 : m.length < 44
  · have d1 : (m.length : Int) < 44 := by omega
    have hc : rdC m = some 2 := if_pos c1
    have hr : rdR m = Rec.z := if_neg (by rw [hc]; simp)
    rw [hc, hr]
    refine hend _ _ [] ?_
    rw [q16]
    simp (maxDischargeDepth := 8) only [r16, b16, c16_0, c16_1, c16_2, c16_3, c16_4, c16_5, c16_6, c16_7, c16_8, c16_9, c16_10, c16_11, c16_12, ← hH2, l1, d1, k2, i2, hset, cd, Rec.L, Rec.z, List.append_nil, RUN, Ed, knd, kndR, resV, binInt, mnmxV, mnmx2, fillL, unV, extractV, partV, loadAt, Nat.reduceAdd, Nat.reduceBEq, Nat.reduceEqDiff, Nat.reduceLT, Nat.reduceLeDiff, Nat.reduceMul, Nat.reduceSub, reduceIte, Int.reduceEq, Int.reduceNe, Int.reduceLT, Int.reduceLE, Int.reduceAdd, Int.reduceSub, Int.reduceMul, Int.reduceNeg, Int.reduceMod, Int.reduceDiv, Int.reduceTMod, Int.reduceTDiv, Int.reduceToNat, okChain_i, okLoads_nil, okLoads_in, okLoads_eq]
    rfl
  have d1 : ¬ (m.length : Int) < 44 := by omega
  by_cases c2 : 44 < m.length
  · have d2 : (44 : Int) < (m.length : Int) := by omega
    have hc : rdC m = some 1 := by unfold rdC; rw [if_neg c1, if_pos c2]
    have hr : rdR m = Rec.z := if_neg (by rw [hc]; simp)
    rw [hc, hr]
    refine hend _ _ [] ?_
    rw [q16]
    simp (maxDischargeDepth := 8) only [r16, b16, c16_0, c16_1, c16_2, c16_3, c16_4, c16_5, c16_6, c16_7, c16_8, c16_9, c16_10, c16_11, c16_12, ← hH2, l1, d1, d2, k2, i2, hset, cd, Rec.L, Rec.z, List.append_nil, RUN, Ed, knd, kndR, resV, binInt, mnmxV, mnmx2, fillL, unV, extractV, partV, loadAt, Nat.reduceAdd, Nat.reduceBEq, Nat.reduceEqDiff, Nat.reduceLT, Nat.reduceLeDiff, Nat.reduceMul, Nat.reduceSub, reduceIte, Int.reduceEq, Int.reduceNe, Int.reduceLT, Int.reduceLE, Int.reduceAdd, Int.reduceSub, Int.reduceMul, Int.reduceNeg, Int.reduceMod, Int.reduceDiv, Int.reduceTMod, Int.reduceTDiv, Int.reduceToNat, okChain_i, okLoads_nil, okLoads_in, okLoads_eq]
    rfl
  have d2 : ¬ (44 : Int) < (m.length : Int) := by omega
  have hl : m.length = 44 := by omega
  obtain ⟨a0, o0, x0, ow0, ty0, cs0, y0, z0⟩ := hB2.idx (map_get (ix_get (m := m) (i := 0) (by omega)))
  have x0' : idxSV 1 v (.int .i64 0) = some (.pointer (some ⟨a0, o0, none⟩)) := x0
  have u0 := live_ltG y0
  by_cases c3 : ix m 0 ≠ 0xa5#8
  · have d3 : decide (w8 (ix m 0) = 165) = false := by rw [e_mark]; simpa using c3
    have hc : rdC m = some 6 := by unfold rdC; rw [if_neg c1, if_neg c2, if_pos c3]
    have hr : rdR m = Rec.z := if_neg (by rw [hc]; simp)
    rw [hc, hr]
    refine hend _ _ [] ?_
    rw [q16]
    simp (maxDischargeDepth := 8) only [r16, b16, c16_0, c16_1, c16_2, c16_3, c16_4, c16_5, c16_6, c16_7, c16_8, c16_9, c16_10, c16_11, c16_12, ← hH2, l1, d1, d2, d3, x0', y0, z0, u0, k2, i2, hset, cd, Rec.L, Rec.z, List.append_nil, RUN, Ed, knd, kndR, resV, binInt, mnmxV, mnmx2, fillL, unV, extractV, partV, loadAt, Nat.reduceAdd, Nat.reduceBEq, Nat.reduceEqDiff, Nat.reduceLT, Nat.reduceLeDiff, Nat.reduceMul, Nat.reduceSub, reduceIte, Int.reduceEq, Int.reduceNe, Int.reduceLT, Int.reduceLE, Int.reduceAdd, Int.reduceSub, Int.reduceMul, Int.reduceNeg, Int.reduceMod, Int.reduceDiv, Int.reduceTMod, Int.reduceTDiv, Int.reduceToNat, okChain_i, okLoads_nil, okLoads_in, okLoads_eq]
    rfl
  have c3' := Decidable.not_not.1 c3
  have d3 : decide (w8 (ix m 0) = 165) = true := by rw [e_mark]; simpa using c3'
  obtain ⟨u1, es1, hu1⟩ := hB2.cut (lo := some (.int .i64 1)) (hi := some (.int .i64 42)) (l := 1) (r := 42) rfl rfl (by omega) (by rw [List.length_map]; omega)
  rw [← List.map_take, ← List.map_drop] at hu1
  have ecrc := sum2_f u1 ((m.take 42).drop 1) (by simp; omega) H2 hu1
  obtain ⟨u2, es2, hu2⟩ := hB2.cut (lo := some (.int .i64 42)) (hi := none) (l := 42) (r := (m.map w8).length) rfl rfl (by rw [List.length_map]; omega) (Nat.le_refl _)
  rw [List.take_length, ← List.map_drop] at hu2
  have eg2 := number2_f H2 u2 _ (by simp; omega) hu2
  rw [show m.drop 42 = (m.drop 42).take 2 from (List.take_of_length_le (by rw [List.length_drop]; omega)).symm] at eg2
  have ee := e_eq64 ((crc ((m.take 42).drop 1)).setWidth 64) (num ((m.drop 42).take 2))
  by_cases c4 : (crc ((m.take 42).drop 1)).setWidth 64 ≠ num ((m.drop 42).take 2)
  · have d4 : decide (w64 ((crc ((m.take 42).drop 1)).setWidth 64) = w64 (num ((m.drop 42).take 2))) = false := by rw [ee]; simpa using c4
    have hc : rdC m = some 3 := by unfold rdC; rw [if_neg c1, if_neg c2, if_neg c3, if_pos c4]
    have hr : rdR m = Rec.z := if_neg (by rw [hc]; simp)
    rw [hc, hr]
    refine hend _ _ [] ?_
    rw [q16]
    simp (maxDischargeDepth := 8) only [r16, b16, c16_0, c16_1, c16_2, c16_3, c16_4, c16_5, c16_6, c16_7, c16_8, c16_9, c16_10, c16_11, c16_12, ← hH2, l1, d1, d2, d3, x0', y0, z0, u0, es1, ecrc, es2, eg2, e64_16, d4, k2, i2, hset, cd, Rec.L, Rec.z, List.append_nil, RUN, Ed, knd, kndR, resV, binInt, mnmxV, mnmx2, fillL, unV, extractV, partV, loadAt, Nat.reduceAdd, Nat.reduceBEq, Nat.reduceEqDiff, Nat.reduceLT, Nat.reduceLeDiff, Nat.reduceMul, Nat.reduceSub, reduceIte, Int.reduceEq, Int.reduceNe, Int.reduceLT, Int.reduceLE, Int.reduceAdd, Int.reduceSub, Int.reduceMul, Int.reduceNeg, Int.reduceMod, Int.reduceDiv, Int.reduceTMod, Int.reduceTDiv, Int.reduceToNat, okChain_i, okLoads_nil, okLoads_in, okLoads_eq]
    rfl
  have c4' := Decidable.not_not.1 c4
  have d4 : decide (w64 ((crc ((m.take 42).drop 1)).setWidth 64) = w64 (num ((m.drop 42).take 2))) = true := by rw [ee]; simpa using c4'
  have hc : rdC m = amiss (recOf m) := by unfold rdC; rw [if_neg c1, if_neg c2, if_neg c3, if_neg c4]
  obtain ⟨v1, f1, n1⟩ := part2_f H2 v m hl hB2 1 4 (by omega)
  obtain ⟨v2, f2, n2⟩ := part2_f H2 v m hl hB2 6 4 (by omega)
  obtain ⟨v3, f3, n3⟩ := part2_f H2 v m hl hB2 10 8 (by omega)
  obtain ⟨v4, f4, n4⟩ := part2_f H2 v m hl hB2 18 8 (by omega)
  obtain ⟨v5, f5, n5⟩ := part2_f H2 v m hl hB2 26 8 (by omega)
  obtain ⟨v6, f6, n6⟩ := part2_f H2 v m hl hB2 34 8 (by omega)
  have f1' : sliceV 1 v (some (.int .i64 1)) (some (.int .i64 5)) = some v1 := f1
  have f2' : sliceV 1 v (some (.int .i64 6)) (some (.int .i64 10)) = some v2 := f2
  have f3' : sliceV 1 v (some (.int .i64 10)) (some (.int .i64 18)) = some v3 := f3
  have f4' : sliceV 1 v (some (.int .i64 18)) (some (.int .i64 26)) = some v4 := f4
  have f5' : sliceV 1 v (some (.int .i64 26)) (some (.int .i64 34)) = some v5 := f5
  have f6' : sliceV 1 v (some (.int .i64 34)) (some (.int .i64 42)) = some v6 := f6
  obtain ⟨a5, o5, x5, ow5, ty5, cs5, y5, z5⟩ := hB2.idx (map_get (ix_get (m := m) (i := 5) (by omega)))
  have x5' : idxSV 1 v (.int .i64 5) = some (.pointer (some ⟨a5, o5, none⟩)) := x5
  have u5 := live_ltG y5
  have e5 : IntKind.i64.wrap (w8 (ix m 5)) = (recOf m).m := e_64 _
  have hs : IntKind.u32.wrap (w64 (num ((m.drop 1).take 4))) = (recOf m).s := rfl
  have hl' : IntKind.u32.wrap (w64 (num ((m.drop 6).take 4))) = (recOf m).l := rfl
  have ha' : IntKind.i64.wrap (w64 (num ((m.drop 10).take 8))) = (recOf m).a := rfl
  have hb' : IntKind.i64.wrap (w64 (num ((m.drop 18).take 8))) = (recOf m).b := rfl
  have hc' : IntKind.i64.wrap (w64 (num ((m.drop 26).take 8))) = (recOf m).c := rfl
  have hd' : IntKind.i64.wrap (w64 (num ((m.drop 34).take 8))) = (recOf m).d := rfl
  obtain ⟨X3, e3⟩ := goodR_f (recOf m) (H2 ++ [some ⟨true, 26, (recOf m).L⟩])
  unfold rdR
  rw [hc]
  generalize recOf m = R at *
  obtain ⟨rs, rm, rl, ra, rb, rc, rd⟩ := R
  simp only [Rec.L] at e3 e5 hs hl' ha' hb' hc' hd'
  cases hg : good ⟨rs, rm, rl, ra, rb, rc, rd⟩ with
  | true =>
    have ham : amiss ⟨rs, rm, rl, ra, rb, rc, rd⟩ = none := if_pos hg
    rw [hg] at e3
    rw [ham, if_pos rfl]
    have hset2 : H2.set H.length (some ⟨true, 26, [.int .u32 rs, .int .i64 rm, .int .u32 rl, .int .i64 ra, .int .i64 rb, .int .i64 rc, .int .i64 rd]⟩) = H ++ [some ⟨true, 26, [.int .u32 rs, .int .i64 rm, .int .u32 rl, .int .i64 ra, .int .i64 rb, .int .i64 rc, .int .i64 rd]⟩] := by
      rw [hH2, set_app_len]; rfl
    refine ⟨?X6, ?run6⟩
    case run6 =>
      rw [q16]
      simp (maxDischargeDepth := 8) only [r16, b16, c16_0, c16_1, c16_2, c16_3, c16_4, c16_5, c16_6, c16_7, c16_8, c16_9, c16_10, c16_11, c16_12, ← hH2, l1, d1, d2, d3, x0', y0, z0, u0, es1, ecrc, es2, eg2, e64_16, d4, f1', n1, f2', n2, f3', n3, f4', n4, f5', n5, f6', n6, x5', y5, z5, u5, e5, hs, hl', ha', hb', hc', hd', e3, hset2, k2, i2, cd, Rec.L, Rec.z, RUN, Ed, knd, kndR, resV, binInt, mnmxV, mnmx2, fillL, unV, extractV, partV, loadAt, Nat.reduceAdd, Nat.reduceBEq, Nat.reduceEqDiff, Nat.reduceLT, Nat.reduceLeDiff, Nat.reduceMul, Nat.reduceSub, reduceIte, Int.reduceEq, Int.reduceNe, Int.reduceLT, Int.reduceLE, Int.reduceAdd, Int.reduceSub, Int.reduceMul, Int.reduceNeg, Int.reduceMod, Int.reduceDiv, Int.reduceTMod, Int.reduceTDiv, Int.reduceToNat, okChain_i, okLoads_nil, okLoads_in, okLoads_eq]
      rfl
  | false =>
    have ham : amiss ⟨rs, rm, rl, ra, rb, rc, rd⟩ = some 0 := if_neg (by rw [hg]; decide)
    rw [hg] at e3
    rw [ham, if_neg (by simp)]
    refine hend (101 + 0) Rec.z ([some ⟨true, 26, [.int .u32 rs, .int .i64 rm, .int .u32 rl, .int .i64 ra, .int .i64 rb, .int .i64 rc, .int .i64 rd]⟩] ++ X3) ?_
    rw [q16]
    simp (maxDischargeDepth := 8) only [r16, b16, c16_0, c16_1, c16_2, c16_3, c16_4, c16_5, c16_6, c16_7, c16_8, c16_9, c16_10, c16_11, c16_12, ← hH2, l1, d1, d2, d3, x0', y0, z0, u0, es1, ecrc, es2, eg2, e64_16, d4, f1', n1, f2', n2, f3', n3, f4', n4, f5', n5, f6', n6, x5', y5, z5, u5, e5, hs, hl', ha', hb', hc', hd', e3, hset, k2, i2, cd, Rec.L, Rec.z, RUN, Ed, knd, kndR, resV, binInt, mnmxV, mnmx2, fillL, unV, extractV, partV, loadAt, Nat.reduceAdd, Nat.reduceBEq, Nat.reduceEqDiff, Nat.reduceLT, Nat.reduceLeDiff, Nat.reduceMul, Nat.reduceSub, reduceIte, Int.reduceEq, Int.reduceNe, Int.reduceLT, Int.reduceLE, Int.reduceAdd, Int.reduceSub, Int.reduceMul, Int.reduceNeg, Int.reduceMod, Int.reduceDiv, Int.reduceTMod, Int.reduceTDiv, Int.reduceToNat, okChain_i, okLoads_nil, okLoads_in, okLoads_eq]
theorem first_f (H : Heap) (hE : EH all7 H) : ∃ X, D Tryd.prog hints 12 [] H = some (.bool true, H ++ X) := by
  obtain ⟨X1, e1⟩ := read_f (.slice none 0 0) [] (by simp) H hE (BS.nil _ _)
  have hc : rdC [] = some 2 := rfl
  have hr : rdR [] = Rec.z := rfl
  rw [hc, hr] at e1
  simp only [Rec.L, Rec.z, EV] at e1
  obtain ⟨X2, e2⟩ := is_f (some 2) (by intro i h; cases h; omega) 103 ((H ++ X1) ++ [some ⟨true, 26, Rec.z.L⟩]) ((hE.more X1).more _)
  rw [show decide (cd (some 2) = 103) = true from rfl] at e2
  simp only [K, EV, Rec.L, Rec.z, List.append_assoc] at e2
  refine ⟨?X3, ?run3⟩
  case run3 =>
    rw [D_eq p12 _ _ (Nat.le_of_ble_eq_true rfl)]
    simp (maxDischargeDepth := 8) only [r12, b12, c12_0, c12_1, c12_2, e1, e2, one_E, cells_E, RUN, Ed, knd, kndR, resV, binInt, mnmxV, mnmx2, fillL, unV, lenV, extractV, partV, loadAt, Nat.reduceAdd, Nat.reduceBEq, Nat.reduceEqDiff, Nat.reduceLT, Nat.reduceLeDiff, Nat.reduceMul, Nat.reduceSub, reduceIte, Int.reduceEq, Int.reduceNe, Int.reduceLT, Int.reduceLE, Int.reduceAdd, Int.reduceSub, Int.reduceMul, Int.reduceNeg, Int.reduceMod, Int.reduceDiv, Int.reduceTMod, Int.reduceTDiv, Int.reduceToNat, okChain_i, okLoads_nil, okLoads_in, okLoads_eq]
    rfl
end Go.Proofs.YtdipdpkdmiokeaaDoor.Sim
