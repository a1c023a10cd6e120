/- Bytes as a record, over the plain heap. -/
import Derived.Test.YtdipdpkdmiokeaaDoorSl3
import Derived.Test.YtdipdpkdmiokeaaDoorSim21
namespace Go.Proofs.YtdipdpkdmiokeaaDoor.Sim
open Go Go.Proofs.YtdipdpkdmiokeaaDoor.CrcMath
set_option linter.unusedSimpArgs false
set_option linter.unusedVariables false
def ix (m : List B8) (i : Nat) : B8 := m.getD i 0
theorem ix_get {m : List B8} {i : Nat} (h : i < m.length) : m[i]? = some (ix m i) := by
  unfold ix
  rw [List.getD_eq_getElem?_getD, List.getElem?_eq_getElem h]; rfl
theorem e_64 (b : B8) : IntKind.i64.wrap (w8 b) = ((b.toNat : Nat) : Int) := by
  have hb := b.isLt
  exact wrap64 _ (by unfold w8; omega) (by unfold w8; omega)
theorem w8_inj {a b : B8} : w8 a = w8 b ↔ a = b := by
  constructor
  · intro h; rw [← ofInt_w8 a, h, ofInt_w8]
  · rintro rfl; rfl
theorem map_w8_inj {l m : List B8} : l.map w8 = m.map w8 ↔ l = m := List.map_inj_right (fun x y h => w8_inj.1 h)
theorem e_mark (a : B8) : decide (w8 a = 165) = decide (a = 0xa5#8) := decide_eq_decide.2 (w8_inj (b := 0xa5#8))
theorem e_eq64 (a b : B64) : decide (w64 a = w64 b) = decide (a = b) := decide_eq_decide.2 w64_inj
def recOf (m : List B8) : Rec := ⟨IntKind.u32.wrap (w64 (num ((m.drop 1).take 4))), ((ix m 5).toNat : Nat), IntKind.u32.wrap (w64 (num ((m.drop 6).take 4))), IntKind.i64.wrap (w64 (num ((m.drop 10).take 8))), IntKind.i64.wrap (w64 (num ((m.drop 18).take 8))), IntKind.i64.wrap (w64 (num ((m.drop 26).take 8))), IntKind.i64.wrap (w64 (num ((m.drop 34).take 8)))⟩
/-- Why bytes are no record. -/
def rdC (m : List B8) : Option Nat := if m.length < 44 then some 2 else if 44 < m.length then some 1 else if ix m 0 ≠ 0xa5#8 then some 6 else if (crc ((m.take 42).drop 1)).setWidth 64 ≠ num ((m.drop 42).take 2) then some 3 else amiss (recOf m)
def rdR (m : List B8) : Rec := if rdC m = none then recOf m else Rec.z
theorem rdC_lt (m : List B8) : ∀ i, rdC m = some i → i < 7 := by
  intro i h
  unfold rdC amiss at h
  split at h
  · injection h with h; omega
  · split at h
    · injection h with h; omega
    · split at h
      · injection h with h; omega
      · split at h
        · injection h with h; omega
        · split at h
          · cases h
          · injection h with h; omega
theorem part_f (G : Heap) (v : Value) (m : List B8) (hl : m.length = 44) (hB : BS G v (m.map w8)) (k c : Nat) (hk : k + c ≤ 44) : ∃ u, sliceV 1 v (some (.int .i64 (k : Int))) none = some u ∧ D Tryd.prog hints 42 [u, .int .i64 c] G = some (.int .u64 (w64 (num ((m.drop k).take c))), G) := by
  obtain ⟨u, es, hu⟩ := hB.cut (lo := some (.int .i64 (k : Int))) (hi := none) (l := k) (r := (m.map w8).length) (bound_nat _ _ _) rfl (by rw [List.length_map]; omega) (Nat.le_refl _)
  rw [List.take_length, ← List.map_drop] at hu
  exact ⟨u, es, get_f G u (m.drop k) c (by rw [List.length_drop]; omega) (by rw [List.length_drop]; omega) hu⟩
theorem q_f (G : Heap) (v : Value) (m : List B8) (hl : m.length = 44) (hB : BS G v (m.map w8)) (p : Nat) (hp : live G p = some ⟨true, 27, [v]⟩) (k : Nat) (hk : k + 8 ≤ 44) : D Tryd.prog hints 43 [.int .i64 (k : Int), .pointer (some ⟨p, 0, none⟩)] G = some (.int .i64 (IntKind.i64.wrap (w64 (num ((m.drop k).take 8)))), G) := by
  obtain ⟨u, es, eg⟩ := part_f G v m hl hB k 8 hk
  have ip := live_ltG hp
  have eg' : D Tryd.prog hints 42 [u, .int .i64 8] G = some (.int .u64 (w64 (num ((m.drop k).take 8))), G) := eg
  rw [D_eq p43 _ _ (Nat.le_of_ble_eq_true rfl)]
  simp (maxDischargeDepth := 8) only [r43, b43, c43_0, c43_1, hp, ip, es, eg', RUN, Ed, knd, kndR, resV, binInt, mnmxV, mnmx2, fillL, unV, lenV, extractV, partV, loadAt, Nat.reduceAdd, Nat.reduceBEq, Nat.reduceEqDiff, Nat.reduceLT, Nat.reduceLeDiff, Nat.reduceMul, Nat.reduceSub, reduceIte, Int.reduceEq, Int.reduceNe, Int.reduceLT, Int.reduceLE, Int.reduceAdd, Int.reduceSub, Int.reduceMul, Int.reduceNeg, Int.reduceMod, Int.reduceDiv, Int.reduceTMod, Int.reduceTDiv, Int.reduceToNat, okChain_i, okLoads_nil, okLoads_in, okLoads_eq]
theorem read_f (v : Value) (m : List B8) (hm : m.length ≤ 1000000) (H : Heap) (hE : EH all7 H) (hB : BS H v (m.map w8)) : ∃ X, D Tryd.prog hints 15 [v] H = some (.tuple ⟨[.agg ⟨(rdR m).L⟩, EV (rdC m)]⟩, H ++ X) := by
  obtain ⟨o1, o2⟩ := hB.one
  obtain ⟨H2, hH2⟩ : ∃ H2, H2 = H ++ [some ⟨true, 27, [v]⟩, some ⟨true, 26, Rec.z.L⟩] := ⟨_, rfl⟩
  have x2 : Ext H H2 := ⟨_, hH2⟩
  have k1 : live H2 H.length = some ⟨true, 27, [v]⟩ := by rw [hH2]; exact (live_app_len _ _).trans rfl
  have k2 : live H2 (H.length + 1) = some ⟨true, 26, Rec.z.L⟩ := by rw [hH2]; exact (live_app_add _ _ _).trans rfl
  have i1 := live_ltG k1
  have i2 := live_ltG k2
  have hB2 := hB.ext x2
  have hE2 := hE.ext x2
  have l1 := hB2.len
  rw [List.length_map] at l1
  obtain ⟨t0, r0⟩ := hE2 0 (by omega) rfl
  obtain ⟨t1, r1⟩ := hE2 1 (by omega) rfl
  obtain ⟨t2, r2⟩ := hE2 2 (by omega) rfl
  obtain ⟨t3, r3⟩ := hE2 3 (by omega) rfl
  obtain ⟨t6, r6⟩ := hE2 6 (by omega) rfl
  have j0 := live_ltG r0
  have j1 := live_ltG r1
  have j2 := live_ltG r2
  have j3 := live_ltG r3
  have j6 := live_ltG r6
  have hlow : 7 ≤ H.length := by
    obtain ⟨t, h6⟩ := hE 6 (by omega) rfl
    have := live_ltG h6; omega
  have n0 : ¬ (H.length + 1 = 0) := by omega
  have n1 : ¬ (H.length + 1 = 1) := by omega
  have n2 : ¬ (H.length + 1 = 2) := by omega
  have n3 : ¬ (H.length + 1 = 3) := by omega
  have n6 : ¬ (H.length + 1 = 6) := by omega
  have hset : H2.set (H.length + 1) (some ⟨true, 26, Rec.z.L⟩) = H2 := by
    rw [hH2, set_app_add]; rfl
  have hend : ∀ (c : Option Nat) (R : Rec) (X : Heap), D Tryd.prog hints 15 [v] H = some (.tuple ⟨[.agg ⟨R.L⟩, EV c]⟩, H2 ++ X) → ∃ X, D Tryd.prog hints 15 [v] H = some (.tuple ⟨[.agg ⟨R.L⟩, EV c]⟩, H ++ X) := by
    intro c R X h
    exact ⟨_, by rw [h, hH2, List.append_assoc]⟩
  have q15 : D Tryd.prog hints 15 [v] H = done r15.res (E Tryd.prog hints r15.body (frame0 [v]) H) := D_eq p15 _ _ (Nat.le_of_ble_eq_true rfl)
  simp only [Rec.L, Rec.z] at k2 hset hH2
  by_cases c1 : m.length < 44
  · have d1 : (m.length : Int) < 44 := by omega
    have hc : rdC m = some 2 := if_pos c1
    have hr : rdR m = Rec.z := if_neg (by rw [hc]; simp)
    rw [hc, hr]
    refine hend _ _ [] ?_
    rw [q15]
    simp (maxDischargeDepth := 8) only [r15, b15, c15_0, c15_1, c15_2, c15_3, c15_4, c15_5, c15_6, c15_7, c15_8, c15_9, c15_10, c15_11, c15_12, c15_13, c15_14, o1, o2, ← hH2, k1, i1, l1, d1, k2, i2, hset, r2, j2, n2, g1, EV, Rec.L, Rec.z, List.append_nil, RUN, Ed, knd, kndR, resV, binInt, mnmxV, mnmx2, fillL, unV, extractV, partV, loadAt, Nat.reduceAdd, Nat.reduceBEq, Nat.reduceEqDiff, Nat.reduceLT, Nat.reduceLeDiff, Nat.reduceMul, Nat.reduceSub, reduceIte, Int.reduceEq, Int.reduceNe, Int.reduceLT, Int.reduceLE, Int.reduceAdd, Int.reduceSub, Int.reduceMul, Int.reduceNeg, Int.reduceMod, Int.reduceDiv, Int.reduceTMod, Int.reduceTDiv, Int.reduceToNat, okChain_i, okLoads_nil, okLoads_in, okLoads_eq]
  have d1 : ¬ (m.length : Int) < 44 := by omega
  by_cases c2 : 44 < m.length
  · have d2 : (44 : Int) < (m.length : Int) := by omega
    have hc : rdC m = some 1 := by unfold rdC; rw [if_neg c1, if_pos c2]
    have hr : rdR m = Rec.z := if_neg (by rw [hc]; simp)
    rw [hc, hr]
    refine hend _ _ [] ?_
    rw [q15]
    simp (maxDischargeDepth := 8) only [r15, b15, c15_0, c15_1, c15_2, c15_3, c15_4, c15_5, c15_6, c15_7, c15_8, c15_9, c15_10, c15_11, c15_12, c15_13, c15_14, o1, o2, ← hH2, k1, i1, l1, d1, d2, k2, i2, hset, r1, j1, n1, g2, EV, Rec.L, Rec.z, List.append_nil, RUN, Ed, knd, kndR, resV, binInt, mnmxV, mnmx2, fillL, unV, extractV, partV, loadAt, Nat.reduceAdd, Nat.reduceBEq, Nat.reduceEqDiff, Nat.reduceLT, Nat.reduceLeDiff, Nat.reduceMul, Nat.reduceSub, reduceIte, Int.reduceEq, Int.reduceNe, Int.reduceLT, Int.reduceLE, Int.reduceAdd, Int.reduceSub, Int.reduceMul, Int.reduceNeg, Int.reduceMod, Int.reduceDiv, Int.reduceTMod, Int.reduceTDiv, Int.reduceToNat, okChain_i, okLoads_nil, okLoads_in, okLoads_eq]
  have d2 : ¬ (44 : Int) < (m.length : Int) := by omega
  have hl : m.length = 44 := by omega
  obtain ⟨a0, o0, x0, ow0, ty0, cs0, y0, z0⟩ := hB2.idx (map_get (ix_get (m := m) (i := 0) (by omega)))
  have x0' : idxSV 1 v (.int .i64 0) = some (.pointer (some ⟨a0, o0, none⟩)) := x0
  have u0 := live_ltG y0
  by_cases c3 : ix m 0 ≠ 0xa5#8
  · have d3 : decide (w8 (ix m 0) = 165) = false := by rw [e_mark]; simpa using c3
    have hc : rdC m = some 6 := by unfold rdC; rw [if_neg c1, if_neg c2, if_pos c3]
    have hr : rdR m = Rec.z := if_neg (by rw [hc]; simp)
    rw [hc, hr]
    refine hend _ _ [] ?_
    rw [q15]
    simp (maxDischargeDepth := 8) only [r15, b15, c15_0, c15_1, c15_2, c15_3, c15_4, c15_5, c15_6, c15_7, c15_8, c15_9, c15_10, c15_11, c15_12, c15_13, c15_14, o1, o2, ← hH2, k1, i1, l1, d1, d2, d3, x0', y0, z0, u0, k2, i2, hset, r6, j6, n6, g3, EV, Rec.L, Rec.z, List.append_nil, RUN, Ed, knd, kndR, resV, binInt, mnmxV, mnmx2, fillL, unV, extractV, partV, loadAt, Nat.reduceAdd, Nat.reduceBEq, Nat.reduceEqDiff, Nat.reduceLT, Nat.reduceLeDiff, Nat.reduceMul, Nat.reduceSub, reduceIte, Int.reduceEq, Int.reduceNe, Int.reduceLT, Int.reduceLE, Int.reduceAdd, Int.reduceSub, Int.reduceMul, Int.reduceNeg, Int.reduceMod, Int.reduceDiv, Int.reduceTMod, Int.reduceTDiv, Int.reduceToNat, okChain_i, okLoads_nil, okLoads_in, okLoads_eq]
  have c3' := Decidable.not_not.1 c3
  have d3 : decide (w8 (ix m 0) = 165) = true := by rw [e_mark]; simpa using c3'
  obtain ⟨u1, es1, hu1⟩ := hB2.cut (lo := some (.int .i64 1)) (hi := some (.int .i64 42)) (l := 1) (r := 42) rfl rfl (by omega) (by rw [List.length_map]; omega)
  rw [← List.map_take, ← List.map_drop] at hu1
  have ecrc := sum_f u1 ((m.take 42).drop 1) (by simp; omega) H2 hu1
  obtain ⟨u2, es2, eg2⟩ := part_f H2 v m hl hB2 42 2 (by omega)
  have es2' : sliceV 1 v (some (.int .i64 42)) none = some u2 := es2
  have eg2' : D Tryd.prog hints 42 [u2, .int .i64 2] H2 = some (.int .u64 (w64 (num ((m.drop 42).take 2))), H2) := eg2
  have ee := e_eq64 ((crc ((m.take 42).drop 1)).setWidth 64) (num ((m.drop 42).take 2))
  by_cases c4 : (crc ((m.take 42).drop 1)).setWidth 64 ≠ num ((m.drop 42).take 2)
  · have d4 : decide (w64 ((crc ((m.take 42).drop 1)).setWidth 64) = w64 (num ((m.drop 42).take 2))) = false := by rw [ee]; simpa using c4
    have hc : rdC m = some 3 := by unfold rdC; rw [if_neg c1, if_neg c2, if_neg c3, if_pos c4]
    have hr : rdR m = Rec.z := if_neg (by rw [hc]; simp)
    rw [hc, hr]
    refine hend _ _ [] ?_
    rw [q15]
    simp (maxDischargeDepth := 8) only [r15, b15, c15_0, c15_1, c15_2, c15_3, c15_4, c15_5, c15_6, c15_7, c15_8, c15_9, c15_10, c15_11, c15_12, c15_13, c15_14, o1, o2, ← hH2, k1, i1, l1, d1, d2, d3, x0', y0, z0, u0, es1, ecrc, es2', eg2', e64_16, d4, k2, i2, hset, r3, j3, n3, g4, EV, Rec.L, Rec.z, List.append_nil, RUN, Ed, knd, kndR, resV, binInt, mnmxV, mnmx2, fillL, unV, extractV, partV, loadAt, Nat.reduceAdd, Nat.reduceBEq, Nat.reduceEqDiff, Nat.reduceLT, Nat.reduceLeDiff, Nat.reduceMul, Nat.reduceSub, reduceIte, Int.reduceEq, Int.reduceNe, Int.reduceLT, Int.reduceLE, Int.reduceAdd, Int.reduceSub, Int.reduceMul, Int.reduceNeg, Int.reduceMod, Int.reduceDiv, Int.reduceTMod, Int.reduceTDiv, Int.reduceToNat, okChain_i, okLoads_nil, okLoads_in, okLoads_eq]
  have c4' := Decidable.not_not.1 c4
  have d4 : decide (w64 ((crc ((m.take 42).drop 1)).setWidth 64) = w64 (num ((m.drop 42).take 2))) = true := by rw [ee]; simpa using c4'
  have hc : rdC m = amiss (recOf m) := by unfold rdC; rw [if_neg c1, if_neg c2, if_neg c3, if_neg c4]
  obtain ⟨u3, es3, eg3⟩ := part_f H2 v m hl hB2 1 4 (by omega)
  obtain ⟨u4, es4, eg4⟩ := part_f H2 v m hl hB2 6 4 (by omega)
  have es3' : sliceV 1 v (some (.int .i64 1)) none = some u3 := es3
  have eg3' : D Tryd.prog hints 42 [u3, .int .i64 4] H2 = some (.int .u64 (w64 (num ((m.drop 1).take 4))), H2) := eg3
  have es4' : sliceV 1 v (some (.int .i64 6)) none = some u4 := es4
  have eg4' : D Tryd.prog hints 42 [u4, .int .i64 4] H2 = some (.int .u64 (w64 (num ((m.drop 6).take 4))), H2) := eg4
  have eq1 : D Tryd.prog hints 43 [.int .i64 10, .pointer (some ⟨H.length, 0, none⟩)] H2 = some (.int .i64 (recOf m).a, H2) := q_f H2 v m hl hB2 _ k1 10 (by omega)
  have eq2 : D Tryd.prog hints 43 [.int .i64 18, .pointer (some ⟨H.length, 0, none⟩)] H2 = some (.int .i64 (recOf m).b, H2) := q_f H2 v m hl hB2 _ k1 18 (by omega)
  have eq3 : D Tryd.prog hints 43 [.int .i64 26, .pointer (some ⟨H.length, 0, none⟩)] H2 = some (.int .i64 (recOf m).c, H2) := q_f H2 v m hl hB2 _ k1 26 (by omega)
  have eq4 : D Tryd.prog hints 43 [.int .i64 34, .pointer (some ⟨H.length, 0, none⟩)] H2 = some (.int .i64 (recOf m).d, H2) := q_f H2 v m hl hB2 _ k1 34 (by omega)
  obtain ⟨a5, o5, x5, ow5, ty5, cs5, y5, z5⟩ := hB2.idx (map_get (ix_get (m := m) (i := 5) (by omega)))
  have x5' : idxSV 1 v (.int .i64 5) = some (.pointer (some ⟨a5, o5, none⟩)) := x5
  have u5 := live_ltG y5
  have e5 : IntKind.i64.wrap (w8 (ix m 5)) = (recOf m).m := e_64 _
  have hs : IntKind.u32.wrap (w64 (num ((m.drop 1).take 4))) = (recOf m).s := rfl
  have hl' : IntKind.u32.wrap (w64 (num ((m.drop 6).take 4))) = (recOf m).l := rfl
  obtain ⟨X3, e3⟩ := check_f (recOf m) (H2 ++ [some ⟨true, 26, (recOf m).L⟩]) (hE2.ext (Ext.more _ _))
  have hcc := hc
  unfold rdR
  rw [hc]
  generalize recOf m = R at *
  obtain ⟨rs, rm, rl, ra, rb, rc, rd⟩ := R
  simp only [Rec.L] at e3 eq1 eq2 eq3 eq4 e5 hs hl'
  cases ham : amiss ⟨rs, rm, rl, ra, rb, rc, rd⟩ with
  | none =>
    rw [ham] at e3
    simp only [EV] at e3
    rw [if_pos rfl]
    have hset2 : H2.set (H.length + 1) (some ⟨true, 26, [.int .u32 rs, .int .i64 rm, .int .u32 rl, .int .i64 ra, .int .i64 rb, .int .i64 rc, .int .i64 rd]⟩) = H ++ [some ⟨true, 27, [v]⟩, some ⟨true, 26, [.int .u32 rs, .int .i64 rm, .int .u32 rl, .int .i64 ra, .int .i64 rb, .int .i64 rc, .int .i64 rd]⟩] := by
      rw [hH2, set_app_add]; rfl
    refine ⟨?X6, ?run6⟩
    case run6 =>
      rw [q15]
      simp (maxDischargeDepth := 8) only [r15, b15, c15_0, c15_1, c15_2, c15_3, c15_4, c15_5, c15_6, c15_7, c15_8, c15_9, c15_10, c15_11, c15_12, c15_13, c15_14, o1, o2, ← hH2, k1, i1, l1, d1, d2, d3, x0', y0, z0, u0, es1, ecrc, es2', eg2', e64_16, d4, es3', eg3', es4', eg4', eq1, eq2, eq3, eq4, x5', y5, z5, u5, e5, hs, hl', e3, hset2, k2, i2, EV, Rec.L, Rec.z, RUN, Ed, knd, kndR, resV, binInt, mnmxV, mnmx2, fillL, unV, extractV, partV, loadAt, Nat.reduceAdd, Nat.reduceBEq, Nat.reduceEqDiff, Nat.reduceLT, Nat.reduceLeDiff, Nat.reduceMul, Nat.reduceSub, reduceIte, Int.reduceEq, Int.reduceNe, Int.reduceLT, Int.reduceLE, Int.reduceAdd, Int.reduceSub, Int.reduceMul, Int.reduceNeg, Int.reduceMod, Int.reduceDiv, Int.reduceTMod, Int.reduceTDiv, Int.reduceToNat, okChain_i, okLoads_nil, okLoads_in, okLoads_eq]
      rfl
  | some i =>
    have hi0 : i = 0 := by
      unfold amiss at ham
      split at ham
      · cases ham
      · injection ham with ham; exact ham.symm
    subst hi0
    rw [ham] at e3
    simp only [EV] at e3
    rw [if_neg (by simp)]
    refine hend (some 0) Rec.z ([some ⟨true, 26, [.int .u32 rs, .int .i64 rm, .int .u32 rl, .int .i64 ra, .int .i64 rb, .int .i64 rc, .int .i64 rd]⟩] ++ X3) ?_
    rw [q15]
    simp (maxDischargeDepth := 8) only [r15, b15, c15_0, c15_1, c15_2, c15_3, c15_4, c15_5, c15_6, c15_7, c15_8, c15_9, c15_10, c15_11, c15_12, c15_13, c15_14, o1, o2, ← hH2, k1, i1, l1, d1, d2, d3, x0', y0, z0, u0, es1, ecrc, es2', eg2', e64_16, d4, es3', eg3', es4', eg4', eq1, eq2, eq3, eq4, x5', y5, z5, u5, e5, hs, hl', e3, hset, k2, i2, same_En, EV, Rec.L, Rec.z, RUN, Ed, knd, kndR, resV, binInt, mnmxV, mnmx2, fillL, unV, extractV, partV, loadAt, Nat.reduceAdd, Nat.reduceBEq, Nat.reduceEqDiff, Nat.reduceLT, Nat.reduceLeDiff, Nat.reduceMul, Nat.reduceSub, reduceIte, Int.reduceEq, Int.reduceNe, Int.reduceLT, Int.reduceLE, Int.reduceAdd, Int.reduceSub, Int.reduceMul, Int.reduceNeg, Int.reduceMod, Int.reduceDiv, Int.reduceTMod, Int.reduceTDiv, Int.reduceToNat, okChain_i, okLoads_nil, okLoads_in, okLoads_eq]
end Go.Proofs.YtdipdpkdmiokeaaDoor.Sim
