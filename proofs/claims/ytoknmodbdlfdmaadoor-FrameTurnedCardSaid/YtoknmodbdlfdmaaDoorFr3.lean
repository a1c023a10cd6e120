/- What bytes begin with, as a frame; frames that are alike. -/
import Derived.Test.YtoknmodbdlfdmaaDoorFr2
import Derived.Test.YtoknmodbdlfdmaaDoorSim21
namespace Go.Proofs.YtoknmodbdlfdmaaDoor.Sim
open Go Go.Proofs.YtoknmodbdlfdmaaDoor.CrcMath
set_option linter.unusedSimpArgs false
set_option linter.unusedVariables false
def ix (m : List B8) (i : Nat) : B8 := m.getD i 0
theorem ix_get {m : List B8} {i : Nat} (h : i < m.length) : m[i]? = some (ix m i) := by
  unfold ix
  rw [List.getD_eq_getElem?_getD, List.getElem?_eq_getElem h]; rfl
def bodyN (m : List B8) : Nat := (ix m 3).toNat
def begC (m : List B8) : Prop := 6 ≤ m.length ∧ ix m 0 = 0x7e#8 ∧ bodyN m ≤ 32 ∧ 6 + bodyN m ≤ m.length ∧ crc ((m.take (4 + bodyN m)).drop 1) = word (ix m (4 + bodyN m)) (ix m (5 + bodyN m))
instance (m : List B8) : Decidable (begC m) := by unfold begC; infer_instance
def begF (m : List B8) : Fra := (ix m 1, ix m 2, (m.take (4 + bodyN m)).drop 4)
theorem word_e (a b : B8) : IntKind.u16.wrap ((BitVec.ofInt IntKind.u16.bits (w16 (up a)) ||| BitVec.ofInt IntKind.u16.bits (w16 (b.setWidth 16))).toNat : Int) = w16 (word a b) := e_or _ _
theorem SM.base {ty esz : Nat} {H G F : Heap} {v : Value} {n : Nat} {cells : List Value} (h : SM ty esz G F v n cells) (hl : H.length ≤ G.length) : SM ty esz H F v n cells := by
  rcases h with h | ⟨c, h1, h2⟩
  · exact .inl h
  · exact .inr ⟨c, by omega, h2⟩
theorem begin_f (v : Value) (m : List B8) (hl : m.length ≤ 1000000) (H : Heap) (hB : BS H v (m.map w8)) :
    (begC m → ∃ w X, D Tryd.prog hints 21 [v] H = some (.tuple ⟨[.agg ⟨[.int .u8 (w8 (ix m 1)), .int .u8 (w8 (ix m 2)), w]⟩, .bool true]⟩, H ++ X) ∧ SM 5 1 H (H ++ X) w ((begF m).2.2.map w8).length (bL ((begF m).2.2.map w8))) ∧
    (¬ begC m → ∃ X, D Tryd.prog hints 21 [v] H = some (.tuple ⟨[.agg ⟨[.int .u8 0, .int .u8 0, .slice none 0 0]⟩, .bool false]⟩, H ++ X)) := by
  have l1 := hB.len
  rw [List.length_map] at l1
  have q21 : D Tryd.prog hints 21 [v] H = done r21.res (E Tryd.prog hints r21.body (frame0 [v]) H) := D_eq p21 _ _ (Nat.le_of_ble_eq_true rfl)
  obtain ⟨G, hG⟩ : ∃ G, G = H ++ [some ⟨true, 24, [.int .u8 0, .int .u8 0, .slice none 0 0]⟩] := ⟨_, rfl⟩
  have hEG : Ext H G := ⟨_, hG⟩
  have hBG := hB.ext hEG
  have kp : live G H.length = some ⟨true, 24, [.int .u8 0, .int .u8 0, .slice none 0 0]⟩ := by rw [hG]; exact (live_app_len _ _).trans rfl
  have ip := live_ltG kp
  have hset : G.set H.length (some ⟨true, 24, [.int .u8 0, .int .u8 0, .slice none 0 0]⟩) = G := by
    rw [hG, set_app_len]; rfl
  by_cases c1 : m.length < 6
  · have d1 : (m.length : Int) < 6 := by omega
    refine ⟨fun h => absurd h.1 (by omega), fun _ => ⟨?X1, ?run1⟩⟩
    case run1 =>
      rw [q21]
      simp (maxDischargeDepth := 8) only [r21, b21, c21_0, c21_1, c21_2, c21_3, c21_4, c21_5, c21_6, l1, d1, RUN, Ed, knd, kndR, resV, binInt, mnmxV, mnmx2, fillL, unV, extractV, partV, loadAt, Nat.reduceAdd, Nat.reduceBEq, Nat.reduceEqDiff, Nat.reduceLT, Nat.reduceLeDiff, Nat.reduceMul, Nat.reduceSub, reduceIte, Int.reduceEq, Int.reduceNe, Int.reduceLT, Int.reduceLE, Int.reduceAdd, Int.reduceSub, Int.reduceMul, Int.reduceNeg, Int.reduceMod, Int.reduceDiv, Int.reduceTMod, Int.reduceTDiv, Int.reduceToNat, okChain_i, okLoads_nil, okLoads_in, okLoads_eq]
      rfl
  have d1 : ¬ (m.length : Int) < 6 := by omega
  obtain ⟨a0, o0, x0, ow0, ty0, cs0, y0, z0⟩ := hBG.idx (map_get (ix_get (m := m) (i := 0) (by omega)))
  obtain ⟨a1, o1, x1, ow1, ty1, cs1, y1, z1⟩ := hBG.idx (map_get (ix_get (m := m) (i := 1) (by omega)))
  obtain ⟨a2, o2, x2, ow2, ty2, cs2, y2, z2⟩ := hBG.idx (map_get (ix_get (m := m) (i := 2) (by omega)))
  obtain ⟨a3, o3, x3, ow3, ty3, cs3, y3, z3⟩ := hBG.idx (map_get (ix_get (m := m) (i := 3) (by omega)))
  have j0 := live_ltG y0
  have j1 := live_ltG y1
  have j2 := live_ltG y2
  have j3 := live_ltG y3
  have x0' : idxSV 1 v (.int .i64 0) = some (.pointer (some ⟨a0, o0, none⟩)) := x0
  have x1' : idxSV 1 v (.int .i64 1) = some (.pointer (some ⟨a1, o1, none⟩)) := x1
  have x2' : idxSV 1 v (.int .i64 2) = some (.pointer (some ⟨a2, o2, none⟩)) := x2
  have x3' : idxSV 1 v (.int .i64 3) = some (.pointer (some ⟨a3, o3, none⟩)) := x3
  have e3 := e_64 (ix m 3)
  by_cases c2' : ¬ (ix m 0 = 0x7e#8)
  · have c2 : ¬ (ix m 0 = 0x7e#8) := c2'
    have d2 : decide (w8 (ix m 0) = 126) = false := by rw [e_mark]; simpa using c2
    refine ⟨fun h => absurd h.2.1 c2, fun _ => ⟨?X2, ?run2⟩⟩
    case run2 =>
      rw [q21]
      simp (maxDischargeDepth := 8) only [r21, b21, c21_0, c21_1, c21_2, c21_3, c21_4, c21_5, c21_6, ← hG, l1, d1, d2, x0', y0, z0, j0, kp, ip, hset, RUN, Ed, knd, kndR, resV, binInt, mnmxV, mnmx2, fillL, unV, extractV, partV, loadAt, Nat.reduceAdd, Nat.reduceBEq, Nat.reduceEqDiff, Nat.reduceLT, Nat.reduceLeDiff, Nat.reduceMul, Nat.reduceSub, reduceIte, Int.reduceEq, Int.reduceNe, Int.reduceLT, Int.reduceLE, Int.reduceAdd, Int.reduceSub, Int.reduceMul, Int.reduceNeg, Int.reduceMod, Int.reduceDiv, Int.reduceTMod, Int.reduceTDiv, Int.reduceToNat, okChain_i, okLoads_nil, okLoads_in, okLoads_eq]
      rw [hG]
  have c2 := Decidable.not_not.1 c2'
  have d2 : decide (w8 (ix m 0) = 126) = true := by rw [e_mark]; simpa using c2
  by_cases c3' : ¬ (bodyN m ≤ 32)
  · have c3 : ¬ (bodyN m ≤ 32) := c3'
    have d3 : (32 : Int) < (((ix m 3).toNat : Nat) : Int) := by unfold bodyN at c3; omega
    refine ⟨fun h => absurd h.2.2.1 c3, fun _ => ⟨?X3, ?run3⟩⟩
    case run3 =>
      rw [q21]
      simp (maxDischargeDepth := 8) only [r21, b21, c21_0, c21_1, c21_2, c21_3, c21_4, c21_5, c21_6, ← hG, l1, d1, d2, d3, e3, x0', y0, z0, j0, x3', y3, z3, j3, kp, ip, hset, RUN, Ed, knd, kndR, resV, binInt, mnmxV, mnmx2, fillL, unV, extractV, partV, loadAt, Nat.reduceAdd, Nat.reduceBEq, Nat.reduceEqDiff, Nat.reduceLT, Nat.reduceLeDiff, Nat.reduceMul, Nat.reduceSub, reduceIte, Int.reduceEq, Int.reduceNe, Int.reduceLT, Int.reduceLE, Int.reduceAdd, Int.reduceSub, Int.reduceMul, Int.reduceNeg, Int.reduceMod, Int.reduceDiv, Int.reduceTMod, Int.reduceTDiv, Int.reduceToNat, okChain_i, okLoads_nil, okLoads_in, okLoads_eq]
      rw [hG]
  have c3 := Decidable.not_not.1 c3'
  have d3 : ¬ (32 : Int) < (((ix m 3).toNat : Nat) : Int) := by unfold bodyN at c3; omega
  have w6 : IntKind.i64.wrap (6 + (((ix m 3).toNat : Nat) : Int)) = 6 + (((ix m 3).toNat : Nat) : Int) := wrap64 _ (by omega) (by omega)
  by_cases c4' : ¬ (6 + bodyN m ≤ m.length)
  · have c4 : ¬ (6 + bodyN m ≤ m.length) := c4'
    have d4 : (m.length : Int) < 6 + (((ix m 3).toNat : Nat) : Int) := by unfold bodyN at c4; omega
    refine ⟨fun h => absurd h.2.2.2.1 c4, fun _ => ⟨?X4, ?run4⟩⟩
    case run4 =>
      rw [q21]
      simp (maxDischargeDepth := 8) only [r21, b21, c21_0, c21_1, c21_2, c21_3, c21_4, c21_5, c21_6, ← hG, l1, d1, d2, d3, d4, w6, e3, x0', y0, z0, j0, x3', y3, z3, j3, kp, ip, hset, RUN, Ed, knd, kndR, resV, binInt, mnmxV, mnmx2, fillL, unV, extractV, partV, loadAt, Nat.reduceAdd, Nat.reduceBEq, Nat.reduceEqDiff, Nat.reduceLT, Nat.reduceLeDiff, Nat.reduceMul, Nat.reduceSub, reduceIte, Int.reduceEq, Int.reduceNe, Int.reduceLT, Int.reduceLE, Int.reduceAdd, Int.reduceSub, Int.reduceMul, Int.reduceNeg, Int.reduceMod, Int.reduceDiv, Int.reduceTMod, Int.reduceTDiv, Int.reduceToNat, okChain_i, okLoads_nil, okLoads_in, okLoads_eq]
      rw [hG]
  have c4 := Decidable.not_not.1 c4'
  have d4 : ¬ (m.length : Int) < 6 + (((ix m 3).toNat : Nat) : Int) := by unfold bodyN at c4; omega
  have hn : ((ix m 3).toNat : Nat) = bodyN m := rfl
  rw [hn] at d3 d4 w6 e3
  have hix : begF m = (ix m 1, ix m 2, (m.take (4 + bodyN m)).drop 4) := rfl
  have w4 : IntKind.i64.wrap (4 + ((bodyN m : Nat) : Int)) = ((4 + bodyN m : Nat) : Int) := by rw [wrap64 _ (by omega) (by omega)]; omega
  have w5 : IntKind.i64.wrap (((4 + bodyN m : Nat) : Int) + 1) = ((5 + bodyN m : Nat) : Int) := by rw [wrap64 _ (by omega) (by omega)]; omega
  have hcr : begC m ↔ crc ((m.take (4 + bodyN m)).drop 1) = word (ix m (4 + bodyN m)) (ix m (5 + bodyN m)) := ⟨fun h => h.2.2.2.2, fun h => ⟨by omega, c2, c3, c4, h⟩⟩
  obtain ⟨a4, o4, x4, ow4, ty4, cs4, y4, z4⟩ := hBG.idx (map_get (ix_get (m := m) (i := 4 + bodyN m) (by omega)))
  obtain ⟨a5, o5, x5, ow5, ty5, cs5, y5, z5⟩ := hBG.idx (map_get (ix_get (m := m) (i := 5 + bodyN m) (by omega)))
  have j4 := live_ltG y4
  have j5 := live_ltG y5
  obtain ⟨u1, es1, hb1⟩ := hBG.cut (lo := some (.int .i64 1)) (hi := some (.int .i64 ((4 + bodyN m : Nat) : Int))) (l := 1) (r := 4 + bodyN m) rfl (bound_nat _ _ _) (by omega) (by rw [List.length_map]; omega)
  obtain ⟨u2, es2, hb2⟩ := hBG.cut (lo := some (.int .i64 4)) (hi := some (.int .i64 ((4 + bodyN m : Nat) : Int))) (l := 4) (r := 4 + bodyN m) rfl (bound_nat _ _ _) (by omega) (by rw [List.length_map]; omega)
  rw [← List.map_take, ← List.map_drop] at hb1 hb2
  have ecrc := sum_f u1 ((m.take (4 + bodyN m)).drop 1) (by simp; omega) G hb1
  obtain ⟨w, F, ec, ⟨X, hX⟩, hbw⟩ := clone_f u2 (((m.take (4 + bodyN m)).drop 4).map w8) (by simp; omega) G hb2
  rw [hX] at ec hbw
  obtain ⟨v1, v2⟩ := hbw.one
  have hput := hbw.putlt (p := H.length) ip
  rw [hcr]
  have hor := word_e (ix m (4 + bodyN m)) (ix m (5 + bodyN m))
  have ee := e_eq16 (crc ((m.take (4 + bodyN m)).drop 1)) (word (ix m (4 + bodyN m)) (ix m (5 + bodyN m)))
  have e4 := e_16 (ix m (4 + bodyN m))
  have e4' := e_up2 (ix m (4 + bodyN m))
  have e5 := e_16 (ix m (5 + bodyN m))
  rw [hix]
  have hfin : G.set H.length (some ⟨true, 24, [.int .u8 (w8 (ix m 1)), .int .u8 (w8 (ix m 2)), w]⟩) ++ X = H ++ (some ⟨true, 24, [.int .u8 (w8 (ix m 1)), .int .u8 (w8 (ix m 2)), w]⟩ :: X) := by
    rw [hG, set_app_len, List.append_assoc]; rfl
  generalize hN : bodyN m = N at *
  generalize crc ((m.take (4 + N)).drop 1) = cc at *
  generalize word (ix m (4 + N)) (ix m (5 + N)) = ww at *
  by_cases c5 : cc = ww
  · have d5 : decide (w16 cc = w16 ww) = true := by rw [ee]; simpa using c5
    refine ⟨fun _ => ⟨w, ?X6, ?run6, ?bs6⟩, fun h => absurd c5 h⟩
    case run6 =>
      have e3' : IntKind.i64.wrap (w8 (ix m 3)) = (N : Int) := e3
      rw [q21]
      simp (maxDischargeDepth := 8) only [r21, b21, c21_0, c21_1, c21_2, c21_3, c21_4, c21_5, c21_6, ← hG, l1, d1, d2, d3, d4, d5, w4, w5, w6, e3', x0', y0, z0, j0, x1', y1, z1, j1, x2', y2, z2, j2, x3', y3, z3, j3, x4, y4, z4, j4, x5, y5, z5, j5, e4, e4', e5, hor, es1, es2, ecrc, ec, kp, ip, hset, v1, v2, fullOf_appG, fullOf_mapG, List.length_map, RUN, Ed, knd, kndR, resV, binInt, mnmxV, mnmx2, fillL, unV, extractV, partV, loadAt, Nat.reduceAdd, Nat.reduceBEq, Nat.reduceEqDiff, Nat.reduceLT, Nat.reduceLeDiff, Nat.reduceMul, Nat.reduceSub, reduceIte, Int.reduceEq, Int.reduceNe, Int.reduceLT, Int.reduceLE, Int.reduceAdd, Int.reduceSub, Int.reduceMul, Int.reduceNeg, Int.reduceMod, Int.reduceDiv, Int.reduceTMod, Int.reduceTDiv, Int.reduceToNat, okChain_i, okLoads_nil, okLoads_in, okLoads_eq]
      rw [hfin]
    case bs6 =>
      have := (hput (some ⟨true, 24, [.int .u8 (w8 (ix m 1)), .int .u8 (w8 (ix m 2)), w]⟩))
      rw [set_app _ _ _ _ ip, hfin] at this
      exact this.base hEG.le
  · have d5 : decide (w16 cc = w16 ww) = false := by rw [ee]; simpa using c5
    refine ⟨fun h => absurd h c5, fun _ => ⟨?X5, ?run5⟩⟩
    case run5 =>
      have e3' : IntKind.i64.wrap (w8 (ix m 3)) = (N : Int) := e3
      rw [q21]
      simp (maxDischargeDepth := 8) only [r21, b21, c21_0, c21_1, c21_2, c21_3, c21_4, c21_5, c21_6, ← hG, l1, d1, d2, d3, d4, d5, w4, w5, w6, e3', x0', y0, z0, j0, x3', y3, z3, j3, x4, y4, z4, j4, x5, y5, z5, j5, e4, e4', e5, hor, es1, ecrc, kp, ip, hset, RUN, Ed, knd, kndR, resV, binInt, mnmxV, mnmx2, fillL, unV, extractV, partV, loadAt, Nat.reduceAdd, Nat.reduceBEq, Nat.reduceEqDiff, Nat.reduceLT, Nat.reduceLeDiff, Nat.reduceMul, Nat.reduceSub, reduceIte, Int.reduceEq, Int.reduceNe, Int.reduceLT, Int.reduceLE, Int.reduceAdd, Int.reduceSub, Int.reduceMul, Int.reduceNeg, Int.reduceMod, Int.reduceDiv, Int.reduceTMod, Int.reduceTDiv, Int.reduceToNat, okChain_i, okLoads_nil, okLoads_in, okLoads_eq]
      rw [hG]
end Go.Proofs.YtoknmodbdlfdmaaDoor.Sim
