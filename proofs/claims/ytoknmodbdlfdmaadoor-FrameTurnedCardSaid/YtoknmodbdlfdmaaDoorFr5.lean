/- Bytes as frames: what the document's Split gives. -/
import Derived.Test.YtoknmodbdlfdmaaDoorFr4
import Derived.Test.YtoknmodbdlfdmaaDoorSim21
namespace Go.Proofs.YtoknmodbdlfdmaaDoor.Sim
open Go Go.Proofs.YtoknmodbdlfdmaaDoor.CrcMath
set_option linter.unusedSimpArgs false
set_option linter.unusedVariables false
theorem ix_drop (m : List B8) (k j : Nat) : ix (m.drop k) j = ix m (k + j) := by
  unfold ix
  rw [List.getD_eq_getElem?_getD, List.getD_eq_getElem?_getD, List.getElem?_drop]
theorem take_drop_k (m : List B8) (k a b : Nat) : (m.take (k + a)).drop (k + b) = ((m.drop k).take a).drop b := by
  apply List.ext_getElem?
  intro i
  rw [List.getElem?_drop, List.getElem?_take, List.getElem?_drop, List.getElem?_take, List.getElem?_drop]
  by_cases h : b + i < a
  · rw [if_pos (by omega), if_pos h, Nat.add_assoc]
  · rw [if_neg (by omega), if_neg h]
structure S11 (v w : Value) (p k : Nat) (ρ : Fr) : Prop where
  q0 : ρ 0 = v
  q4 : ρ 4 = w
  q5 : ρ 5 = .int .i64 p
  q6 : ρ 6 = .int .i64 k
theorem step11 (H : Heap) (v : Value) (m : List B8) (hl : m.length ≤ 10000) (hB : BS H v (m.map w8)) (w : Value) (p k : Nat) (hk : k < m.length) (hp : p ≤ 10000) (L : List Fra) (hL : L.length ≤ 10000) (ρ : Fr) (G : Heap) (hs : S11 v w p k ρ) (hE : Ext H G) (hm : FO H G w L) :
    (begC (m.drop k) → ∃ ρ' G' w', E Tryd.prog hints l11_0 ρ G = some (.normal, ρ', G') ∧ S11 v w' p (k + (6 + bodyN (m.drop k))) ρ' ∧ Ext H G' ∧ FO H G' w' (L ++ [begF (m.drop k)])) ∧
    (¬ begC (m.drop k) → ∃ ρ', E Tryd.prog hints l11_0 ρ G = some (.normal, ρ', G) ∧ S11 v w (p + 1) (k + 1) ρ') := by
  obtain ⟨q0, q4, q5, q6⟩ := hs
  have hBG := hB.ext hE
  have l1 := hBG.len
  rw [List.length_map] at l1
  have hlt : (k : Int) < (m.length : Int) := by omega
  have wp := wrap64 ((p : Int) + 1) (by omega) (by omega)
  have w1 : IntKind.i64.wrap ((k : Int) + 1) = ((k + 1 : Nat) : Int) := by rw [wrap64 _ (by omega) (by omega)]; omega
  have w2 : IntKind.i64.wrap ((k : Int) + 2) = ((k + 2 : Nat) : Int) := by rw [wrap64 _ (by omega) (by omega)]; omega
  have w3 : IntKind.i64.wrap ((k : Int) + 3) = ((k + 3 : Nat) : Int) := by rw [wrap64 _ (by omega) (by omega)]; omega
  have w4 : IntKind.i64.wrap ((k : Int) + 4) = ((k + 4 : Nat) : Int) := by rw [wrap64 _ (by omega) (by omega)]; omega
  obtain ⟨a0, o0, x0, ow0, ty0, cs0, y0, z0⟩ := hBG.idx (map_get (ix_get (m := m) (i := k) (by omega)))
  have j0 := live_ltG y0
  have i0 : ix (m.drop k) 0 = ix m k := ix_drop m k 0
  have i3 : ix (m.drop k) 3 = ix m (k + 3) := ix_drop m k 3
  have hN : bodyN (m.drop k) = (ix m (k + 3)).toNat := by unfold bodyN; rw [i3]
  have hdl : (m.drop k).length = m.length - k := List.length_drop
  by_cases c2' : ¬ (ix m k = 0x7e#8)
  · have d2 : decide (w8 (ix m k) = 126) = false := by rw [e_mark]; simpa using c2'
    refine ⟨fun h => absurd (i0.symm.trans h.2.1) c2', fun _ => ⟨?ρ1, ?run1, ?_, ?_, ?_, ?_⟩⟩
    case run1 =>
      simp (maxDischargeDepth := 8) only [l11_0, c11_0, c11_1, c11_2, c11_3, c11_4, c11_5, c11_6, c11_7, c11_8, c11_9, c11_10, c11_11, c11_12, c11_13, q0, q4, q5, q6, l1, hlt, x0, y0, z0, j0, d2, wp, w1, RUN, Ed, knd, kndR, resV, binInt, mnmxV, mnmx2, fillL, unV, extractV, partV, loadAt, Nat.reduceAdd, Nat.reduceBEq, Nat.reduceEqDiff, Nat.reduceLT, Nat.reduceLeDiff, Nat.reduceMul, Nat.reduceSub, reduceIte, Int.reduceEq, Int.reduceNe, Int.reduceLT, Int.reduceLE, Int.reduceAdd, Int.reduceSub, Int.reduceMul, Int.reduceNeg, Int.reduceMod, Int.reduceDiv, Int.reduceTMod, Int.reduceTDiv, Int.reduceToNat, okChain_i, okLoads_nil, okLoads_in, okLoads_eq]
      rfl
    all_goals first | (simp (maxDischargeDepth := 8) only [q0, q4, q5, q6, RUN, Ed, knd, kndR, resV, binInt, mnmxV, mnmx2, fillL, unV, lenV, extractV, partV, loadAt, Nat.reduceAdd, Nat.reduceBEq, Nat.reduceEqDiff, Nat.reduceLT, Nat.reduceLeDiff, Nat.reduceMul, Nat.reduceSub, reduceIte, Int.reduceEq, Int.reduceNe, Int.reduceLT, Int.reduceLE, Int.reduceAdd, Int.reduceSub, Int.reduceMul, Int.reduceNeg, Int.reduceMod, Int.reduceDiv, Int.reduceTMod, Int.reduceTDiv, Int.reduceToNat, okChain_i, okLoads_nil, okLoads_in, okLoads_eq]; done) | (simp (maxDischargeDepth := 8) only [q0, q4, q5, q6, RUN, Ed, knd, kndR, resV, binInt, mnmxV, mnmx2, fillL, unV, lenV, extractV, partV, loadAt, Nat.reduceAdd, Nat.reduceBEq, Nat.reduceEqDiff, Nat.reduceLT, Nat.reduceLeDiff, Nat.reduceMul, Nat.reduceSub, reduceIte, Int.reduceEq, Int.reduceNe, Int.reduceLT, Int.reduceLE, Int.reduceAdd, Int.reduceSub, Int.reduceMul, Int.reduceNeg, Int.reduceMod, Int.reduceDiv, Int.reduceTMod, Int.reduceTDiv, Int.reduceToNat, okChain_i, okLoads_nil, okLoads_in, okLoads_eq]; rfl)
  have c2 := Decidable.not_not.1 c2'
  have d2 : decide (w8 (ix m k) = 126) = true := by rw [e_mark]; simpa using c2
  by_cases c0' : ¬ (k + 4 ≤ m.length)
  · have d0 : ¬ (((k + 4 : Nat) : Int) ≤ (m.length : Int)) := by omega
    refine ⟨fun h => absurd h.1 (by omega), fun _ => ⟨?ρ2, ?run2, ?_, ?_, ?_, ?_⟩⟩
    case run2 =>
      simp (maxDischargeDepth := 8) only [l11_0, c11_0, c11_1, c11_2, c11_3, c11_4, c11_5, c11_6, c11_7, c11_8, c11_9, c11_10, c11_11, c11_12, c11_13, q0, q4, q5, q6, l1, hlt, x0, y0, z0, j0, d2, d0, wp, w1, w4, RUN, Ed, knd, kndR, resV, binInt, mnmxV, mnmx2, fillL, unV, extractV, partV, loadAt, Nat.reduceAdd, Nat.reduceBEq, Nat.reduceEqDiff, Nat.reduceLT, Nat.reduceLeDiff, Nat.reduceMul, Nat.reduceSub, reduceIte, Int.reduceEq, Int.reduceNe, Int.reduceLT, Int.reduceLE, Int.reduceAdd, Int.reduceSub, Int.reduceMul, Int.reduceNeg, Int.reduceMod, Int.reduceDiv, Int.reduceTMod, Int.reduceTDiv, Int.reduceToNat, okChain_i, okLoads_nil, okLoads_in, okLoads_eq]
      rfl
    all_goals first | (simp (maxDischargeDepth := 8) only [q0, q4, q5, q6, RUN, Ed, knd, kndR, resV, binInt, mnmxV, mnmx2, fillL, unV, lenV, extractV, partV, loadAt, Nat.reduceAdd, Nat.reduceBEq, Nat.reduceEqDiff, Nat.reduceLT, Nat.reduceLeDiff, Nat.reduceMul, Nat.reduceSub, reduceIte, Int.reduceEq, Int.reduceNe, Int.reduceLT, Int.reduceLE, Int.reduceAdd, Int.reduceSub, Int.reduceMul, Int.reduceNeg, Int.reduceMod, Int.reduceDiv, Int.reduceTMod, Int.reduceTDiv, Int.reduceToNat, okChain_i, okLoads_nil, okLoads_in, okLoads_eq]; done) | (simp (maxDischargeDepth := 8) only [q0, q4, q5, q6, RUN, Ed, knd, kndR, resV, binInt, mnmxV, mnmx2, fillL, unV, lenV, extractV, partV, loadAt, Nat.reduceAdd, Nat.reduceBEq, Nat.reduceEqDiff, Nat.reduceLT, Nat.reduceLeDiff, Nat.reduceMul, Nat.reduceSub, reduceIte, Int.reduceEq, Int.reduceNe, Int.reduceLT, Int.reduceLE, Int.reduceAdd, Int.reduceSub, Int.reduceMul, Int.reduceNeg, Int.reduceMod, Int.reduceDiv, Int.reduceTMod, Int.reduceTDiv, Int.reduceToNat, okChain_i, okLoads_nil, okLoads_in, okLoads_eq]; rfl)
  have c0 := Decidable.not_not.1 c0'
  have d0 : ((k + 4 : Nat) : Int) ≤ (m.length : Int) := by omega
  obtain ⟨a3, o3, x3, ow3, ty3, cs3, y3, z3⟩ := hBG.idx (map_get (ix_get (m := m) (i := k + 3) (by omega)))
  have j3 := live_ltG y3
  have e3 := e_64 (ix m (k + 3))
  rw [← hN] at e3
  generalize hNN : bodyN (m.drop k) = N at *
  by_cases c3' : ¬ (N ≤ 32)
  · have d3 : ¬ ((N : Int) ≤ 32) := by omega
    refine ⟨fun h => absurd h.2.2.1 (by omega), fun _ => ⟨?ρ3, ?run3, ?_, ?_, ?_, ?_⟩⟩
    case run3 =>
      simp (maxDischargeDepth := 8) only [l11_0, c11_0, c11_1, c11_2, c11_3, c11_4, c11_5, c11_6, c11_7, c11_8, c11_9, c11_10, c11_11, c11_12, c11_13, q0, q4, q5, q6, l1, hlt, x0, y0, z0, j0, x3, y3, z3, j3, e3, d2, d0, d3, wp, w1, w3, w4, RUN, Ed, knd, kndR, resV, binInt, mnmxV, mnmx2, fillL, unV, extractV, partV, loadAt, Nat.reduceAdd, Nat.reduceBEq, Nat.reduceEqDiff, Nat.reduceLT, Nat.reduceLeDiff, Nat.reduceMul, Nat.reduceSub, reduceIte, Int.reduceEq, Int.reduceNe, Int.reduceLT, Int.reduceLE, Int.reduceAdd, Int.reduceSub, Int.reduceMul, Int.reduceNeg, Int.reduceMod, Int.reduceDiv, Int.reduceTMod, Int.reduceTDiv, Int.reduceToNat, okChain_i, okLoads_nil, okLoads_in, okLoads_eq]
      rfl
    all_goals first | (simp (maxDischargeDepth := 8) only [q0, q4, q5, q6, RUN, Ed, knd, kndR, resV, binInt, mnmxV, mnmx2, fillL, unV, lenV, extractV, partV, loadAt, Nat.reduceAdd, Nat.reduceBEq, Nat.reduceEqDiff, Nat.reduceLT, Nat.reduceLeDiff, Nat.reduceMul, Nat.reduceSub, reduceIte, Int.reduceEq, Int.reduceNe, Int.reduceLT, Int.reduceLE, Int.reduceAdd, Int.reduceSub, Int.reduceMul, Int.reduceNeg, Int.reduceMod, Int.reduceDiv, Int.reduceTMod, Int.reduceTDiv, Int.reduceToNat, okChain_i, okLoads_nil, okLoads_in, okLoads_eq]; done) | (simp (maxDischargeDepth := 8) only [q0, q4, q5, q6, RUN, Ed, knd, kndR, resV, binInt, mnmxV, mnmx2, fillL, unV, lenV, extractV, partV, loadAt, Nat.reduceAdd, Nat.reduceBEq, Nat.reduceEqDiff, Nat.reduceLT, Nat.reduceLeDiff, Nat.reduceMul, Nat.reduceSub, reduceIte, Int.reduceEq, Int.reduceNe, Int.reduceLT, Int.reduceLE, Int.reduceAdd, Int.reduceSub, Int.reduceMul, Int.reduceNeg, Int.reduceMod, Int.reduceDiv, Int.reduceTMod, Int.reduceTDiv, Int.reduceToNat, okChain_i, okLoads_nil, okLoads_in, okLoads_eq]; rfl)
  have c3 := Decidable.not_not.1 c3'
  have d3 : (N : Int) ≤ 32 := by omega
  have wn : IntKind.i64.wrap ((N : Int) + 6) = ((N + 6 : Nat) : Int) := by rw [wrap64 _ (by omega) (by omega)]; omega
  have wkn : IntKind.i64.wrap ((k : Int) + ((N + 6 : Nat) : Int)) = ((k + (6 + N) : Nat) : Int) := by rw [wrap64 _ (by omega) (by omega)]; omega
  have wkn2 : IntKind.i64.wrap (((k + (6 + N) : Nat) : Int) - 2) = ((k + (4 + N) : Nat) : Int) := by rw [wrap64 _ (by omega) (by omega)]; omega
  have wkn1 : IntKind.i64.wrap (((k + (6 + N) : Nat) : Int) - 1) = ((k + (5 + N) : Nat) : Int) := by rw [wrap64 _ (by omega) (by omega)]; omega
  have dn : (0 : Int) < ((N + 6 : Nat) : Int) := by omega
  by_cases c4' : ¬ (k + (6 + N) ≤ m.length)
  · have d4 : ¬ (((k + (6 + N) : Nat) : Int) ≤ (m.length : Int)) := by omega
    refine ⟨fun h => absurd h.2.2.2.1 (by omega), fun _ => ⟨?ρ4, ?run4, ?_, ?_, ?_, ?_⟩⟩
    case run4 =>
      simp (maxDischargeDepth := 8) only [l11_0, c11_0, c11_1, c11_2, c11_3, c11_4, c11_5, c11_6, c11_7, c11_8, c11_9, c11_10, c11_11, c11_12, c11_13, q0, q4, q5, q6, l1, hlt, x0, y0, z0, j0, x3, y3, z3, j3, e3, d2, d0, d3, d4, dn, wn, wkn, wp, w1, w3, w4, RUN, Ed, knd, kndR, resV, binInt, mnmxV, mnmx2, fillL, unV, extractV, partV, loadAt, Nat.reduceAdd, Nat.reduceBEq, Nat.reduceEqDiff, Nat.reduceLT, Nat.reduceLeDiff, Nat.reduceMul, Nat.reduceSub, reduceIte, Int.reduceEq, Int.reduceNe, Int.reduceLT, Int.reduceLE, Int.reduceAdd, Int.reduceSub, Int.reduceMul, Int.reduceNeg, Int.reduceMod, Int.reduceDiv, Int.reduceTMod, Int.reduceTDiv, Int.reduceToNat, okChain_i, okLoads_nil, okLoads_in, okLoads_eq]
      rfl
    all_goals first | (simp (maxDischargeDepth := 8) only [q0, q4, q5, q6, RUN, Ed, knd, kndR, resV, binInt, mnmxV, mnmx2, fillL, unV, lenV, extractV, partV, loadAt, Nat.reduceAdd, Nat.reduceBEq, Nat.reduceEqDiff, Nat.reduceLT, Nat.reduceLeDiff, Nat.reduceMul, Nat.reduceSub, reduceIte, Int.reduceEq, Int.reduceNe, Int.reduceLT, Int.reduceLE, Int.reduceAdd, Int.reduceSub, Int.reduceMul, Int.reduceNeg, Int.reduceMod, Int.reduceDiv, Int.reduceTMod, Int.reduceTDiv, Int.reduceToNat, okChain_i, okLoads_nil, okLoads_in, okLoads_eq]; done) | (simp (maxDischargeDepth := 8) only [q0, q4, q5, q6, RUN, Ed, knd, kndR, resV, binInt, mnmxV, mnmx2, fillL, unV, lenV, extractV, partV, loadAt, Nat.reduceAdd, Nat.reduceBEq, Nat.reduceEqDiff, Nat.reduceLT, Nat.reduceLeDiff, Nat.reduceMul, Nat.reduceSub, reduceIte, Int.reduceEq, Int.reduceNe, Int.reduceLT, Int.reduceLE, Int.reduceAdd, Int.reduceSub, Int.reduceMul, Int.reduceNeg, Int.reduceMod, Int.reduceDiv, Int.reduceTMod, Int.reduceTDiv, Int.reduceToNat, okChain_i, okLoads_nil, okLoads_in, okLoads_eq]; rfl)
  have c4 := Decidable.not_not.1 c4'
  have d4 : ((k + (6 + N) : Nat) : Int) ≤ (m.length : Int) := by omega
  obtain ⟨a4, o4, x4, ow4, ty4, cs4, y4, z4⟩ := hBG.idx (map_get (ix_get (m := m) (i := k + (4 + N)) (by omega)))
  obtain ⟨a5, o5, x5, ow5, ty5, cs5, y5, z5⟩ := hBG.idx (map_get (ix_get (m := m) (i := k + (5 + N)) (by omega)))
  obtain ⟨a1, o1, x1, ow1, ty1, cs1, y1, z1⟩ := hBG.idx (map_get (ix_get (m := m) (i := k + 1) (by omega)))
  obtain ⟨a2, o2, x2, ow2, ty2, cs2, y2, z2⟩ := hBG.idx (map_get (ix_get (m := m) (i := k + 2) (by omega)))
  have j4 := live_ltG y4
  have j5 := live_ltG y5
  have j1 := live_ltG y1
  have j2 := live_ltG y2
  obtain ⟨u1, es1, hb1⟩ := hBG.cut (lo := some (.int .i64 ((k + 1 : Nat) : Int))) (hi := some (.int .i64 ((k + (4 + N) : Nat) : Int))) (l := k + 1) (r := k + (4 + N)) (bound_nat _ _ _) (bound_nat _ _ _) (by omega) (by rw [List.length_map]; omega)
  obtain ⟨u2, es2, hb2⟩ := hBG.cut (lo := some (.int .i64 ((k + 4 : Nat) : Int))) (hi := some (.int .i64 ((k + (4 + N) : Nat) : Int))) (l := k + 4) (r := k + (4 + N)) (bound_nat _ _ _) (bound_nat _ _ _) (by omega) (by rw [List.length_map]; omega)
  rw [← List.map_take, ← List.map_drop, take_drop_k] at hb1 hb2
  have ecrc := sum2_f u1 (((m.drop k).take (4 + N)).drop 1) (by simp; omega) G hb1
  obtain ⟨X, c, ec, hc1, hc2⟩ := bytes_f G u2 ((((m.drop k).take (4 + N)).drop 4).map w8) hb2 (by simp; omega)
  have hor := word_e (ix m (k + (4 + N))) (ix m (k + (5 + N)))
  have ee := e_eq16 (crc (((m.drop k).take (4 + N)).drop 1)) (word (ix m (k + (4 + N))) (ix m (k + (5 + N))))
  have e4 := e_16 (ix m (k + (4 + N)))
  have e4' := e_up2 (ix m (k + (4 + N)))
  have e5 := e_16 (ix m (k + (5 + N)))
  have hcr : begC (m.drop k) ↔ crc (((m.drop k).take (4 + N)).drop 1) = word (ix m (k + (4 + N))) (ix m (k + (5 + N))) := by
    unfold begC
    rw [hNN, i0, ix_drop, ix_drop]
    exact ⟨fun h => h.2.2.2.2, fun h => ⟨by omega, c2, c3, by omega, h⟩⟩
  have hF : begF (m.drop k) = (ix m (k + 1), ix m (k + 2), ((m.drop k).take (4 + N)).drop 4) := by
    unfold begF
    rw [hNN, ix_drop, ix_drop]
  rw [hcr, hF]
  generalize crc (((m.drop k).take (4 + N)).drop 1) = cc at *
  generalize word (ix m (k + (4 + N))) (ix m (k + (5 + N))) = ww at *
  generalize hbody : ((m.drop k).take (4 + N)).drop 4 = body at *
  by_cases c5 : cc = ww
  · have d5 : decide (w16 cc = w16 ww) = true := by rw [ee]; simpa using c5
    obtain ⟨cells, hsm, hfc⟩ := hm
    generalize hv2 : Value.slice (some ⟨c, 0, none⟩) (body.map w8).length 1 = v2 at *
    have hsm2 : SM 5 1 G (G ++ X) v2 (body.map w8).length (bL (body.map w8)) := .inr ⟨c, hc1, hv2.symm, hc2, by rw [bL_len]; omega⟩
    obtain ⟨o1v, o2v⟩ := hsm2.one
    have hEx : Ext (G ++ X) (G ++ (X ++ [some ⟨true, 24, frL (ix m (k + 1), ix m (k + 2), body) v2⟩])) := by rw [← List.append_assoc]; exact Ext.more _ _
    have hj : live (G ++ (X ++ [some ⟨true, 24, frL (ix m (k + 1), ix m (k + 2), body) v2⟩])) (G.length + X.length) = some ⟨true, 24, frL (ix m (k + 1), ix m (k + 2), body) v2⟩ := by
      rw [live_app_add, live_app_len]; rfl
    have hall : (frL (ix m (k + 1), ix m (k + 2), body) v2).all Value.oneCell' = true := by simp only [frL, List.all_cons, List.all_nil, o1v, one_int, Bool.and_true]
    obtain ⟨w', F', ea, hm', he', hk', _, _⟩ := hsm.append (bytes := 32) hE (Ext.more G _) (m := 1) (e := 3) hj (by omega) rfl (by omega) hall
    have hkq := hsm.kp (Ext.more G _) hk'
    have hbw := (hsm2.BW.keep (Kq.ext hEx)).keep hkq
    have hfo : FO H F' w' (L ++ [(ix m (k + 1), ix m (k + 2), body)]) := ⟨cells ++ frL (ix m (k + 1), ix m (k + 2), body) v2, by rw [List.length_append]; exact hm', FCs.add ⟨v2, rfl, hbw⟩ _ _ (FCs.keep ((Kq.ext (Ext.more G _)).trans hkq) _ _ hfc)⟩
    simp only [frL] at ea
    refine ⟨fun _ => ⟨?ρ6, F', w', ?run6, ⟨?_, ?_, ?_, ?_⟩, he', hfo⟩, fun h => absurd c5 h⟩
    case run6 =>
      simp (maxDischargeDepth := 8) only [l11_0, c11_0, c11_1, c11_2, c11_3, c11_4, c11_5, c11_6, c11_7, c11_8, c11_9, c11_10, c11_11, c11_12, c11_13, q0, q4, q5, q6, l1, hlt, x0, y0, z0, j0, x1, y1, z1, j1, x2, y2, z2, j2, x3, y3, z3, j3, x4, y4, z4, j4, x5, y5, z5, j5, e3, e4, e4', e5, hor, es1, es2, ecrc, ec, ea, o1v, o2v, d2, d0, d3, d4, d5, dn, wn, wkn, wkn1, wkn2, wp, w1, w2, w3, w4, fullOf_appG, fullOf_mapG, List.length_map, RUN, Ed, knd, kndR, resV, binInt, mnmxV, mnmx2, fillL, unV, extractV, partV, loadAt, Nat.reduceAdd, Nat.reduceBEq, Nat.reduceEqDiff, Nat.reduceLT, Nat.reduceLeDiff, Nat.reduceMul, Nat.reduceSub, reduceIte, Int.reduceEq, Int.reduceNe, Int.reduceLT, Int.reduceLE, Int.reduceAdd, Int.reduceSub, Int.reduceMul, Int.reduceNeg, Int.reduceMod, Int.reduceDiv, Int.reduceTMod, Int.reduceTDiv, Int.reduceToNat, okChain_i, okLoads_nil, okLoads_in, okLoads_eq]
      rfl
    all_goals first | (simp (maxDischargeDepth := 8) only [q0, q4, q5, q6, RUN, Ed, knd, kndR, resV, binInt, mnmxV, mnmx2, fillL, unV, lenV, extractV, partV, loadAt, Nat.reduceAdd, Nat.reduceBEq, Nat.reduceEqDiff, Nat.reduceLT, Nat.reduceLeDiff, Nat.reduceMul, Nat.reduceSub, reduceIte, Int.reduceEq, Int.reduceNe, Int.reduceLT, Int.reduceLE, Int.reduceAdd, Int.reduceSub, Int.reduceMul, Int.reduceNeg, Int.reduceMod, Int.reduceDiv, Int.reduceTMod, Int.reduceTDiv, Int.reduceToNat, okChain_i, okLoads_nil, okLoads_in, okLoads_eq]; done) | (simp (maxDischargeDepth := 8) only [q0, q4, q5, q6, RUN, Ed, knd, kndR, resV, binInt, mnmxV, mnmx2, fillL, unV, lenV, extractV, partV, loadAt, Nat.reduceAdd, Nat.reduceBEq, Nat.reduceEqDiff, Nat.reduceLT, Nat.reduceLeDiff, Nat.reduceMul, Nat.reduceSub, reduceIte, Int.reduceEq, Int.reduceNe, Int.reduceLT, Int.reduceLE, Int.reduceAdd, Int.reduceSub, Int.reduceMul, Int.reduceNeg, Int.reduceMod, Int.reduceDiv, Int.reduceTMod, Int.reduceTDiv, Int.reduceToNat, okChain_i, okLoads_nil, okLoads_in, okLoads_eq]; rfl)
  · have d5 : decide (w16 cc = w16 ww) = false := by rw [ee]; simpa using c5
    refine ⟨fun h => absurd h c5, fun _ => ⟨?ρ5, ?run5, ?_, ?_, ?_, ?_⟩⟩
    case run5 =>
      simp (maxDischargeDepth := 8) only [l11_0, c11_0, c11_1, c11_2, c11_3, c11_4, c11_5, c11_6, c11_7, c11_8, c11_9, c11_10, c11_11, c11_12, c11_13, q0, q4, q5, q6, l1, hlt, x0, y0, z0, j0, x3, y3, z3, j3, x4, y4, z4, j4, x5, y5, z5, j5, e3, e4, e4', e5, hor, es1, ecrc, d2, d0, d3, d4, d5, dn, wn, wkn, wkn1, wkn2, wp, w1, w3, w4, RUN, Ed, knd, kndR, resV, binInt, mnmxV, mnmx2, fillL, unV, extractV, partV, loadAt, Nat.reduceAdd, Nat.reduceBEq, Nat.reduceEqDiff, Nat.reduceLT, Nat.reduceLeDiff, Nat.reduceMul, Nat.reduceSub, reduceIte, Int.reduceEq, Int.reduceNe, Int.reduceLT, Int.reduceLE, Int.reduceAdd, Int.reduceSub, Int.reduceMul, Int.reduceNeg, Int.reduceMod, Int.reduceDiv, Int.reduceTMod, Int.reduceTDiv, Int.reduceToNat, okChain_i, okLoads_nil, okLoads_in, okLoads_eq]
      rfl
    all_goals first | (simp (maxDischargeDepth := 8) only [q0, q4, q5, q6, RUN, Ed, knd, kndR, resV, binInt, mnmxV, mnmx2, fillL, unV, lenV, extractV, partV, loadAt, Nat.reduceAdd, Nat.reduceBEq, Nat.reduceEqDiff, Nat.reduceLT, Nat.reduceLeDiff, Nat.reduceMul, Nat.reduceSub, reduceIte, Int.reduceEq, Int.reduceNe, Int.reduceLT, Int.reduceLE, Int.reduceAdd, Int.reduceSub, Int.reduceMul, Int.reduceNeg, Int.reduceMod, Int.reduceDiv, Int.reduceTMod, Int.reduceTDiv, Int.reduceToNat, okChain_i, okLoads_nil, okLoads_in, okLoads_eq]; done) | (simp (maxDischargeDepth := 8) only [q0, q4, q5, q6, RUN, Ed, knd, kndR, resV, binInt, mnmxV, mnmx2, fillL, unV, lenV, extractV, partV, loadAt, Nat.reduceAdd, Nat.reduceBEq, Nat.reduceEqDiff, Nat.reduceLT, Nat.reduceLeDiff, Nat.reduceMul, Nat.reduceSub, reduceIte, Int.reduceEq, Int.reduceNe, Int.reduceLT, Int.reduceLE, Int.reduceAdd, Int.reduceSub, Int.reduceMul, Int.reduceNeg, Int.reduceMod, Int.reduceDiv, Int.reduceTMod, Int.reduceTDiv, Int.reduceToNat, okChain_i, okLoads_nil, okLoads_in, okLoads_eq]; rfl)
theorem loop11 (H : Heap) (v : Value) (m : List B8) (hl : m.length ≤ 1000) (hB : BS H v (m.map w8)) : ∀ (d k : Nat), k + d = m.length → ∀ (w : Value) (p : Nat) (L : List Fra) (ρ : Fr) (G : Heap), p ≤ k → L.length ≤ k → S11 v w p k ρ → Ext H G → FO H G w L →
    ∃ ρ' G' w', E Tryd.prog hints (.loop l11_0) ρ G = some (.exit 0, ρ', G') ∧ ρ' 4 = w' ∧ ρ' 5 = .int .i64 (p + (splitP (m.drop k)).2 : Nat) ∧ Ext H G' ∧ FO H G' w' (L ++ (splitP (m.drop k)).1) := by
  intro d
  induction d using Nat.strongRecOn with
  | _ d ih =>
    intro k hkd w p L ρ G hp hL hs hE hm
    by_cases hk : k < m.length
    · obtain ⟨s1, s2⟩ := step11 H v m (by omega) hB w p k hk (by omega) L (by omega) ρ G hs hE hm
      by_cases hbeg : begC (m.drop k)
      · obtain ⟨ρ1, G1, w1, e1, hs1, hE1, hm1⟩ := s1 hbeg
        have h6 := hbeg.2.2.2.1
        rw [List.length_drop] at h6
        rw [El, e1, andThen_n]
        obtain ⟨ρ2, G2, w2, e2, y2, y3, hE2, hm2⟩ := ih (d - (6 + bodyN (m.drop k))) (by omega) (k + (6 + bodyN (m.drop k))) (by omega) w1 p _ ρ1 G1 (by omega) (by simp; omega) hs1 hE1 hm1
        rw [splitP_beg hbeg, List.drop_drop]
        refine ⟨ρ2, G2, w2, e2, y2, y3, hE2, ?_⟩
        simpa using hm2
      · obtain ⟨ρ1, e1, hs1⟩ := s2 hbeg
        rw [El, e1, andThen_n]
        obtain ⟨ρ2, G2, w2, e2, y2, y3, hE2, hm2⟩ := ih (d - 1) (by omega) (k + 1) (by omega) w (p + 1) L ρ1 G (by omega) (by omega) hs1 hE hm
        have hne : m.drop k ≠ [] := by
          intro e
          have := congrArg List.length e
          rw [List.length_drop] at this; simp at this; omega
        rw [splitP_not hbeg hne, List.drop_drop]
        refine ⟨ρ2, G2, w2, e2, y2, ?_, hE2, hm2⟩
        rw [y3]; congr 1; simp only; omega
    · have hkl : k = m.length := by omega
      subst hkl
      obtain ⟨q0, q4, q5, q6⟩ := hs
      have l1 := (hB.ext hE).len
      rw [List.length_map] at l1
      have hd : ¬ ((m.length : Int) < (m.length : Int)) := by omega
      rw [List.drop_length, splitP_nil]
      refine ⟨?ρ9, G, w, ?run9, ?_, ?_, hE, by simpa using hm⟩
      case run9 =>
        rw [El]
        simp (maxDischargeDepth := 8) only [l11_0, c11_0, c11_1, c11_2, c11_3, c11_4, c11_5, c11_6, c11_7, c11_8, c11_9, c11_10, c11_11, c11_12, c11_13, q0, q4, q5, q6, l1, hd, RUN, Ed, knd, kndR, resV, binInt, mnmxV, mnmx2, fillL, unV, extractV, partV, loadAt, Nat.reduceAdd, Nat.reduceBEq, Nat.reduceEqDiff, Nat.reduceLT, Nat.reduceLeDiff, Nat.reduceMul, Nat.reduceSub, reduceIte, Int.reduceEq, Int.reduceNe, Int.reduceLT, Int.reduceLE, Int.reduceAdd, Int.reduceSub, Int.reduceMul, Int.reduceNeg, Int.reduceMod, Int.reduceDiv, Int.reduceTMod, Int.reduceTDiv, Int.reduceToNat, okChain_i, okLoads_nil, okLoads_in, okLoads_eq]
        rfl
      all_goals first | (simp (maxDischargeDepth := 8) only [q0, q4, q5, q6, RUN, Ed, knd, kndR, resV, binInt, mnmxV, mnmx2, fillL, unV, lenV, extractV, partV, loadAt, Nat.reduceAdd, Nat.reduceBEq, Nat.reduceEqDiff, Nat.reduceLT, Nat.reduceLeDiff, Nat.reduceMul, Nat.reduceSub, reduceIte, Int.reduceEq, Int.reduceNe, Int.reduceLT, Int.reduceLE, Int.reduceAdd, Int.reduceSub, Int.reduceMul, Int.reduceNeg, Int.reduceMod, Int.reduceDiv, Int.reduceTMod, Int.reduceTDiv, Int.reduceToNat, okChain_i, okLoads_nil, okLoads_in, okLoads_eq]; done) | (simp (maxDischargeDepth := 8) only [q0, q4, q5, q6, RUN, Ed, knd, kndR, resV, binInt, mnmxV, mnmx2, fillL, unV, lenV, extractV, partV, loadAt, Nat.reduceAdd, Nat.reduceBEq, Nat.reduceEqDiff, Nat.reduceLT, Nat.reduceLeDiff, Nat.reduceMul, Nat.reduceSub, reduceIte, Int.reduceEq, Int.reduceNe, Int.reduceLT, Int.reduceLE, Int.reduceAdd, Int.reduceSub, Int.reduceMul, Int.reduceNeg, Int.reduceMod, Int.reduceDiv, Int.reduceTMod, Int.reduceTDiv, Int.reduceToNat, okChain_i, okLoads_nil, okLoads_in, okLoads_eq]; rfl)
theorem split2_f (H : Heap) (v : Value) (m : List B8) (hl : m.length ≤ 1000) (hB : BS H v (m.map w8)) :
    ∃ w F, D Tryd.prog hints 11 [v] H = some (.tuple ⟨[w, .int .i64 ((splitP m).2 : Nat)]⟩, F) ∧ Ext H F ∧ FO H F w (splitP m).1 := by
  have key : ∀ ρ, S11 v (.slice none 0 0) 0 0 ρ → ∃ w F, done [.tmp 2, .tmp 3] (andThen (blk 0 (E Tryd.prog hints (.loop l11_0) ρ H)) (E Tryd.prog hints (.seq (.region c11_13) .ret))) = some (.tuple ⟨[w, .int .i64 ((splitP m).2 : Nat)]⟩, F) ∧ Ext H F ∧ FO H F w (splitP m).1 := by
    intro ρ hs
    obtain ⟨ρ', G', w', e, y4, y5, hE, hm⟩ := loop11 H v m hl hB m.length 0 (by omega) _ 0 [] ρ H (by omega) (by simp) hs (Ext.refl H) (FO.nil _ _)
    simp only [List.drop_zero, List.nil_append, Nat.zero_add] at y5 hm
    refine ⟨w', G', ?_, hE, hm⟩
    rw [e]
    simp (maxDischargeDepth := 8) only [c11_13, y4, y5, RUN, Ed, knd, kndR, resV, binInt, mnmxV, mnmx2, fillL, unV, lenV, extractV, partV, loadAt, Nat.reduceAdd, Nat.reduceBEq, Nat.reduceEqDiff, Nat.reduceLT, Nat.reduceLeDiff, Nat.reduceMul, Nat.reduceSub, reduceIte, Int.reduceEq, Int.reduceNe, Int.reduceLT, Int.reduceLE, Int.reduceAdd, Int.reduceSub, Int.reduceMul, Int.reduceNeg, Int.reduceMod, Int.reduceDiv, Int.reduceTMod, Int.reduceTDiv, Int.reduceToNat, okChain_i, okLoads_nil, okLoads_in, okLoads_eq]
  rw [D_eq p11 _ _ (Nat.le_of_ble_eq_true rfl)]
  simp (maxDischargeDepth := 8) only [r11, b11, c11_0, c11_1, c11_2, c11_3, RUN, Ed, knd, kndR, resV, binInt, mnmxV, mnmx2, fillL, unV, lenV, extractV, partV, loadAt, Nat.reduceAdd, Nat.reduceBEq, Nat.reduceEqDiff, Nat.reduceLT, Nat.reduceLeDiff, Nat.reduceMul, Nat.reduceSub, reduceIte, Int.reduceEq, Int.reduceNe, Int.reduceLT, Int.reduceLE, Int.reduceAdd, Int.reduceSub, Int.reduceMul, Int.reduceNeg, Int.reduceMod, Int.reduceDiv, Int.reduceTMod, Int.reduceTDiv, Int.reduceToNat, okChain_i, okLoads_nil, okLoads_in, okLoads_eq]
  refine key _ ⟨?_, ?_, ?_, ?_⟩
  all_goals first | (simp (maxDischargeDepth := 8) only [RUN, Ed, knd, kndR, resV, binInt, mnmxV, mnmx2, fillL, unV, lenV, extractV, partV, loadAt, Nat.reduceAdd, Nat.reduceBEq, Nat.reduceEqDiff, Nat.reduceLT, Nat.reduceLeDiff, Nat.reduceMul, Nat.reduceSub, reduceIte, Int.reduceEq, Int.reduceNe, Int.reduceLT, Int.reduceLE, Int.reduceAdd, Int.reduceSub, Int.reduceMul, Int.reduceNeg, Int.reduceMod, Int.reduceDiv, Int.reduceTMod, Int.reduceTDiv, Int.reduceToNat, okChain_i, okLoads_nil, okLoads_in, okLoads_eq]; done) | (simp (maxDischargeDepth := 8) only [RUN, Ed, knd, kndR, resV, binInt, mnmxV, mnmx2, fillL, unV, lenV, extractV, partV, loadAt, Nat.reduceAdd, Nat.reduceBEq, Nat.reduceEqDiff, Nat.reduceLT, Nat.reduceLeDiff, Nat.reduceMul, Nat.reduceSub, reduceIte, Int.reduceEq, Int.reduceNe, Int.reduceLT, Int.reduceLE, Int.reduceAdd, Int.reduceSub, Int.reduceMul, Int.reduceNeg, Int.reduceMod, Int.reduceDiv, Int.reduceTMod, Int.reduceTDiv, Int.reduceToNat, okChain_i, okLoads_nil, okLoads_in, okLoads_eq]; rfl)
end Go.Proofs.YtoknmodbdlfdmaaDoor.Sim
