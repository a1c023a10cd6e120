/- The stage theorem of configurations. -/
import Derived.Test.YtceildmghmigaaaDoorCon17
import Derived.Test.YtceildmghmigaaaDoorSim21
namespace Go.Proofs.YtceildmghmigaaaDoor.Sim
open Go
set_option linter.unusedSimpArgs false
set_option linter.unusedVariables false
theorem PS.old {H G : Heap} {v : Value} {l : List Pt} (h : PS H v l) (o : ∀ (j : Nat) (b : Blk), live H j = some b → live G j = some b) : PS G v l := by
  rcases h with h | ⟨i, e', ow, ty, cells, h1, h2, h3⟩
  · exact .inl h
  · exact .inr ⟨i, e', ow, ty, cells, h1, o _ _ h2, h3⟩
theorem FS.old {H G : Heap} {v : Value} {l : List Fd} (h : FS H v l) (o : ∀ (j : Nat) (b : Blk), live H j = some b → live G j = some b) : FS G v l := by
  rcases h with h | ⟨i, e', ow, ty, h1, h2⟩
  · exact .inl h
  · exact .inr ⟨i, e', ow, ty, h1, o _ _ h2⟩
set_option maxRecDepth 100000 in
theorem boot2_f (c : Cf) (hk : c.ok) (h1 : 1 ≤ c.b ∧ c.b ≤ 200) (h2 : 1 ≤ c.s ∧ c.s ≤ 200) (H : Heap) : D Tryd.prog hints 16 [.agg ⟨c.L⟩] H = some (.int .i64 (c.b + c.s), H ++ [some ⟨true, 26, c.L⟩]) := by
  have w := wrap64 (c.b + c.s) (by omega) (by omega)
  obtain ⟨o1, o2, f1, f2⟩ := hk
  obtain ⟨d, b, s, p, h, cap, qmin, imax, trip, vmin, vdark, cmin, cmax, cgap, tmax, coil, ohm, sag, amp, drift, o, gen, bat, ext, eland, margin, f⟩ := c
  simp only at o1 o2 f1 f2 w
  rw [D_eq p16 _ _ (Nat.le_of_ble_eq_true rfl)]
  simp (maxDischargeDepth := 8) only [r16, b16, c16_0, c16_1, Cf.L, o1, o2, f1, f2, w, RUN, Ed, knd, kndR, resV, binInt, mnmxV, mnmx2, fillL, unV, lenV, extractV, partV, loadAt, Nat.reduceAdd, Nat.reduceBEq, Nat.reduceEqDiff, Nat.reduceLT, Nat.reduceLeDiff, Nat.reduceMul, Nat.reduceSub, reduceIte, Int.reduceEq, Int.reduceNe, Int.reduceLT, Int.reduceLE, Int.reduceAdd, Int.reduceSub, Int.reduceMul, Int.reduceNeg, Int.reduceMod, Int.reduceDiv, Int.reduceTMod, Int.reduceTDiv, Int.reduceToNat, okChain_i, okLoads_nil, okLoads_in, okLoads_eq]
set_option maxRecDepth 100000 in
theorem bound2_f (c : Cf) (hk : c.ok) (h0 : 1 ≤ c.d ∧ c.d ≤ 200) (h1 : 1 ≤ c.b ∧ c.b ≤ 200) (h2 : 1 ≤ c.s ∧ c.s ≤ 200) (H : Heap) : ∃ X, D Tryd.prog hints 18 [.agg ⟨c.L⟩] H = some (.int .i64 (bndV c), H ++ X) := by
  have e1 := fun F => boot2_f c hk h1 h2 F
  have w1 := wrap64 (c.b + c.s) (by omega) (by omega)
  have w2 := wrap64 (6 * (c.b + c.s)) (by omega) (by omega)
  have w3 := wrap64 (c.b + c.s + 6 * (c.b + c.s)) (by omega) (by omega)
  have w4 := wrap64 (c.d + 2) (by omega) (by omega)
  have w5 := wrap64 (6 * (c.d + 2)) (by omega) (by omega)
  have w6 := wrap64 (c.b + c.s + 6 * (c.b + c.s) + 6 * (c.d + 2)) (by omega) (by omega)
  obtain ⟨H1, hH1⟩ : ∃ H1, H1 = H ++ [some ⟨true, 26, c.L⟩] := ⟨_, rfl⟩
  have k1 : live H1 H.length = some ⟨true, 26, c.L⟩ := by rw [hH1]; exact (live_app_len _ _).trans rfl
  have i1 := live_ltG k1
  have k1' := fun Z => live_more0 k1 Z
  obtain ⟨o1, o2, f1, f2⟩ := hk
  unfold bndV
  have fin : ∀ {V : Value}, D Tryd.prog hints 18 [.agg ⟨c.L⟩] H = some (V, H1 ++ [some ⟨true, 26, c.L⟩]) → ∃ X, D Tryd.prog hints 18 [.agg ⟨c.L⟩] H = some (V, H ++ X) := fun h => ⟨_, by rw [h, hH1, List.append_assoc]⟩
  apply fin
  obtain ⟨d, b, s, p, h, cap, qmin, imax, trip, vmin, vdark, cmin, cmax, cgap, tmax, coil, ohm, sag, amp, drift, o, gen, bat, ext, eland, margin, f⟩ := c
  simp only at o1 o2 f1 f2 w1 w2 w3 w4 w5 w6
  simp only [Cf.L] at hH1 k1 k1' e1
  rw [D_eq p18 _ _ (Nat.le_of_ble_eq_true rfl)]
  simp (maxDischargeDepth := 8) only [r18, b18, c18_0, c18_1, Cf.L, o1, o2, f1, f2, ← hH1, k1, k1', i1, e1, w1, w2, w3, w4, w5, w6, fullOf_appG, fullOf_mapG, List.length_map, RUN, Ed, knd, kndR, resV, binInt, mnmxV, mnmx2, fillL, unV, lenV, extractV, partV, loadAt, Nat.reduceAdd, Nat.reduceBEq, Nat.reduceEqDiff, Nat.reduceLT, Nat.reduceLeDiff, Nat.reduceMul, Nat.reduceSub, reduceIte, Int.reduceEq, Int.reduceNe, Int.reduceLT, Int.reduceLE, Int.reduceAdd, Int.reduceSub, Int.reduceMul, Int.reduceNeg, Int.reduceMod, Int.reduceDiv, Int.reduceTMod, Int.reduceTDiv, Int.reduceToNat, okChain_i, okLoads_nil, okLoads_in, okLoads_eq]
theorem one0_f (H : Heap) : D Tryd.prog hints 13 [.int .i64 0] H = some (.int .i64 0, H) := by
  rw [D_eq p13 _ _ (Nat.le_of_ble_eq_true rfl)]
  simp (maxDischargeDepth := 8) only [r13, b13, c13_0, c13_1, c13_2, c13_3, RUN, Ed, knd, kndR, resV, binInt, mnmxV, mnmx2, fillL, unV, lenV, extractV, partV, loadAt, Nat.reduceAdd, Nat.reduceBEq, Nat.reduceEqDiff, Nat.reduceLT, Nat.reduceLeDiff, Nat.reduceMul, Nat.reduceSub, reduceIte, Int.reduceEq, Int.reduceNe, Int.reduceLT, Int.reduceLE, Int.reduceAdd, Int.reduceSub, Int.reduceMul, Int.reduceNeg, Int.reduceMod, Int.reduceDiv, Int.reduceTMod, Int.reduceTDiv, Int.reduceToNat, okChain_i, okLoads_nil, okLoads_in, okLoads_eq]
theorem one1_f (n : Int) (hn : 0 < n) (H : Heap) : D Tryd.prog hints 13 [.int .i64 n] H = some (.int .i64 106, H) := by
  rw [D_eq p13 _ _ (Nat.le_of_ble_eq_true rfl)]
  simp (maxDischargeDepth := 8) only [r13, b13, c13_0, c13_1, c13_2, c13_3, hn, RUN, Ed, knd, kndR, resV, binInt, mnmxV, mnmx2, fillL, unV, lenV, extractV, partV, loadAt, Nat.reduceAdd, Nat.reduceBEq, Nat.reduceEqDiff, Nat.reduceLT, Nat.reduceLeDiff, Nat.reduceMul, Nat.reduceSub, reduceIte, Int.reduceEq, Int.reduceNe, Int.reduceLT, Int.reduceLE, Int.reduceAdd, Int.reduceSub, Int.reduceMul, Int.reduceNeg, Int.reduceMod, Int.reduceDiv, Int.reduceTMod, Int.reduceTDiv, Int.reduceToNat, okChain_i, okLoads_nil, okLoads_in, okLoads_eq]
theorem placed0_f (b : Int) (H : Heap) : ∃ X, D Tryd.prog hints 12 [.int .i64 0, .int .i64 b] H = some (.agg ⟨[.int .i64 0, .bool false, .int .i64 0]⟩, H ++ X) := by
  have e1 := fun F => noneF_f F
  refine ⟨?X2, ?run2⟩
  case run2 =>
    rw [D_eq p12 _ _ (Nat.le_of_ble_eq_true rfl)]
    simp (maxDischargeDepth := 8) only [r12, b12, c12_0, c12_1, c12_2, c12_3, e1, RUN, Ed, knd, kndR, resV, binInt, mnmxV, mnmx2, fillL, unV, lenV, extractV, partV, loadAt, Nat.reduceAdd, Nat.reduceBEq, Nat.reduceEqDiff, Nat.reduceLT, Nat.reduceLeDiff, Nat.reduceMul, Nat.reduceSub, reduceIte, Int.reduceEq, Int.reduceNe, Int.reduceLT, Int.reduceLE, Int.reduceAdd, Int.reduceSub, Int.reduceMul, Int.reduceNeg, Int.reduceMod, Int.reduceDiv, Int.reduceTMod, Int.reduceTDiv, Int.reduceToNat, okChain_i, okLoads_nil, okLoads_in, okLoads_eq]
    rfl
theorem sameN_f (H : Heap) : ∃ X, D Tryd.prog hints 10 [.nilIface, .agg ⟨[.int .i64 0, .bool false, .int .i64 0]⟩] H = some (.bool true, H ++ X) := by
  obtain ⟨X1, e1⟩ := faultN_f (H ++ [some ⟨true, 35, [.int .i64 0, .bool false, .int .i64 0]⟩])
  have e3 := fun F => sameF_f 0 0 false false 0 0 F
  have hd : decide ((0 : Int) = 0 ∧ false = false ∧ (0 : Int) = 0) = true := by decide
  rw [hd] at e3
  refine ⟨?X2, ?run2⟩
  case run2 =>
    rw [D_eq p10 _ _ (Nat.le_of_ble_eq_true rfl)]
    simp (maxDischargeDepth := 8) only [r10, b10, c10_0, c10_1, e1, e3, fullOf_appG, fullOf_mapG, List.length_map, RUN, Ed, knd, kndR, resV, binInt, mnmxV, mnmx2, fillL, unV, lenV, extractV, partV, loadAt, Nat.reduceAdd, Nat.reduceBEq, Nat.reduceEqDiff, Nat.reduceLT, Nat.reduceLeDiff, Nat.reduceMul, Nat.reduceSub, reduceIte, Int.reduceEq, Int.reduceNe, Int.reduceLT, Int.reduceLE, Int.reduceAdd, Int.reduceSub, Int.reduceMul, Int.reduceNeg, Int.reduceMod, Int.reduceDiv, Int.reduceTMod, Int.reduceTDiv, Int.reduceToNat, okChain_i, okLoads_nil, okLoads_in, okLoads_eq]
    rfl
theorem mask_ext (H0 X : Heap) (j : Nat) (n : List (Nat × Option Blk)) (bs : List Nat) (h : bs.contains j = true) : Ext (H0 ++ X) (maskOf H0 (List.map (fun b => (j, b)) X ++ n) bs) := by
  have hj : j ∈ bs := by simpa using h
  refine ⟨n.map fun p => if p.1 ∈ bs then p.2 else none, ?_⟩
  unfold maskOf
  rw [List.map_append, List.append_assoc, List.map_map]
  congr 2
  rw [show ((fun p : Nat × Option Blk => if p.1 ∈ bs then p.2 else none) ∘ fun b => (j, b)) = id from funext fun b => if_pos hj]
  simp
end Go.Proofs.YtceildmghmigaaaDoor.Sim
