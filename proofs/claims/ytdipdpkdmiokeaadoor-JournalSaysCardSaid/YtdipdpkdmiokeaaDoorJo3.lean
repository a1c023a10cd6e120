/- The writes that a record asks for. -/
import Derived.Test.YtdipdpkdmiokeaaDoorJo2
import Derived.Test.YtdipdpkdmiokeaaDoorSim21
namespace Go.Proofs.YtdipdpkdmiokeaaDoor.Sim
open Go Go.Proofs.YtdipdpkdmiokeaaDoor.CrcMath
set_option linter.unusedSimpArgs false
set_option linter.unusedVariables false
def recO (a t : Int) : Rec := ⟨0, 1 + a % 5, a % 2097152, t % 1000000, t % 1000000 + 5, 1, t % 1000000 + 1⟩
theorem recO_good (a t : Int) : good (recO a t) = true := good_iff.2 (by unfold recO; simp only; omega)
theorem record_f (a t : Int) (H : Heap) (h1 : -9223372036854775808 ≤ a) (h2 : a ≤ 9223372036854775807) : ∃ X, D Tryd.prog hints 37 [.int .i64 a, .int .i64 t] H = some (.agg ⟨(recO a t).L⟩, H ++ X) := by
  obtain ⟨m1, m2⟩ := mod2 t 1000000 (by omega) (by omega)
  have n1 := fun F => number_f a 5 F h1 h2 (by omega) (by omega)
  have n2 := fun F => number_f a 2097152 F h1 h2 (by omega) (by omega)
  have w1 := wrap64 (1 + a % 5) (by omega) (by omega)
  have w2 : IntKind.u32.wrap (a % 2097152) = a % 2097152 := by rw [wrapu32]; omega
  have w3 := wrap64 (t % 1000000 + 5) (by omega) (by omega)
  have w4 := wrap64 (t % 1000000 + 1) (by omega) (by omega)
  refine ⟨?X1, ?run1⟩
  case run1 =>
    rw [D_eq p37 _ _ (Nat.le_of_ble_eq_true rfl)]
    simp (maxDischargeDepth := 8) only [r37, b37, c37_0, c37_1, c37_2, m1, m2, n1, n2, w1, w2, w3, w4, recO, Rec.L, RUN, Ed, knd, kndR, resV, binInt, mnmxV, mnmx2, fillL, unV, lenV, extractV, partV, loadAt, Nat.reduceAdd, Nat.reduceBEq, Nat.reduceEqDiff, Nat.reduceLT, Nat.reduceLeDiff, Nat.reduceMul, Nat.reduceSub, reduceIte, Int.reduceEq, Int.reduceNe, Int.reduceLT, Int.reduceLE, Int.reduceAdd, Int.reduceSub, Int.reduceMul, Int.reduceNeg, Int.reduceMod, Int.reduceDiv, Int.reduceTMod, Int.reduceTDiv, Int.reduceToNat, okChain_i, okLoads_nil, okLoads_in, okLoads_eq]
    rfl
def WO (H G : Heap) (w : Value) (l : List Wr) : Prop := SM 59 2 H G w l.length (wC l)
theorem WO.WS {H G : Heap} {w : Value} {l : List Wr} (h : WO H G w l) : Sim.WS G w l := by
  rcases h with ⟨h1, rfl, _⟩ | ⟨c, _, rfl, h3, _⟩
  · exact .inl ⟨List.eq_nil_of_length_eq_zero h1, 0, rfl⟩
  · exact .inr ⟨c, 2, true, 59, wC l, rfl, h3, wC_get l⟩
theorem WO.app1 {H G : Heap} {w : Value} {l : List Wr} (h : WO H G w l) (hG : Ext H G) (hl : l.length ≤ 1000000) (a : Int) (b : B8) : ∃ w' F', appendV 59 2 16 (G ++ [some ⟨true, 59, [.int .i64 a, .int .u8 (w8 b)]⟩]) w (.slice (some ⟨G.length, 0, none⟩) 1 2) = some (w', F') ∧ WO H F' w' (l ++ [(a, b)]) ∧ Ext H F' := by
  obtain ⟨w', F', h1, h2, h3, _⟩ := SM.append (bytes := 16) h hG (Ext.more G [some ⟨true, 59, [.int .i64 a, .int .u8 (w8 b)]⟩]) (j := G.length) (m := 1) (e := 2) ((live_app_len _ _).trans rfl) (by omega) (by rfl) (by omega) (by rfl)
  refine ⟨w', F', h1, ?_, h3⟩
  unfold WO
  rw [wC_app, List.length_append]
  exact h2
/-- A journal's next record. -/
def rn (m : List B8) (r : Rec) : Rec := ⟨IntKind.u32.wrap ((nr m).s + 1), r.m, r.l, r.a, r.b, r.c, r.d⟩
def aw (m : List B8) : Nat := if nw m = 0 then 44 else 0
def wrs (r : Rec) (k : Nat) : List Wr := (((k : Nat) : Int), 0#8) :: ((List.range 43).map fun i => (((k + 1 + i : Nat) : Int), ix (recB r) (i + 1))) ++ [(((k : Nat) : Int), 0xa5#8)]
def wrk (r : Rec) (k j : Nat) : List Wr := (((k : Nat) : Int), 0#8) :: ((List.range j).map fun i => (((k + 1 + i : Nat) : Int), ix (recB r) (i + 1)))
theorem wrk_succ (r : Rec) (k j : Nat) : wrk r k (j + 1) = wrk r k j ++ [(((k + 1 + j : Nat) : Int), ix (recB r) (j + 1))] := by
  unfold wrk
  rw [List.range_succ, List.map_append]
  rfl
theorem wrk_len (r : Rec) (k j : Nat) : (wrk r k j).length = j + 1 := by simp [wrk]
theorem wrs_len (r : Rec) (k : Nat) : (wrs r k).length = 45 := by simp [wrs]
theorem drop1_get (m : List B8) (j : Nat) (h : j + 1 < m.length) : (m.drop 1)[j]? = some (ix m (j + 1)) := by
  rw [List.getElem?_drop, Nat.add_comm 1 j]
  exact ix_get h
theorem loop29 (r : Rec) (k : Nat) (hk : k ≤ 44) (H : Heap) (u w : Value) (hu : BS H u (((recB r).drop 1).map w8)) (G : Heap) (hG : Ext H G) (hw : WO H G w (wrk r k 0)) (ρ0 : Fr) (q11 : ρ0 11 = .int .i64 (k : Nat)) (q12 : ρ0 12 = w) (q43 : ρ0 43 = u) (q44 : ρ0 44 = .int .i64 43) (q45 : ρ0 45 = .int .i64 (0 : Nat)) :
    ∃ ρ' G' w', E Tryd.prog hints (.loop l29_0) ρ0 G = some (.exit 0, ρ', G') ∧ ρ' 11 = .int .i64 (k : Nat) ∧ ρ' 12 = w' ∧ Ext H G' ∧ WO H G' w' (wrk r k 43) := by
  have hlen := recB_len r
  obtain ⟨ρ', G', e, hf, w', h12, hE', hw'⟩ := loop_keep (P := Tryd.prog) (hs := hints) (b := l29_0) (id := 0) ρ0 (fun j ρ G => ∃ w', ρ 45 = .int .i64 j ∧ ρ 12 = w' ∧ Ext H G ∧ WO H G w' (wrk r k j)) (fun ρ G => ∃ w', ρ 12 = w' ∧ Ext H G ∧ WO H G w' (wrk r k 43)) 43
    (by
      rintro j ρ F hj hf ⟨w1, r45, r12, hF, hw1⟩
      have r11 := (hf 11 rfl).trans q11
      have r43 := (hf 43 rfl).trans q43
      have r44 := (hf 44 rfl).trans q44
      obtain ⟨i, o, x1, ow, ty, cells, x2, x3⟩ := (hu.ext hF).idx (map_get (drop1_get (recB r) j (by omega)))
      have i2 := live_ltG x2
      have hlt : (j : Int) < 43 := by omega
      have wj := wrap64 ((j : Int) + 1) (by omega) (by omega)
      have w1' := wrap64 ((k : Int) + 1) (by omega) (by omega)
      obtain ⟨q, hq⟩ : ∃ q, q = k + 1 + j := ⟨_, rfl⟩
      have w2' : IntKind.i64.wrap ((k : Int) + 1 + (j : Int)) = ((q : Nat) : Int) := by rw [wrap64 _ (by omega) (by omega)]; omega
      obtain ⟨w2, F2, ea, hw2, hE2⟩ := hw1.app1 hF (by rw [wrk_len]; omega) ((q : Nat) : Int) (ix (recB r) (j + 1))
      rw [hq, ← wrk_succ] at hw2
      refine ⟨?ρ1, F2, ?run1, w2, ?_, ?_, hE2, hw2⟩
      case run1 =>
        simp (maxDischargeDepth := 8) only [l29_0, c29_0, c29_1, c29_2, c29_3, c29_4, c29_5, c29_6, c29_7, c29_8, c29_9, c29_10, c29_11, c29_12, c29_13, c29_14, c29_15, c29_16, c29_17, c29_18, r11, r12, r43, r44, r45, hlt, wj, w1', w2', x1, x2, x3, i2, fillL, ea, RUN, Ed, knd, kndR, resV, binInt, mnmxV, mnmx2, fillL, unV, lenV, extractV, partV, loadAt, Nat.reduceAdd, Nat.reduceBEq, Nat.reduceEqDiff, Nat.reduceLT, Nat.reduceLeDiff, Nat.reduceMul, Nat.reduceSub, reduceIte, Int.reduceEq, Int.reduceNe, Int.reduceLT, Int.reduceLE, Int.reduceAdd, Int.reduceSub, Int.reduceMul, Int.reduceNeg, Int.reduceMod, Int.reduceDiv, Int.reduceTMod, Int.reduceTDiv, Int.reduceToNat, okChain_i, okLoads_nil, okLoads_in, okLoads_eq]
        rfl
      all_goals first | (simp (maxDischargeDepth := 8) only [RUN, Ed, knd, kndR, resV, binInt, mnmxV, mnmx2, fillL, unV, lenV, extractV, partV, loadAt, Nat.reduceAdd, Nat.reduceBEq, Nat.reduceEqDiff, Nat.reduceLT, Nat.reduceLeDiff, Nat.reduceMul, Nat.reduceSub, reduceIte, Int.reduceEq, Int.reduceNe, Int.reduceLT, Int.reduceLE, Int.reduceAdd, Int.reduceSub, Int.reduceMul, Int.reduceNeg, Int.reduceMod, Int.reduceDiv, Int.reduceTMod, Int.reduceTDiv, Int.reduceToNat, okChain_i, okLoads_nil, okLoads_in, okLoads_eq]; done) | (simp (maxDischargeDepth := 8) only [RUN, Ed, knd, kndR, resV, binInt, mnmxV, mnmx2, fillL, unV, lenV, extractV, partV, loadAt, Nat.reduceAdd, Nat.reduceBEq, Nat.reduceEqDiff, Nat.reduceLT, Nat.reduceLeDiff, Nat.reduceMul, Nat.reduceSub, reduceIte, Int.reduceEq, Int.reduceNe, Int.reduceLT, Int.reduceLE, Int.reduceAdd, Int.reduceSub, Int.reduceMul, Int.reduceNeg, Int.reduceMod, Int.reduceDiv, Int.reduceTMod, Int.reduceTDiv, Int.reduceToNat, okChain_i, okLoads_nil, okLoads_in, okLoads_eq]; rfl))
    (by
      rintro ρ F hf ⟨w1, r45, r12, hF, hw1⟩
      have r44 := (hf 44 rfl).trans q44
      have r45' : ρ 45 = .int .i64 43 := r45
      refine ⟨?ρ2, F, ?run2, w1, ?_, hF, hw1⟩
      case run2 =>
        simp (maxDischargeDepth := 8) only [l29_0, c29_14, r44, r45', RUN, Ed, knd, kndR, resV, binInt, mnmxV, mnmx2, fillL, unV, lenV, extractV, partV, loadAt, Nat.reduceAdd, Nat.reduceBEq, Nat.reduceEqDiff, Nat.reduceLT, Nat.reduceLeDiff, Nat.reduceMul, Nat.reduceSub, reduceIte, Int.reduceEq, Int.reduceNe, Int.reduceLT, Int.reduceLE, Int.reduceAdd, Int.reduceSub, Int.reduceMul, Int.reduceNeg, Int.reduceMod, Int.reduceDiv, Int.reduceTMod, Int.reduceTDiv, Int.reduceToNat, okChain_i, okLoads_nil, okLoads_in, okLoads_eq]
        rfl
      simp (maxDischargeDepth := 8) only [r12, RUN, Ed, knd, kndR, resV, binInt, mnmxV, mnmx2, fillL, unV, lenV, extractV, partV, loadAt, Nat.reduceAdd, Nat.reduceBEq, Nat.reduceEqDiff, Nat.reduceLT, Nat.reduceLeDiff, Nat.reduceMul, Nat.reduceSub, reduceIte, Int.reduceEq, Int.reduceNe, Int.reduceLT, Int.reduceLE, Int.reduceAdd, Int.reduceSub, Int.reduceMul, Int.reduceNeg, Int.reduceMod, Int.reduceDiv, Int.reduceTMod, Int.reduceTDiv, Int.reduceToNat, okChain_i, okLoads_nil, okLoads_in, okLoads_eq])
    G ⟨w, q45, q12, hG, hw⟩
  exact ⟨ρ', G', w', e, (hf 11 rfl).trans q11, h12, hE', hw'⟩
theorem rn_good (m : List B8) (r : Rec) : good (rn m r) = good r := rfl
theorem rn_wf (m : List B8) (r : Rec) (h : 0 ≤ r.l) : (rn m r).wf := ⟨by unfold rn; simp only [wrapu32]; omega, by unfold rn; simp only [wrapu32]; omega, h⟩
def t29 : RCode := (.seq (.region c29_12) (.seq (.seq (.region c29_13) (.block 0 (.loop l29_0))) (.seq (.region c29_18) .ret)))
theorem b29t : b29 = (.seq (.region c29_0) (.seq (.seq (.region c29_1) (.seq (.region c29_2) (.cond (.tmp 18) (.seq (.region c29_3) .ret) .skip))) (.seq (.region c29_4) (.seq (.region c29_5) (.seq (.region c29_6) (.seq (.seq (.region c29_7) (.cond (.tmp 35) (.seq (.region c29_8) .ret) .skip)) (.seq (.region c29_9) (.seq (.seq (.region c29_10) (.cond (.tmp 38) (.region c29_11) .skip)) t29)))))))) := (rfl)
theorem tail29 (r : Rec) (k : Nat) (hk : k ≤ 44) (H : Heap) (w : Value) (hb : BS H w ((recB r).map w8)) (ρ : Fr) (q9 : ρ 9 = w) (q11 : ρ 11 = .int .i64 (k : Nat)) : ∃ w' F, done [.tmp 4, .tmp 5] (E Tryd.prog hints t29 ρ H) = some (.tuple ⟨[w', .nilIface]⟩, F) ∧ Ext H F ∧ WS F w' (wrs r k) := by
  have hlen := recB_len r
  obtain ⟨G, hG⟩ : ∃ G, G = H ++ [some ⟨true, 59, [.int .i64 (k : Nat), .int .u8 (w8 0#8)]⟩] := ⟨_, rfl⟩
  have yG : Ext H G := ⟨_, hG⟩
  have hw0 : WO H G (.slice (some ⟨H.length, 0, none⟩) 1 2) (wrk r k 0) := .inr ⟨H.length, Nat.le_refl _, rfl, by rw [hG]; exact (live_app_len _ _).trans rfl, rfl⟩
  obtain ⟨u, es, hu⟩ := hb.cut (lo := some (.int .i64 1)) (hi := none) (l := 1) (r := ((recB r).map w8).length) rfl rfl (by rw [List.length_map]; omega) (Nat.le_refl _)
  rw [List.take_length, ← List.map_drop] at hu
  have lu := hu.len
  rw [List.length_map, List.length_drop, hlen] at lu
  have lu' : lenV false u = some (.int .i64 43) := lu
  have key : ∀ ρ0, ρ0 11 = .int .i64 (k : Nat) → ρ0 12 = .slice (some ⟨H.length, 0, none⟩) 1 2 → ρ0 43 = u → ρ0 44 = .int .i64 43 → ρ0 45 = .int .i64 (0 : Nat) → ∃ w' F, done [.tmp 4, .tmp 5] (andThen (blk 0 (E Tryd.prog hints (.loop l29_0) ρ0 G)) (E Tryd.prog hints (.seq (.region c29_18) .ret))) = some (.tuple ⟨[w', .nilIface]⟩, F) ∧ Ext H F ∧ WS F w' (wrs r k) := by
    intro ρ0 p11 p12 p43 p44 p45
    obtain ⟨ρ', G', w', e, a11, a12, hE', hw'⟩ := loop29 r k hk H u _ hu G yG hw0 ρ0 p11 p12 p43 p44 p45
    obtain ⟨w2, F2, ea, hw2, hE2⟩ := hw'.app1 hE' (by rw [wrk_len]; omega) ((k : Nat) : Int) 0xa5#8
    have ea' : appendV 59 2 16 (G' ++ [some ⟨true, 59, [.int .i64 (k : Nat), .int .u8 165]⟩]) w' (.slice (some ⟨G'.length, 0, none⟩) 1 2) = some (w2, F2) := ea
    refine ⟨w2, F2, ?_, hE2, hw2.WS⟩
    rw [e]
    simp (maxDischargeDepth := 8) only [c29_18, a11, a12, fillL, ea', RUN, Ed, knd, kndR, resV, binInt, mnmxV, mnmx2, fillL, unV, lenV, extractV, partV, loadAt, Nat.reduceAdd, Nat.reduceBEq, Nat.reduceEqDiff, Nat.reduceLT, Nat.reduceLeDiff, Nat.reduceMul, Nat.reduceSub, reduceIte, Int.reduceEq, Int.reduceNe, Int.reduceLT, Int.reduceLE, Int.reduceAdd, Int.reduceSub, Int.reduceMul, Int.reduceNeg, Int.reduceMod, Int.reduceDiv, Int.reduceTMod, Int.reduceTDiv, Int.reduceToNat, okChain_i, okLoads_nil, okLoads_in, okLoads_eq]
  have hG' : G = H ++ [some ⟨true, 59, [.int .i64 (k : Nat), .int .u8 0]⟩] := hG
  simp (maxDischargeDepth := 8) only [t29, c29_12, c29_13, q9, q11, fillL, ← hG', es, lu', RUN, Ed, knd, kndR, resV, binInt, mnmxV, mnmx2, fillL, unV, extractV, partV, loadAt, Nat.reduceAdd, Nat.reduceBEq, Nat.reduceEqDiff, Nat.reduceLT, Nat.reduceLeDiff, Nat.reduceMul, Nat.reduceSub, reduceIte, Int.reduceEq, Int.reduceNe, Int.reduceLT, Int.reduceLE, Int.reduceAdd, Int.reduceSub, Int.reduceMul, Int.reduceNeg, Int.reduceMod, Int.reduceDiv, Int.reduceTMod, Int.reduceTDiv, Int.reduceToNat, okChain_i, okLoads_nil, okLoads_in, okLoads_eq]
  refine key _ ?_ ?_ ?_ ?_ ?_
  all_goals first | (simp (maxDischargeDepth := 8) only [q11, RUN, Ed, knd, kndR, resV, binInt, mnmxV, mnmx2, fillL, unV, lenV, extractV, partV, loadAt, Nat.reduceAdd, Nat.reduceBEq, Nat.reduceEqDiff, Nat.reduceLT, Nat.reduceLeDiff, Nat.reduceMul, Nat.reduceSub, reduceIte, Int.reduceEq, Int.reduceNe, Int.reduceLT, Int.reduceLE, Int.reduceAdd, Int.reduceSub, Int.reduceMul, Int.reduceNeg, Int.reduceMod, Int.reduceDiv, Int.reduceTMod, Int.reduceTDiv, Int.reduceToNat, okChain_i, okLoads_nil, okLoads_in, okLoads_eq]; done) | (simp (maxDischargeDepth := 8) only [q11, RUN, Ed, knd, kndR, resV, binInt, mnmxV, mnmx2, fillL, unV, lenV, extractV, partV, loadAt, Nat.reduceAdd, Nat.reduceBEq, Nat.reduceEqDiff, Nat.reduceLT, Nat.reduceLeDiff, Nat.reduceMul, Nat.reduceSub, reduceIte, Int.reduceEq, Int.reduceNe, Int.reduceLT, Int.reduceLE, Int.reduceAdd, Int.reduceSub, Int.reduceMul, Int.reduceNeg, Int.reduceMod, Int.reduceDiv, Int.reduceTMod, Int.reduceTDiv, Int.reduceToNat, okChain_i, okLoads_nil, okLoads_in, okLoads_eq]; rfl)
theorem writes_f (v : Value) (m : List B8) (hm : m.length = 88) (r : Rec) (hg : good r = true) (H : Heap) (hE : EH all7 H) (hB : BS H v (m.map w8)) : ∃ w F, D Tryd.prog hints 29 [v, .agg ⟨r.L⟩] H = some (.tuple ⟨[w, .nilIface]⟩, F) ∧ Ext H F ∧ WS F w (wrs (rn m r) (aw m)) := by
  obtain ⟨H1, hH1⟩ : ∃ H1, H1 = H ++ [some ⟨true, 26, r.L⟩] := ⟨_, rfl⟩
  have x1 : Ext H H1 := ⟨_, hH1⟩
  have k1 : live H1 H.length = some ⟨true, 26, r.L⟩ := by rw [hH1]; exact (live_app_len _ _).trans rfl
  have E1 := hE.ext x1
  have B1 := hB.ext x1
  have el := length_f v m (by omega) H1 E1 B1
  rw [hm, lenE_88] at el
  simp only [EV] at el
  obtain ⟨F, en, yF⟩ := newest_f v m (by omega) H1 E1 B1
  obtain ⟨G, hG⟩ : ∃ G, G = F ++ [some ⟨true, 26, (nr m).L⟩] := ⟨_, rfl⟩
  have yG : Ext F G := ⟨_, hG⟩
  have zG := yF.trans yG
  have k2 : live G F.length = some ⟨true, 26, (nr m).L⟩ := by rw [hG]; exact (live_app_len _ _).trans rfl
  have i2 := live_ltG k2
  have k3 := zG.live k1
  have i3 := live_ltG k3
  have hgn : good (rn m r) = true := hg
  obtain ⟨G', hG'⟩ : ∃ G', G' = G.set H.length (some ⟨true, 26, (rn m r).L⟩) := ⟨_, rfl⟩
  have yG' : Ext H G' := by rw [hG']; exact (x1.trans zG).set (Nat.le_refl _) _
  have k4 : live G' H.length = some ⟨true, 26, (rn m r).L⟩ := by rw [hG']; exact live_set_eq _ _ _ i3
  have i4 := live_ltG k4
  obtain ⟨w9, F2, e14, yF2, hb9⟩ := put_good (rn m r) hgn G' (hE.ext yG')
  have fin : ∀ ρ, ρ 9 = w9 → ρ 11 = .int .i64 ((aw m : Nat) : Int) → ∃ w F, done [.tmp 4, .tmp 5] (E Tryd.prog hints t29 ρ F2) = some (.tuple ⟨[w, .nilIface]⟩, F) ∧ Ext H F ∧ WS F w (wrs (rn m r) (aw m)) := by
    intro ρ q9 q11
    obtain ⟨w, F, h1, h2, h3⟩ := tail29 (rn m r) (aw m) (by unfold aw; split <;> omega) F2 w9 hb9.BS ρ q9 q11
    exact ⟨w, F, h1, (yG'.trans yF2).trans h2, h3⟩
  have haw : ((aw m : Nat) : Int) = if nw m = 0 then 44 else 0 := by unfold aw; split <;> rfl
  have hrn : (rn m r).L = [.int .u32 (IntKind.u32.wrap ((nr m).s + 1)), .int .i64 r.m, .int .u32 r.l, .int .i64 r.a, .int .i64 r.b, .int .i64 r.c, .int .i64 r.d] := rfl
  rw [hrn] at hG' k4 e14
  generalize aw m = A at *
  generalize rn m r = RN at *
  generalize nr m = R at *
  obtain ⟨s1, m1, l1, a1, b1, c1, d1⟩ := R
  obtain ⟨s2, m2, l2, a2, b2, c2, d2⟩ := r
  simp only [Rec.L] at hH1 k1 en hG k2 k3 hG' k4 e14
  rw [D_eq p29 _ _ (Nat.le_of_ble_eq_true rfl)]
  by_cases c : nw m = 0
  · rw [if_pos c] at haw
    rw [haw] at fin
    have cd : decide (nw m = 0) = true := by simpa using c
    simp (maxDischargeDepth := 8) only [r29, b29t, c29_0, c29_1, c29_2, c29_3, c29_4, c29_5, c29_6, c29_7, c29_8, c29_9, c29_10, c29_11, Rec.L, ← hH1, el, en, ← hG, k2, i2, k3, i3, ← hG', k4, i4, e14, c, RUN, Ed, knd, kndR, resV, binInt, mnmxV, mnmx2, fillL, unV, lenV, extractV, partV, loadAt, Nat.reduceAdd, Nat.reduceBEq, Nat.reduceEqDiff, Nat.reduceLT, Nat.reduceLeDiff, Nat.reduceMul, Nat.reduceSub, reduceIte, Int.reduceEq, Int.reduceNe, Int.reduceLT, Int.reduceLE, Int.reduceAdd, Int.reduceSub, Int.reduceMul, Int.reduceNeg, Int.reduceMod, Int.reduceDiv, Int.reduceTMod, Int.reduceTDiv, Int.reduceToNat, okChain_i, okLoads_nil, okLoads_in, okLoads_eq]
    refine fin _ ?_ ?_
    all_goals first | (simp (maxDischargeDepth := 8) only [RUN, Ed, knd, kndR, resV, binInt, mnmxV, mnmx2, fillL, unV, lenV, extractV, partV, loadAt, Nat.reduceAdd, Nat.reduceBEq, Nat.reduceEqDiff, Nat.reduceLT, Nat.reduceLeDiff, Nat.reduceMul, Nat.reduceSub, reduceIte, Int.reduceEq, Int.reduceNe, Int.reduceLT, Int.reduceLE, Int.reduceAdd, Int.reduceSub, Int.reduceMul, Int.reduceNeg, Int.reduceMod, Int.reduceDiv, Int.reduceTMod, Int.reduceTDiv, Int.reduceToNat, okChain_i, okLoads_nil, okLoads_in, okLoads_eq]; done) | (simp (maxDischargeDepth := 8) only [RUN, Ed, knd, kndR, resV, binInt, mnmxV, mnmx2, fillL, unV, lenV, extractV, partV, loadAt, Nat.reduceAdd, Nat.reduceBEq, Nat.reduceEqDiff, Nat.reduceLT, Nat.reduceLeDiff, Nat.reduceMul, Nat.reduceSub, reduceIte, Int.reduceEq, Int.reduceNe, Int.reduceLT, Int.reduceLE, Int.reduceAdd, Int.reduceSub, Int.reduceMul, Int.reduceNeg, Int.reduceMod, Int.reduceDiv, Int.reduceTMod, Int.reduceTDiv, Int.reduceToNat, okChain_i, okLoads_nil, okLoads_in, okLoads_eq]; rfl)
  · rw [if_neg c] at haw
    rw [haw] at fin
    have cd : decide (nw m = 0) = false := by simpa using c
    simp (maxDischargeDepth := 8) only [r29, b29t, c29_0, c29_1, c29_2, c29_3, c29_4, c29_5, c29_6, c29_7, c29_8, c29_9, c29_10, c29_11, Rec.L, ← hH1, el, en, ← hG, k2, i2, k3, i3, ← hG', k4, i4, e14, c, RUN, Ed, knd, kndR, resV, binInt, mnmxV, mnmx2, fillL, unV, lenV, extractV, partV, loadAt, Nat.reduceAdd, Nat.reduceBEq, Nat.reduceEqDiff, Nat.reduceLT, Nat.reduceLeDiff, Nat.reduceMul, Nat.reduceSub, reduceIte, Int.reduceEq, Int.reduceNe, Int.reduceLT, Int.reduceLE, Int.reduceAdd, Int.reduceSub, Int.reduceMul, Int.reduceNeg, Int.reduceMod, Int.reduceDiv, Int.reduceTMod, Int.reduceTDiv, Int.reduceToNat, okChain_i, okLoads_nil, okLoads_in, okLoads_eq]
    refine fin _ ?_ ?_
    all_goals first | (simp (maxDischargeDepth := 8) only [RUN, Ed, knd, kndR, resV, binInt, mnmxV, mnmx2, fillL, unV, lenV, extractV, partV, loadAt, Nat.reduceAdd, Nat.reduceBEq, Nat.reduceEqDiff, Nat.reduceLT, Nat.reduceLeDiff, Nat.reduceMul, Nat.reduceSub, reduceIte, Int.reduceEq, Int.reduceNe, Int.reduceLT, Int.reduceLE, Int.reduceAdd, Int.reduceSub, Int.reduceMul, Int.reduceNeg, Int.reduceMod, Int.reduceDiv, Int.reduceTMod, Int.reduceTDiv, Int.reduceToNat, okChain_i, okLoads_nil, okLoads_in, okLoads_eq]; done) | (simp (maxDischargeDepth := 8) only [RUN, Ed, knd, kndR, resV, binInt, mnmxV, mnmx2, fillL, unV, lenV, extractV, partV, loadAt, Nat.reduceAdd, Nat.reduceBEq, Nat.reduceEqDiff, Nat.reduceLT, Nat.reduceLeDiff, Nat.reduceMul, Nat.reduceSub, reduceIte, Int.reduceEq, Int.reduceNe, Int.reduceLT, Int.reduceLE, Int.reduceAdd, Int.reduceSub, Int.reduceMul, Int.reduceNeg, Int.reduceMod, Int.reduceDiv, Int.reduceTMod, Int.reduceTDiv, Int.reduceToNat, okChain_i, okLoads_nil, okLoads_in, okLoads_eq]; rfl)
end Go.Proofs.YtdipdpkdmiokeaaDoor.Sim
