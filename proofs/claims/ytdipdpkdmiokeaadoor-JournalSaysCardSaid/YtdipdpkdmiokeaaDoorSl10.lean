/- A record's bytes read back; what is spoilt is refused. -/
import Derived.Test.YtdipdpkdmiokeaaDoorSl9
import Derived.Test.YtdipdpkdmiokeaaDoorSim21
namespace Go.Proofs.YtdipdpkdmiokeaaDoor.Sim
open Go Go.Proofs.YtdipdpkdmiokeaaDoor.CrcMath
set_option linter.unusedSimpArgs false
set_option linter.unusedVariables false
theorem of_f (a b N : Int) (ha : 0 ≤ a) (hb : 0 ≤ b) (ga : a ≤ N) (gb : b ≤ N) : ∃ lo hi : Int, 0 ≤ lo ∧ lo ≤ hi ∧ hi ≤ N ∧ ∀ H, D Tryd.prog hints 22 [.int .i64 a, .int .i64 b] H = some (.agg ⟨[.int .i64 lo, .int .i64 hi]⟩, H ++ [some ⟨true, 24, [.int .i64 lo, .int .i64 hi]⟩]) := by
  refine ⟨if b < a then b else a, if a < b then b else a, ?_, ?_, ?_, ?_⟩
  · split <;> omega
  · split <;> split <;> omega
  · split <;> omega
  · intro H
    rw [D_eq p22 _ _ (Nat.le_of_ble_eq_true rfl)]
    simp (maxDischargeDepth := 8) only [r22, b22, c22_0, c22_1, RUN, Ed, knd, kndR, resV, binInt, mnmxV, mnmx2, fillL, unV, lenV, extractV, partV, loadAt, Nat.reduceAdd, Nat.reduceBEq, Nat.reduceEqDiff, Nat.reduceLT, Nat.reduceLeDiff, Nat.reduceMul, Nat.reduceSub, reduceIte, Int.reduceEq, Int.reduceNe, Int.reduceLT, Int.reduceLE, Int.reduceAdd, Int.reduceSub, Int.reduceMul, Int.reduceNeg, Int.reduceMod, Int.reduceDiv, Int.reduceTMod, Int.reduceTDiv, Int.reduceToNat, okChain_i, okLoads_nil, okLoads_in, okLoads_eq]
theorem number_f (n b : Int) (H : Heap) (h1 : -9223372036854775808 ≤ n) (h2 : n ≤ 9223372036854775807) (hb : 0 < b) (hb2 : b ≤ 4611686018427387904) : D Tryd.prog hints 23 [.int .i64 n, .int .i64 b] H = some (.int .i64 (n % b), H) := by
  have hb0 : ¬ (b = 0) := by omega
  rw [D_eq p23 _ _ (Nat.le_of_ble_eq_true rfl)]
  by_cases hneg : n.tmod b < 0
  · have hbnd : -b < n.tmod b := by
      have b' := Int.tmod_lt_of_pos (-n) hb
      rw [Int.neg_tmod] at b'
      omega
    have w := wrap64 (n.tmod b + b) (by omega) (by omega)
    have he : n.tmod b + b = n % b := by
      rw [Int.emod_eq_tmod]
      have : ¬ (0 ≤ n ∨ b ∣ n) := by
        rintro (h | h)
        · have := Int.tmod_nonneg b h; omega
        · have := Int.tmod_eq_zero_of_dvd h; omega
      rw [if_neg this]
      omega
    rw [he] at w
    simp (maxDischargeDepth := 8) only [r23, b23, c23_0, c23_1, c23_2, c23_3, c23_4, hb0, hneg, he, w, RUN, Ed, knd, kndR, resV, binInt, mnmxV, mnmx2, fillL, unV, lenV, extractV, partV, loadAt, Nat.reduceAdd, Nat.reduceBEq, Nat.reduceEqDiff, Nat.reduceLT, Nat.reduceLeDiff, Nat.reduceMul, Nat.reduceSub, reduceIte, Int.reduceEq, Int.reduceNe, Int.reduceLT, Int.reduceLE, Int.reduceAdd, Int.reduceSub, Int.reduceMul, Int.reduceNeg, Int.reduceMod, Int.reduceDiv, Int.reduceTMod, Int.reduceTDiv, Int.reduceToNat, okChain_i, okLoads_nil, okLoads_in, okLoads_eq]
  · have he : n.tmod b = n % b := by
      rw [Int.emod_eq_tmod]
      by_cases h : 0 ≤ n ∨ b ∣ n
      · rw [if_pos h]; omega
      · exfalso
        have hn : n < 0 := by omega
        have hz : n.tmod b ≤ 0 := by
          have := Int.tmod_nonneg b (show 0 ≤ -n by omega)
          rw [Int.neg_tmod] at this; omega
        have : n.tmod b = 0 := by omega
        exact h (.inr (Int.dvd_of_tmod_eq_zero this))
    simp (maxDischargeDepth := 8) only [r23, b23, c23_0, c23_1, c23_2, c23_3, c23_4, hb0, hneg, RUN, Ed, knd, kndR, resV, binInt, mnmxV, mnmx2, fillL, unV, lenV, extractV, partV, loadAt, Nat.reduceAdd, Nat.reduceBEq, Nat.reduceEqDiff, Nat.reduceLT, Nat.reduceLeDiff, Nat.reduceMul, Nat.reduceSub, reduceIte, Int.reduceEq, Int.reduceNe, Int.reduceLT, Int.reduceLE, Int.reduceAdd, Int.reduceSub, Int.reduceMul, Int.reduceNeg, Int.reduceMod, Int.reduceDiv, Int.reduceTMod, Int.reduceTDiv, Int.reduceToNat, okChain_i, okLoads_nil, okLoads_in, okLoads_eq]
    rw [he]
theorem zL : Rec.z.L = [.int .u32 0, .int .i64 0, .int .u32 0, .int .i64 0, .int .i64 0, .int .i64 0, .int .i64 0] := rfl
/-- A copy of bytes with one of them set. -/
theorem copy_set (G : Heap) (w : Value) (m : List B8) (hl : m.length ≤ 1000000) (hb : BS G w (m.map w8)) (i : Nat) (hi : i < m.length) (x : B8) : ∃ cv X c, D Tryd.prog hints 24 [w] G = some (cv, G ++ X) ∧ G.length ≤ c ∧ c < (G ++ X).length ∧ idxSV 1 cv (.int .i64 (i : Nat)) = some (.pointer (some ⟨c, i, none⟩)) ∧ live (G ++ X) c = some ⟨true, 5, bL (m.map w8)⟩ ∧ (bL (m.map w8))[i]? = some (.int .u8 (w8 (ix m i))) ∧ i < (bL (m.map w8)).length ∧ (bL (m.map w8)).set i (.int .u8 (w8 x)) = bL ((m.set i x).map w8) ∧ Ext G ((G ++ X).set c (some ⟨true, 5, bL ((m.set i x).map w8)⟩)) ∧ BS ((G ++ X).set c (some ⟨true, 5, bL ((m.set i x).map w8)⟩)) cv ((m.set i x).map w8) := by
  obtain ⟨X, c, e1, hc, hlv⟩ := bytes_f G w (m.map w8) hb (by rw [List.length_map]; omega)
  have ic := live_ltG hlv
  have hx := idxS_s 1 c 0 (m.map w8).length 1 .i64 (i : Int) (by omega) (by rw [List.length_map]; omega)
  rw [show 0 + ((i : Int)).toNat * 1 = i by omega] at hx
  refine ⟨_, X, c, e1, hc, ic, hx, hlv, ?_, ?_, ?_, (Ext.more G X).set hc _, ?_⟩
  · unfold bL; rw [List.getElem?_map, map_get (ix_get (m := m) (i := i) hi)]; rfl
  · rw [bL_len, List.length_map]; exact hi
  · rw [bL_set, List.map_set]
  · rw [show (m.map w8).length = ((m.set i x).map w8).length by rw [List.length_map, List.length_map, List.length_set]]
    exact BS.of (live_set_eq _ _ _ ic)
theorem put_same {G F X : Heap} {b : Blk} (h : F = G ++ (X ++ [some b])) : live F (G.length + X.length) = some b ∧ F.set (G.length + X.length) (some b) = F := by
  have e : F = (G ++ X) ++ [some b] := by rw [h, List.append_assoc]
  rw [show G.length + X.length = (G ++ X).length by simp]
  refine ⟨by rw [e]; exact (live_app_len _ _).trans rfl, ?_⟩
  conv => lhs; rw [e, set_app_len]
  rw [e]; rfl
def y4 : RCode := (.seq (.region c4_8) (.seq (.seq (.region c4_9) (.cond (.tmp 89) (.seq (.region c4_10) .ret) .skip)) (.seq (.region c4_11) (.seq (.region c4_12) (.seq (.region c4_13) (.seq (.region c4_14) (.seq (.region c4_15) (.seq (.region c4_16) (.seq (.region c4_17) (.seq (.region c4_18) (.seq (.region c4_19) (.seq (.region c4_20) .ret))))))))))))
theorem b4t : b4 = (.seq (.region c4_0) (.seq (.region c4_1) (.seq (.seq (.region c4_2) (.cond (.tmp 37) (.seq (.region c4_3) .ret) .skip)) (.seq (.region c4_4) (.seq (.draw c4_5) (.seq (.draw c4_6) (.seq (.draw c4_7) y4))))))) := (rfl)
theorem key4 (R : Rec) (hg : good R = true) (hw : R.wf) (ρ : Fr) (G : Heap) (hE : EH all7 G) (p : Nat) (n : Int) (h1 : -9223372036854775808 ≤ n) (h2 : n ≤ 9223372036854775807) (q17 : ρ 17 = .bool true) (q21 : ρ 21 = .pointer (some ⟨p, 0, none⟩)) (q7 : ρ 7 = .int .i64 n) (kp : live G p = some ⟨true, 26, R.L⟩) : Ok (done [.tmp 16] (E Tryd.prog hints y4 ρ G)) := by
  have hlen := recB_len R
  have ip := live_ltG kp
  obtain ⟨w, F1, e1, z1, b1⟩ := put_good R hg G hE
  have E1 := hE.ext z1
  have lw := b1.len
  rw [hlen] at lw
  have lw' : lenV false w = some (.int .i64 44) := lw
  obtain ⟨hc, hr⟩ := rdC_recB R hw hg
  obtain ⟨X2, e2⟩ := read_f w (recB R) (by omega) F1 E1 b1.BS
  rw [hc, hr] at e2
  simp only [EV] at e2
  obtain ⟨F2, hF2⟩ : ∃ F2, F2 = F1 ++ X2 := ⟨_, rfl⟩
  rw [← hF2] at e2
  have z2 : Ext F1 F2 := ⟨_, hF2⟩
  obtain ⟨G2, hG2⟩ : ∃ G2, G2 = F2 ++ [some ⟨true, 26, R.L⟩] := ⟨_, rfl⟩
  have z3 : Ext F2 G2 := ⟨_, hG2⟩
  have k24 : live G2 F2.length = some ⟨true, 26, R.L⟩ := by rw [hG2]; exact (live_app_len _ _).trans rfl
  have E2 := (E1.ext z2).ext z3
  have B2 := (b1.BS.ext z2).ext z3
  -- the turned bit
  have en := number_f n 344 G2 h1 h2 (by omega) (by omega)
  have hn0 := Int.emod_nonneg n (show (344 : Int) ≠ 0 by omega)
  have hn1 := Int.emod_lt_of_pos n (show (0 : Int) < 344 by omega)
  obtain ⟨j, hj⟩ : ∃ j : Nat, n % 344 = j := ⟨(n % 344).toNat, by omega⟩
  rw [hj] at en hn1
  have w3 : IntKind.i64.wrap (8 + (j : Int)) = ((8 + j : Nat) : Int) := by rw [wrap64 _ (by omega) (by omega)]; omega
  obtain ⟨k, hk⟩ : ∃ k, k = 8 + j := ⟨_, rfl⟩
  rw [← hk] at w3
  have hk8 : 8 ≤ k := by omega
  have hk9 : k < 352 := by omega
  have hnn : (0 : Int) ≤ (k : Int) := by omega
  have hq : IntKind.i64.wrap ((k : Int) / 8) = ((k / 8 : Nat) : Int) := by rw [wrap64 _ (by omega) (by omega)]; omega
  have hq' : IntKind.i64.wrap ((k : Int).tdiv 8) = ((k / 8 : Nat) : Int) := by rw [tdivL _ _ hnn]; exact hq
  have hrr : (k : Int) % 8 = ((k % 8 : Nat) : Int) := by omega
  have hrr' : (k : Int).tmod 8 = ((k % 8 : Nat) : Int) := by rw [tmodL _ _ hnn]; exact hrr
  have hu : IntKind.u64.wrap ((k % 8 : Nat) : Int) = ((k % 8 : Nat) : Int) := by rw [wrapu64]; omega
  have hng : ¬ (((k % 8 : Nat) : Int) < 0) := by omega
  have htn : (((k % 8 : Nat) : Int)).toNat = k % 8 := Int.toNat_natCast _
  have hbit := e_bit (k % 8) (by omega)
  have hxo := e_xor8 (ix (recB R) (k / 8)) (1#8 <<< (k % 8))
  obtain ⟨cv, X3, c, f1, hcG, hcl, f2, f3, f4, f5, f6, f7, f8⟩ := copy_set G2 w (recB R) (by omega) B2 (k / 8) (by omega) (ix (recB R) (k / 8) ^^^ 1#8 <<< (k % 8))
  have hbt : (recB R).set (k / 8) (ix (recB R) (k / 8) ^^^ 1#8 <<< (k % 8)) = bitTurned (recB R) k := rfl
  rw [hbt] at f6 f7 f8
  obtain ⟨G3, hG3⟩ : ∃ G3, G3 = (G2 ++ X3).set c (some ⟨true, 5, bL ((bitTurned (recB R) k).map w8)⟩) := ⟨_, rfl⟩
  rw [← hG3] at f7 f8
  have E3 := E2.ext f7
  obtain ⟨X4, e4⟩ := read_f cv (bitTurned (recB R) k) (by rw [bitTurned_length]; omega) G3 E3 f8
  have hr4 : rdR (bitTurned (recB R) k) = Rec.z := if_neg (by rw [rdC_turned R k hk8 hk9]; simp)
  rw [rdC_turned R k hk8 hk9, hr4] at e4
  simp only [EV] at e4
  obtain ⟨G4, hG4⟩ : ∃ G4, G4 = G3 ++ (X4 ++ [some ⟨true, 26, Rec.z.L⟩]) := ⟨_, rfl⟩
  have z4 : Ext G3 G4 := ⟨_, hG4⟩
  obtain ⟨v4, u4⟩ := put_same hG4
  have t4 := live_ltG v4
  have E4 := E3.ext z4
  have B4 := (B2.ext f7).ext z4
  -- the blank mark
  obtain ⟨cv5, X5, c5, g1', hcG5, hcl5, g2', g3', g4', g5', g6', g7', g8'⟩ := copy_set G4 w (recB R) (by omega) B4 0 (by omega) 0#8
  have g2'' : idxSV 1 cv5 (.int .i64 0) = some (.pointer (some ⟨c5, 0, none⟩)) := g2'
  have g6'' : (bL ((recB R).map w8)).set 0 (.int .u8 0) = bL (((recB R).set 0 0#8).map w8) := g6'
  obtain ⟨G5, hG5⟩ : ∃ G5, G5 = (G4 ++ X5).set c5 (some ⟨true, 5, bL (((recB R).set 0 0#8).map w8)⟩) := ⟨_, rfl⟩
  rw [← hG5] at g7' g8'
  have E5 := E4.ext g7'
  obtain ⟨X6, e6⟩ := read_f cv5 ((recB R).set 0 0#8) (by rw [List.length_set]; omega) G5 E5 g8'
  have hr6 : rdR ((recB R).set 0 0#8) = Rec.z := if_neg (by rw [rdC_blank R]; simp)
  rw [rdC_blank R, hr6] at e6
  simp only [EV] at e6
  obtain ⟨G6, hG6⟩ : ∃ G6, G6 = G5 ++ (X6 ++ [some ⟨true, 26, Rec.z.L⟩]) := ⟨_, rfl⟩
  have z6 : Ext G5 G6 := ⟨_, hG6⟩
  obtain ⟨v6, u6⟩ := put_same hG6
  have t6 := live_ltG v6
  have E6 := E5.ext z6
  have B6 := (B4.ext g7').ext z6
  -- the last byte lost
  obtain ⟨u, es, hu6⟩ := B6.cut (lo := none) (hi := some (.int .i64 ((43 : Nat) : Int))) (l := 0) (r := 43) rfl (bound_nat _ _ _) (by omega) (by rw [List.length_map]; omega)
  rw [List.drop_zero, ← List.map_take] at hu6
  have es' : sliceV 1 w none (some (.int .i64 43)) = some u := es
  obtain ⟨X7, e7⟩ := read_f u ((recB R).take 43) (by rw [List.length_take]; omega) G6 E6 hu6
  have hr7 : rdR ((recB R).take 43) = Rec.z := if_neg (by rw [rdC_torn R]; simp)
  rw [rdC_torn R, hr7] at e7
  simp only [EV] at e7
  obtain ⟨G7, hG7⟩ : ∃ G7, G7 = G6 ++ (X7 ++ [some ⟨true, 26, Rec.z.L⟩]) := ⟨_, rfl⟩
  have z7 : Ext G6 G7 := ⟨_, hG7⟩
  obtain ⟨v7, u7⟩ := put_same hG7
  have t7 := live_ltG v7
  have E7 := E6.ext z7
  have zz : Ext G2 G7 := (((f7.trans z4).trans g7').trans z6).trans z7
  have k24' := zz.live k24
  have kp' := (((z1.trans z2).trans z3).trans zz).live kp
  have i24 := live_ltG k24'
  have ip' := live_ltG kp'
  obtain ⟨Y2, a2⟩ := ex_rule (P := Tryd.prog) (hs := hints) (f := 19) (args := [.agg ⟨R.L⟩, .agg ⟨R.L⟩]) (v := .bool true) (Q := fun _ => True) (fun F _ => by
    have := sameRec_f R R F
    rw [decide_eq_true rfl] at this
    exact this)
  have a2' := fun F => a2 F trivial
  obtain ⟨Y3, a3⟩ := ex_rule (P := Tryd.prog) (hs := hints) (f := 18) (args := [EV (some 3), .int .i64 104]) (v := .bool true) (Q := fun F => EH all7 F) (fun F hF => by
    have := is_f (some 3) (by intro i h; cases h; omega) 104 F hF
    rw [show decide (cd (some 3) = 104) = true from rfl] at this
    exact this)
  obtain ⟨Y6, a6⟩ := ex_rule (P := Tryd.prog) (hs := hints) (f := 18) (args := [EV (some 6), .int .i64 107]) (v := .bool true) (Q := fun F => EH all7 F) (fun F hF => by
    have := is_f (some 6) (by intro i h; cases h; omega) 107 F hF
    rw [show decide (cd (some 6) = 107) = true from rfl] at this
    exact this)
  obtain ⟨Y7, a7⟩ := ex_rule (P := Tryd.prog) (hs := hints) (f := 18) (args := [EV (some 2), .int .i64 103]) (v := .bool true) (Q := fun F => EH all7 F) (fun F hF => by
    have := is_f (some 2) (by intro i h; cases h; omega) 103 F hF
    rw [show decide (cd (some 2) = 103) = true from rfl] at this
    exact this)
  have hEZ : ∀ Z, EH all7 (G7 ++ Z) := fun Z => E7.more Z
  simp only [EV] at a3 a6 a7
  generalize recB R = m at *
  generalize bitTurned m k = mt at *
  generalize ix m (k / 8) = bx at *
  obtain ⟨s, m', l, a, b, c', d⟩ := R
  simp only [Rec.L] at kp kp' k24' e1 e2 a2' hG2
  simp only [zL] at e4 e6 e7 hG4 hG6 hG7 v4 v6 v7 u4 u6 u7
  simp (maxDischargeDepth := 8) only [y4, c4_0, c4_1, c4_2, c4_3, c4_4, c4_5, c4_6, c4_7, c4_8, c4_9, c4_10, c4_11, c4_12, c4_13, c4_14, c4_15, c4_16, c4_17, c4_18, c4_19, c4_20, q7, q17, q21, kp, ip, e1, lw', e2, ← hG2, en, w3, hnn, hq, hq', hrr, hrr', hu, hng, htn, hbit, hxo, f1, f2, f3, f4, f5, f6, hcl, ← hG3, e4, ← hG4, g1', g2'', g3', g5', g6'', hcl5, ← hG5, e6, ← hG6, es', e7, ← hG7, v4, v6, v7, u4, u6, u7, t4, t6, t7, kp', k24', ip', i24, a2', a3, a6, a7, E7, hEZ, same_En, RUN, Ed, knd, kndR, resV, binInt, mnmxV, mnmx2, fillL, unV, extractV, partV, loadAt, Nat.reduceAdd, Nat.reduceBEq, Nat.reduceEqDiff, Nat.reduceLT, Nat.reduceLeDiff, Nat.reduceMul, Nat.reduceSub, reduceIte, Int.reduceEq, Int.reduceNe, Int.reduceLT, Int.reduceLE, Int.reduceAdd, Int.reduceSub, Int.reduceMul, Int.reduceNeg, Int.reduceMod, Int.reduceDiv, Int.reduceTMod, Int.reduceTDiv, Int.reduceToNat, okChain_i, okLoads_nil, okLoads_in, okLoads_eq]
  exact Ok.mk _
end Go.Proofs.YtdipdpkdmiokeaaDoor.Sim
