/- Two records' bytes are alike only where the records are. -/
import Derived.Test.YtdipdpkdmiokeaaDoorSl7
import Derived.Test.YtdipdpkdmiokeaaDoorSim21
namespace Go.Proofs.YtdipdpkdmiokeaaDoor.Sim
open Go Go.Proofs.YtdipdpkdmiokeaaDoor.CrcMath
set_option linter.unusedSimpArgs false
set_option linter.unusedVariables false
theorem mod2 (n b : Int) (hb : 0 < b) (hb2 : b ≤ 4611686018427387904) : IntKind.i64.wrap (n.tmod b + b) = n.tmod b + b ∧ (n.tmod b + b).tmod b = n % b := by
  have h1 : n.tmod b < b := Int.tmod_lt_of_pos n hb
  have h2 : -b < n.tmod b := by
    have b' := Int.tmod_lt_of_pos (-n) hb
    rw [Int.neg_tmod] at b'
    omega
  refine ⟨wrap64 _ (by omega) (by omega), ?_⟩
  rw [tmodL _ _ (by omega), Int.add_emod_right, Int.tmod_eq_emod]
  split
  · rw [show n % b - ((0 : Nat) : Int) = n % b by omega, Int.emod_emod]
  · rw [show ((b.natAbs : Nat) : Int) = b by omega, Int.sub_emod_right, Int.emod_emod]
theorem put_good (r : Rec) (hg : good r = true) (H : Heap) (hE : EH all7 H) : ∃ w F, D Tryd.prog hints 14 [.agg ⟨r.L⟩] H = some (.tuple ⟨[w, .nilIface]⟩, F) ∧ Ext H F ∧ BO H F w (recB r) := recBytes_f r hg H hE
theorem unlike (p q x y n : Int) (p0 : 0 ≤ p) (p1 : p < 4294967296) (q0 : 0 ≤ q) (q1 : q < 4294967296) (H : Heap) (hE : EH all7 H) : Ok (D Tryd.prog hints 6 [.int .u32 p, .int .u32 q, .int .i64 x, .int .i64 y, .int .i64 n] H) := by
  obtain ⟨X0, e0⟩ := first_f H hE
  obtain ⟨G0, hG0⟩ : ∃ G0, G0 = H ++ X0 := ⟨_, rfl⟩
  rw [← hG0] at e0
  have y0 : Ext H G0 := ⟨_, hG0⟩
  obtain ⟨m1, m2⟩ := mod2 x 1000 (by omega) (by omega)
  obtain ⟨m3, m4⟩ := mod2 y 1000 (by omega) (by omega)
  obtain ⟨m5, m6⟩ := mod2 n 5 (by omega) (by omega)
  have m7 := wrap64 (1 + n % 5) (by omega) (by omega)
  obtain ⟨R1, hR1⟩ : ∃ R1 : Rec, R1 = ⟨p, 1, 0, 0, x % 1000, 0, 0⟩ := ⟨_, rfl⟩
  obtain ⟨R2, hR2⟩ : ∃ R2 : Rec, R2 = ⟨q, 1 + n % 5, 0, 0, y % 1000, 0, 0⟩ := ⟨_, rfl⟩
  have gd1 : good R1 = true := good_iff.2 (by rw [hR1]; simp only; omega)
  have gd2 : good R2 = true := good_iff.2 (by rw [hR2]; simp only; omega)
  have wf1 : R1.wf := by rw [hR1]; exact ⟨p0, p1, by simp only; omega⟩
  have wf2 : R2.wf := by rw [hR2]; exact ⟨q0, q1, by simp only; omega⟩
  have L1 : [Value.int .u32 p, .int .i64 1, .int .u32 0, .int .i64 0, .int .i64 (x % 1000), .int .i64 0, .int .i64 0] = R1.L := by rw [hR1]; rfl
  have L2 : [Value.int .u32 q, .int .i64 (1 + n % 5), .int .u32 0, .int .i64 0, .int .i64 (y % 1000), .int .i64 0, .int .i64 0] = R2.L := by rw [hR2]; rfl
  obtain ⟨G1, hG1⟩ : ∃ G1, G1 = G0 ++ [some ⟨true, 26, R1.L⟩] := ⟨_, rfl⟩
  obtain ⟨G2, hG2⟩ : ∃ G2, G2 = G1 ++ [some ⟨true, 26, R2.L⟩] := ⟨_, rfl⟩
  have y1 : Ext G0 G1 := ⟨_, hG1⟩
  have y2 : Ext G1 G2 := ⟨_, hG2⟩
  have k1 : live G2 G0.length = some ⟨true, 26, R1.L⟩ := y2.live (by rw [hG1]; exact (live_app_len _ _).trans rfl)
  have k2 : live G2 G1.length = some ⟨true, 26, R2.L⟩ := by rw [hG2]; exact (live_app_len _ _).trans rfl
  have E2 := ((hE.ext y0).ext y1).ext y2
  obtain ⟨w1, F1, e1, z1, b1⟩ := put_good R1 gd1 G2 E2
  obtain ⟨w2, F2, e2, z2, b2⟩ := put_good R2 gd2 F1 (E2.ext z1)
  have k1' := z1.live k1
  have k2' := z1.live k2
  have k1'' := z2.live k1'
  have k2'' := z2.live k2'
  have i1 := live_ltG k1
  have i2 := live_ltG k2
  have i1' := live_ltG k1'
  have i2' := live_ltG k2'
  have i1'' := live_ltG k1''
  have i2'' := live_ltG k2''
  have hsb : ∀ F, Ext F2 F → K 20 [w1, w2] F = some (.bool (decide (R1 = R2)), F) := fun F hF => by
    have := sameBytes_f F w1 w2 _ _ (b1.ext (z2.trans hF)).BS (b2.ext hF).BS (by rw [List.length_map, recB_len]; omega)
    rw [this]
    have h2 : decide ((recB R1).map w8 = (recB R2).map w8) = decide (R1 = R2) := decide_eq_decide.2 (map_w8_inj.trans (recB_inj R1 R2 wf1 wf2 gd1 gd2))
    rw [h2]
  obtain ⟨Y3, f3⟩ := ex_rule (P := Tryd.prog) (hs := hints) (f := 19) (args := [.agg ⟨R1.L⟩, .agg ⟨R2.L⟩]) (v := .bool (decide (R1 = R2))) (Q := fun _ => True) (fun F _ => sameRec_f R1 R2 F)
  have f3' := fun F => f3 F trivial
  simp only [K] at hsb
  have x1 := Ext.refl F2
  have x2 : ∀ Z, Ext F2 (F2 ++ Z) := fun Z => Ext.more F2 Z
  have x3 : ∀ n b, Ext F2 (maskOf F2 n b) := fun n b => Ext.more F2 _
  generalize decide (R1 = R2) = bb at *
  have h0 : R1.L = [Value.int .u32 p, .int .i64 1, .int .u32 0, .int .i64 0, .int .i64 (x % 1000), .int .i64 0, .int .i64 0] := L1.symm
  have h0' : R2.L = [Value.int .u32 q, .int .i64 (1 + n % 5), .int .u32 0, .int .i64 0, .int .i64 (y % 1000), .int .i64 0, .int .i64 0] := L2.symm
  rw [h0] at hG1 k1 k1' k1'' e1 f3'
  rw [h0'] at hG2 k2 k2' k2'' e2 f3'
  have hbb : (bb == bb) = true := by cases bb <;> rfl
  have hdd : decide (bb = bb) = true := decide_eq_true rfl
  rw [D_eq p6 _ _ (Nat.le_of_ble_eq_true rfl)]
  simp (maxDischargeDepth := 8) only [r6, b6, c6_0, c6_1, c6_2, c6_3, c6_4, c6_5, c6_6, c6_7, c6_8, e0, m1, m2, m3, m4, m5, m6, m7, ← hG1, ← hG2, k1, k2, i1, i2, e1, k1', k2', i1', i2', e2, k1'', k2'', i1'', i2'', hsb, f3', x1, x2, x3, hbb, hdd, fullOf_appG, fullOf_mapG, List.length_map, RUN, Ed, knd, kndR, resV, binInt, mnmxV, mnmx2, fillL, unV, lenV, extractV, partV, loadAt, Nat.reduceAdd, Nat.reduceBEq, Nat.reduceEqDiff, Nat.reduceLT, Nat.reduceLeDiff, Nat.reduceMul, Nat.reduceSub, reduceIte, Int.reduceEq, Int.reduceNe, Int.reduceLT, Int.reduceLE, Int.reduceAdd, Int.reduceSub, Int.reduceMul, Int.reduceNeg, Int.reduceMod, Int.reduceDiv, Int.reduceTMod, Int.reduceTDiv, Int.reduceToNat, okChain_i, okLoads_nil, okLoads_in, okLoads_eq]
  exact Ok.mk _
def sh6 : List Sh := [.int .u32, .int .u32, .int .i64, .int .i64, .int .i64]
theorem wfu32 {n : Int} (h : (Lit.int .u32 n).wf = true) : 0 ≤ n ∧ n < 4294967296 := by
  simp [Lit.wf, IntKind.min, IntKind.max, IntKind.bits, IntKind.signed] at h
  omega
theorem wfi64 {n : Int} (h : (Lit.int .i64 n).wf = true) : -9223372036854775808 ≤ n ∧ n ≤ 9223372036854775807 := by
  simp [Lit.wf, IntKind.min, IntKind.max, IntKind.bits, IntKind.signed] at h
  omega
theorem unlike_law (H : Heap) (h : EH all7 H) (ls : List (List Value)) (o : OpnAll H sh6 ls) : Ok (D Tryd.prog hints 6 (argsS sh6 ls) H) := by
  obtain ⟨l0, _, rfl, h0, o⟩ := o.uncons
  obtain ⟨l1, _, rfl, h1, o⟩ := o.uncons
  obtain ⟨l2, _, rfl, h2, o⟩ := o.uncons
  obtain ⟨l3, _, rfl, h3, o⟩ := o.uncons
  obtain ⟨l4, _, rfl, h4, o⟩ := o.uncons
  cases o.unnil
  simp only [Opn.eq_1] at h0 h1 h2 h3 h4
  obtain ⟨a, rfl, ha⟩ := h0
  obtain ⟨b, rfl, hb⟩ := h1
  obtain ⟨c, rfl, hc⟩ := h2
  obtain ⟨d, rfl, hd⟩ := h3
  obtain ⟨e, rfl, he⟩ := h4
  exact unlike a b c d e (wfu32 ha).1 (wfu32 ha).2 (wfu32 hb).1 (wfu32 hb).2 H h
end Go.Proofs.YtdipdpkdmiokeaaDoor.Sim
