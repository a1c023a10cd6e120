/- Chapter 7 over the plain heap: SensorBack. -/
import Derived.Test.YtdmfedmhcegggaaDoorSen4
import Derived.Test.YtdmfedmhcegggaaDoorSim21
namespace Go.Proofs.YtdmfedmhcegggaaDoor.Sim
open Go
set_option linter.unusedSimpArgs false
set_option linter.unusedVariables false
theorem rg_bounds (ch lo hi : Int) (h : rgS ch = (lo, hi, true)) : -500000 ≤ lo ∧ lo < hi ∧ hi ≤ 500000 ∧ 1 ≤ ch ∧ ch ≤ 47 := by
  have hr := rgS_iv ch
  rcases iv_cases ch with h1 | h1 | h1 | h1 | h1 | h1 | h1 | h1 | h1 | h1 | h1 | h1
  · have := h.symm.trans (hr.1 h1); simp only [Prod.mk.injEq] at this; simp at this
  · have := h.symm.trans (hr.2.1 h1); simp only [Prod.mk.injEq] at this; omega
  · have := h.symm.trans (hr.2.2.1 h1); simp only [Prod.mk.injEq] at this; omega
  · have := h.symm.trans (hr.2.2.2.1 h1); simp only [Prod.mk.injEq] at this; omega
  · have := h.symm.trans (hr.2.2.2.2.1 h1); simp only [Prod.mk.injEq] at this; omega
  · have := h.symm.trans (hr.2.2.2.2.2.1 h1); simp only [Prod.mk.injEq] at this; omega
  · have := h.symm.trans (hr.2.2.2.2.2.2.1 h1); simp only [Prod.mk.injEq] at this; omega
  · have := h.symm.trans (hr.2.2.2.2.2.2.2.1 h1); simp only [Prod.mk.injEq] at this; omega
  · have := h.symm.trans (hr.2.2.2.2.2.2.2.2.1 h1); simp only [Prod.mk.injEq] at this; omega
  · have := h.symm.trans (hr.2.2.2.2.2.2.2.2.2.1 h1); simp only [Prod.mk.injEq] at this; omega
  · have := h.symm.trans (hr.2.2.2.2.2.2.2.2.2.2.1 h1); simp only [Prod.mk.injEq] at this; omega
  · have := h.symm.trans (hr.2.2.2.2.2.2.2.2.2.2.2 h1); simp only [Prod.mk.injEq] at this; simp at this
theorem rdS_pb (ch v : Int) (h : OkS ch v) : rdS (ch % 256) (pbS v) = (ch, v, none) := by
  obtain ⟨q1, q2, q3, q4⟩ := OkS_iv ch v h
  have e0 : ch % 256 = ch := by omega
  have e1 : val4 (pbS v) = v % 4294967296 := by
    show ((v % 4294967296 / 16777216 % 256 * 256 + v % 4294967296 / 65536 % 256) * 256 + v % 4294967296 / 256 % 256) * 256 + v % 4294967296 % 256 = v % 4294967296
    omega
  have e2 : IntKind.i32.wrap (v % 4294967296) = v := by
    rw [wrapi32]
    split <;> omega
  unfold rdS
  rw [e0, e1, e2, if_pos h.1, if_neg (by simp [pbS]), if_neg (by simp [pbS]), if_pos h]
/-- Put into a range round and round. -/
theorem round_in (v w : Int) (hw : 0 < w) (hw2 : w ≤ 1000001) : ∃ q : Int, IntKind.i64.wrap (v.tmod w + w) = v.tmod w + w ∧ (v.tmod w + w).tmod w = q ∧ 0 ≤ q ∧ q < w := by
  have h1 : -w < v.tmod w := Int.lt_tmod_of_pos v hw
  have h2 : v.tmod w < w := Int.tmod_lt_of_pos v hw
  refine ⟨(v.tmod w + w) % w, wrap64 _ (by omega) (by omega), Int.tmod_eq_emod_of_nonneg (by omega), Int.emod_nonneg _ (by omega), Int.emod_lt_of_pos _ hw⟩
def d12 : RCode := .seq (.region c12_14) .ret
def c12t : RCode := .seq (.region c12_12) (.seq (.region c12_13) d12)
def q12t : RCode := .seq (.region c12_10) (.seq (.region c12_11) c12t)
def v12t : RCode := .seq (.region c12_8) (.seq (.draw c12_9) q12t)
theorem b12t : b12 = .seq (.region c12_0) (.seq (.region c12_1) (.seq (.seq (.region c12_2) (.cond (.tmp 22) (.seq (.region c12_3) .ret) .skip)) (.seq (.region c12_4) (.seq (.region c12_5) (.seq (.seq (.region c12_6) (.cond (.tmp 42) (.seq (.region c12_7) .ret) .skip)) v12t))))) := (rfl)
structure S12 (ch s v : Int) (p8 p11 : Nat) (ρ : Fr) : Prop where
  r0 : ρ 0 = .int .i64 ch
  r1 : ρ 1 = .int .u8 s
  r2 : ρ 2 = .int .i64 v
  r7 : ρ 7 = .bool true
  r8 : ρ 8 = .pointer (some ⟨p8, 0, none⟩)
  r11 : ρ 11 = .pointer (some ⟨p11, 0, none⟩)
  r12 : ρ 12 = .nilIface
  r13 : ρ 13 = .int .i64 ch
  r14 : ρ 14 = .int .i64 v
  r15 : ρ 15 = .nilIface
theorem tail12d (ch s v : Int) (p8 p11 i : Nat) (ρ : Fr) (F : Heap) (hE : EH all7 F) (hs : S12 ch s v p8 p11 ρ) (k11 : live F p11 = some ⟨true, 27, [.int .u8 (ch % 256), .int .u8 s, .slice (some ⟨i, 0, none⟩) 4 1]⟩) (r17 : ρ 17 = Err 0) (r19 : ρ 19 = Err 0) : Ok (done [.tmp 6] (E Tryd.prog hints d12 ρ F)) := by
  obtain ⟨r0, r1, r2, r7, r8, r11, r12, r13, r14, r15⟩ := hs
  obtain ⟨XI, eIn, eIE, eI⟩ := is_rules
  have eI0 : ∀ G, EH all7 G → D Tryd.prog hints 17 [Err 0, .int .i64 101] G = some (.bool true, G ++ XI (some 0) 101 G) := fun G hG => eIE 0 (by omega) G hG
  have i11 := live_lt k11
  have l4 : decide (((4 : Nat) : Int) = 4) = true := rfl
  simp (maxDischargeDepth := 8) only [l4, d12, c12_14, r0, r1, r2, r7, r8, r11, r12, r13, r14, r15, r17, r19, k11, i11, eI0, hE, EH_more, same_nn, RUN, Ed, knd, kndR, resV, binInt, mnmxV, mnmx2, fillL, unV, lenV, extractV, partV, loadAt, Nat.reduceAdd, Nat.reduceBEq, Nat.reduceEqDiff, Nat.reduceLT, Nat.reduceLeDiff, Nat.reduceMul, Nat.reduceSub, reduceIte, Int.reduceEq, Int.reduceNe, Int.reduceLT, Int.reduceLE, Int.reduceAdd, Int.reduceSub, Int.reduceMul, Int.reduceNeg, Int.reduceMod, Int.reduceDiv, Int.reduceTMod, Int.reduceTDiv, Int.reduceToNat, okChain_i, okLoads_nil, okLoads_in, okLoads_eq]
  exact Ok.mk _
theorem tail12c (ch s v : Int) (lo hi : Int) (hz : rgS ch = (lo, hi, true)) (p8 p11 i : Nat) (ρ : Fr) (F : Heap) (hE : EH all7 F) (hs : S12 ch s v p8 p11 ρ) (k8 : live F p8 = some ⟨true, 68, [.int .i64 lo, .int .i64 hi]⟩) (k11 : live F p11 = some ⟨true, 27, [.int .u8 (ch % 256), .int .u8 s, .slice (some ⟨i, 0, none⟩) 4 1]⟩) : Ok (done [.tmp 6] (E Tryd.prog hints c12t ρ F)) := by
  obtain ⟨r0, r1, r2, r7, r8, r11, r12, r13, r14, r15⟩ := hs
  obtain ⟨b1, b2, b3, b4, b5⟩ := rg_bounds ch lo hi hz
  have w1 := wrap64 (hi + 1) (by omega) (by omega)
  have w2 := wrap64 (lo - 1) (by omega) (by omega)
  have n1 : ¬ OkS ch (hi + 1) := by unfold OkS; rw [hz]; simp; omega
  have n2 : ¬ OkS ch (lo - 1) := by unfold OkS; rw [hz]; simp; omega
  obtain ⟨X1, e1⟩ := sputBad_f all7 ch s (hi + 1) F hE rfl n1
  obtain ⟨X2, e2⟩ := sputBad_f all7 ch s (lo - 1) (F ++ (X1 ++ [some ⟨true, 27, zeroF⟩])) (hE.more _) rfl n2
  have hE2 := hE.more (X1 ++ ([some ⟨true, 27, zeroF⟩] ++ (X2 ++ [some ⟨true, 27, zeroF⟩])))
  have k11' := live_more0 k11 (X1 ++ ([some ⟨true, 27, zeroF⟩] ++ (X2 ++ [some ⟨true, 27, zeroF⟩])))
  have i8 := live_lt k8
  simp only [zeroF, List.append_assoc, List.cons_append, List.nil_append] at e1 e2 hE2 k11'
  simp (maxDischargeDepth := 8) only [c12t, c12_12, c12_13, r0, r1, r2, r7, r8, r11, r12, r13, r14, r15, k8, i8, w1, w2, e1, e2, RUN, Ed, knd, kndR, resV, binInt, mnmxV, mnmx2, fillL, unV, lenV, extractV, partV, loadAt, Nat.reduceAdd, Nat.reduceBEq, Nat.reduceEqDiff, Nat.reduceLT, Nat.reduceLeDiff, Nat.reduceMul, Nat.reduceSub, reduceIte, Int.reduceEq, Int.reduceNe, Int.reduceLT, Int.reduceLE, Int.reduceAdd, Int.reduceSub, Int.reduceMul, Int.reduceNeg, Int.reduceMod, Int.reduceDiv, Int.reduceTMod, Int.reduceTDiv, Int.reduceToNat, okChain_i, okLoads_nil, okLoads_in, okLoads_eq]
  refine tail12d ch s v p8 p11 i _ _ hE2 ⟨?_, ?_, ?_, ?_, ?_, ?_, ?_, ?_, ?_, ?_⟩ k11' ?_ ?_
  all_goals simp (maxDischargeDepth := 8) only [r0, r1, r2, r7, r8, r11, r12, r13, r14, r15, RUN, Ed, knd, kndR, resV, binInt, mnmxV, mnmx2, fillL, unV, lenV, extractV, partV, loadAt, Nat.reduceAdd, Nat.reduceBEq, Nat.reduceEqDiff, Nat.reduceLT, Nat.reduceLeDiff, Nat.reduceMul, Nat.reduceSub, reduceIte, Int.reduceEq, Int.reduceNe, Int.reduceLT, Int.reduceLE, Int.reduceAdd, Int.reduceSub, Int.reduceMul, Int.reduceNeg, Int.reduceMod, Int.reduceDiv, Int.reduceTMod, Int.reduceTDiv, Int.reduceToNat, okChain_i, okLoads_nil, okLoads_in, okLoads_eq]
theorem tail12q (ch s v : Int) (hs0 : 0 ≤ ch) (lo hi : Int) (hz : rgS ch = (lo, hi, true)) (hg : OkS ch v) (p8 : Nat) (ρ : Fr) (F : Heap) (hE : EH all7 F) (r0 : ρ 0 = .int .i64 ch) (r1 : ρ 1 = .int .u8 s) (r2 : ρ 2 = .int .i64 v) (r7 : ρ 7 = .bool true) (r8 : ρ 8 = .pointer (some ⟨p8, 0, none⟩)) (k8 : live F p8 = some ⟨true, 68, [.int .i64 lo, .int .i64 hi]⟩) : Ok (done [.tmp 6] (E Tryd.prog hints q12t ρ F)) := by
  obtain ⟨fr1, X1, e1, i, rfl, h1⟩ := sputGood_f ch s v F hg
  have hB := BS.blk (e := 1) (live_more0 h1 [some ⟨true, 27, [.int .u8 (ch % 256), .int .u8 s, .slice (some ⟨i, 0, none⟩) 4 1]⟩])
  obtain ⟨X2, e2⟩ := readS_f all7 rfl rfl rfl (ch % 256) s (by omega) _ (pbS v) (by intro b hb; simp [pbS] at hb; rcases hb with rfl | rfl | rfl | rfl <;> omega) _ ((hE.more X1).more _) hB
  rw [rdS_pb ch v hg] at e2
  have k11 : live (((F ++ X1) ++ [some ⟨true, 27, [.int .u8 (ch % 256), .int .u8 s, .slice (some ⟨i, 0, none⟩) 4 1]⟩]) ++ X2) (F.length + X1.length) = some ⟨true, 27, [.int .u8 (ch % 256), .int .u8 s, .slice (some ⟨i, 0, none⟩) 4 1]⟩ := live_more0 (by rw [← List.length_append]; exact (live_app_len _ _).trans rfl) _
  have hE2 := ((hE.more X1).more [some ⟨true, 27, [.int .u8 (ch % 256), .int .u8 s, .slice (some ⟨i, 0, none⟩) 4 1]⟩]).more X2
  have k8' := live_more0 (live_more0 (live_more0 k8 X1) [some ⟨true, 27, [.int .u8 (ch % 256), .int .u8 s, .slice (some ⟨i, 0, none⟩) 4 1]⟩]) X2
  simp only [EV, List.append_assoc, List.cons_append, List.nil_append] at e2 k11 hE2 k8'
  rw [show (pbS v).length = 4 from rfl] at e2
  simp (maxDischargeDepth := 8) only [q12t, c12_10, c12_11, r0, r1, r2, r7, r8, e1, e2, RUN, Ed, knd, kndR, resV, binInt, mnmxV, mnmx2, fillL, unV, lenV, extractV, partV, loadAt, Nat.reduceAdd, Nat.reduceBEq, Nat.reduceEqDiff, Nat.reduceLT, Nat.reduceLeDiff, Nat.reduceMul, Nat.reduceSub, reduceIte, Int.reduceEq, Int.reduceNe, Int.reduceLT, Int.reduceLE, Int.reduceAdd, Int.reduceSub, Int.reduceMul, Int.reduceNeg, Int.reduceMod, Int.reduceDiv, Int.reduceTMod, Int.reduceTDiv, Int.reduceToNat, okChain_i, okLoads_nil, okLoads_in, okLoads_eq]
  refine tail12c ch s v lo hi hz p8 (F.length + X1.length) i _ _ hE2 ⟨?_, ?_, ?_, ?_, ?_, ?_, ?_, ?_, ?_, ?_⟩ k8' k11
  all_goals simp (maxDischargeDepth := 8) only [r0, r1, r2, r7, r8, RUN, Ed, knd, kndR, resV, binInt, mnmxV, mnmx2, fillL, unV, lenV, extractV, partV, loadAt, Nat.reduceAdd, Nat.reduceBEq, Nat.reduceEqDiff, Nat.reduceLT, Nat.reduceLeDiff, Nat.reduceMul, Nat.reduceSub, reduceIte, Int.reduceEq, Int.reduceNe, Int.reduceLT, Int.reduceLE, Int.reduceAdd, Int.reduceSub, Int.reduceMul, Int.reduceNeg, Int.reduceMod, Int.reduceDiv, Int.reduceTMod, Int.reduceTDiv, Int.reduceToNat, okChain_i, okLoads_nil, okLoads_in, okLoads_eq]
theorem tail12v (ch s v : Int) (lo hi : Int) (hz : rgS ch = (lo, hi, true)) (p8 : Nat) (ρ : Fr) (F : Heap) (hE : EH all7 F) (r0 : ρ 0 = .int .i64 ch) (r1 : ρ 1 = .int .u8 s) (r2 : ρ 2 = .int .i64 v) (r7 : ρ 7 = .bool true) (r8 : ρ 8 = .pointer (some ⟨p8, 0, none⟩)) (k8 : live F p8 = some ⟨true, 68, [.int .i64 lo, .int .i64 hi]⟩) : Ok (done [.tmp 6] (E Tryd.prog hints v12t ρ F)) := by
  obtain ⟨b1, b2, b3, b4, b5⟩ := rg_bounds ch lo hi hz
  have w1 := wrap64 (hi - lo) (by omega) (by omega)
  have w2 := wrap64 (hi - lo + 1) (by omega) (by omega)
  obtain ⟨q, m1, m2, hq0, hq1⟩ := round_in v (hi - lo + 1) (by omega) (by omega)
  have w3 := wrap64 (lo + q) (by omega) (by omega)
  have hw0 : ¬ (hi - lo + 1 = 0) := by omega
  have i8 := live_lt k8
  have hg : OkS ch (lo + q) := by unfold OkS; rw [hz]; refine ⟨rfl, ?_, ?_⟩ <;> simp only <;> omega
  simp (maxDischargeDepth := 8) only [v12t, c12_8, c12_9, r0, r1, r2, r7, r8, k8, i8, w1, w2, w3, m1, m2, hw0, okChain_all, RUN, Ed, knd, kndR, resV, binInt, mnmxV, mnmx2, fillL, unV, lenV, extractV, partV, loadAt, Nat.reduceAdd, Nat.reduceBEq, Nat.reduceEqDiff, Nat.reduceLT, Nat.reduceLeDiff, Nat.reduceMul, Nat.reduceSub, reduceIte, Int.reduceEq, Int.reduceNe, Int.reduceLT, Int.reduceLE, Int.reduceAdd, Int.reduceSub, Int.reduceMul, Int.reduceNeg, Int.reduceMod, Int.reduceDiv, Int.reduceTMod, Int.reduceTDiv, Int.reduceToNat]
  refine tail12q ch s (lo + q) (by omega) lo hi hz hg p8 _ _ hE ?_ ?_ ?_ ?_ ?_ k8
  all_goals simp (maxDischargeDepth := 8) only [r0, r1, r2, r7, r8, RUN, Ed, knd, kndR, resV, binInt, mnmxV, mnmx2, fillL, unV, lenV, extractV, partV, loadAt, Nat.reduceAdd, Nat.reduceBEq, Nat.reduceEqDiff, Nat.reduceLT, Nat.reduceLeDiff, Nat.reduceMul, Nat.reduceSub, reduceIte, Int.reduceEq, Int.reduceNe, Int.reduceLT, Int.reduceLE, Int.reduceAdd, Int.reduceSub, Int.reduceMul, Int.reduceNeg, Int.reduceMod, Int.reduceDiv, Int.reduceTMod, Int.reduceTDiv, Int.reduceToNat, okChain_i, okLoads_nil, okLoads_in, okLoads_eq]
theorem ch47 (c : Int) : ∃ q : Int, IntKind.i64.wrap (c.tmod 47 + 48) = c.tmod 47 + 48 ∧ IntKind.i64.wrap (c.tmod 47 + 48 - 1) = c.tmod 47 + 48 - 1 ∧ (c.tmod 47 + 48 - 1).tmod 47 = q ∧ 0 ≤ q ∧ q < 47 := by
  have h1 : -47 < c.tmod 47 := Int.lt_tmod_of_pos c (by decide)
  have h2 : c.tmod 47 < 47 := Int.tmod_lt_of_pos c (by decide)
  exact ⟨(c.tmod 47 + 48 - 1) % 47, wrap64 _ (by omega) (by omega), wrap64 _ (by omega) (by omega), Int.tmod_eq_emod_of_nonneg (by omega), by omega, by omega⟩
theorem sback (c s v : Int) (H : Heap) (h : EH all7 H) : Ok (K 12 [.int .i64 c, .int .u8 s, .int .i64 v] H) := by
  obtain ⟨X0, e0⟩ := firstS_f H
  obtain ⟨G, hG⟩ : ∃ G, G = H ++ X0 := ⟨_, rfl⟩
  simp only [K] at e0
  rw [← hG] at e0
  have hE : EH all7 G := by rw [hG]; exact h.more _
  obtain ⟨q, m1, m2, m3, hq0, hq1⟩ := ch47 c
  have w := wrap64 (q + 1) (by omega) (by omega)
  have er := fun G => range_f (q + 1) G
  have hi' : (rgS (q + 1)).2.2 = true := by rw [rg_is]; simp; omega
  obtain ⟨lo, hi, is, hz⟩ : ∃ lo hi is, rgS (q + 1) = (lo, hi, is) := ⟨_, _, _, rfl⟩
  rw [hz] at er hi'
  simp only at hi'
  subst hi'
  simp only [K] at er
  obtain ⟨b1, b2, b3, b4, b5⟩ := rg_bounds (q + 1) lo hi hz
  have hlh : ¬ hi < lo := by omega
  rw [K, D_eq p12 _ _ (Nat.le_of_ble_eq_true rfl)]
  simp (maxDischargeDepth := 8) only [r12, b12t, c12_0, c12_1, c12_2, c12_3, c12_4, c12_5, c12_6, c12_7, e0, m1, m2, m3, w, er, hlh, RUN, Ed, knd, kndR, resV, binInt, mnmxV, mnmx2, fillL, unV, lenV, extractV, partV, loadAt, Nat.reduceAdd, Nat.reduceBEq, Nat.reduceEqDiff, Nat.reduceLT, Nat.reduceLeDiff, Nat.reduceMul, Nat.reduceSub, reduceIte, Int.reduceEq, Int.reduceNe, Int.reduceLT, Int.reduceLE, Int.reduceAdd, Int.reduceSub, Int.reduceMul, Int.reduceNeg, Int.reduceMod, Int.reduceDiv, Int.reduceTMod, Int.reduceTDiv, Int.reduceToNat, okChain_i, okLoads_nil, okLoads_in, okLoads_eq]
  refine tail12v (q + 1) s v lo hi hz (G.length + 2) _ _ (hE.more _) ?_ ?_ ?_ ?_ ?_ ((live_app_add _ _ _).trans rfl)
  all_goals simp (maxDischargeDepth := 8) only [RUN, Ed, knd, kndR, resV, binInt, mnmxV, mnmx2, fillL, unV, lenV, extractV, partV, loadAt, Nat.reduceAdd, Nat.reduceBEq, Nat.reduceEqDiff, Nat.reduceLT, Nat.reduceLeDiff, Nat.reduceMul, Nat.reduceSub, reduceIte, Int.reduceEq, Int.reduceNe, Int.reduceLT, Int.reduceLE, Int.reduceAdd, Int.reduceSub, Int.reduceMul, Int.reduceNeg, Int.reduceMod, Int.reduceDiv, Int.reduceTMod, Int.reduceTDiv, Int.reduceToNat, okChain_i, okLoads_nil, okLoads_in, okLoads_eq]
def sh12 : List Sh := [.int .i64, .int .u8, .int .i64]
theorem sback_law (H : Heap) (h : EH all7 H) (ls : List (List Value)) (o : OpnAll H sh12 ls) : Ok (K 12 (argsS sh12 ls) H) := by
  obtain ⟨l0, _, rfl, h0, o⟩ := o.uncons
  obtain ⟨l1, _, rfl, h1, o⟩ := o.uncons
  obtain ⟨l2, _, rfl, h2, o⟩ := o.uncons
  cases o.unnil
  simp only [Opn] at h0 h1 h2
  obtain ⟨c, rfl, _⟩ := h0
  obtain ⟨s, rfl, _⟩ := h1
  obtain ⟨v, rfl, _⟩ := h2
  exact sback c s v H h
end Go.Proofs.YtdmfedmhcegggaaDoor.Sim
