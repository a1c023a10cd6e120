/- The law of boot and the bound. -/
import Derived.Test.YtceildmghmigaaaDoorCon5
import Derived.Test.YtceildmghmigaaaDoorSim21
namespace Go.Proofs.YtceildmghmigaaaDoor.Sim
open Go
set_option linter.unusedSimpArgs false
set_option linter.unusedVariables false
theorem EH.old {H G : Heap} (h : EH all7 H) (o : ∀ (j : Nat) (b : Blk), live H j = some b → live G j = some b) : EH all7 G := fun i hi ho => by obtain ⟨ty, x⟩ := h i hi ho; exact ⟨ty, o _ _ x⟩
/-- A configuration of the statements, and what is known of it. -/
structure Cd (c : Cf) (G : Heap) : Prop where
  ok : c.ok
  cv : ∃ x, c = cfOf x ∧ CvOk x
  o : PS G c.o l4
  f : ∃ K i, i ≤ 16 ∧ FS G c.f (fdl K i)
theorem config_f (n m k : Int) (H : Heap) (hE : EH all7 H) (hn : -9223372036854775808 ≤ n ∧ n ≤ 9223372036854775807) (hm : -9223372036854775808 ≤ m ∧ m ≤ 9223372036854775807) (hk : -9223372036854775808 ≤ k ∧ k ≤ 9223372036854775807) :
    ∃ (c : Cf) (G : Heap), D Tryd.prog hints 8 [.int .i64 n, .int .i64 m, .int .i64 k] H = some (.agg ⟨c.L⟩, G) ∧ EH all7 G ∧ Cd c G ∧ ∀ (j : Nat) (b : Blk), live H j = some b → live G j = some b := by
  obtain ⟨f, G, e, hfd, hoc, hold⟩ := configG_f n m k H hn hm hk
  simp only [K] at e
  rw [cfgL_eq] at e
  have ho := l4_PS hoc
  have hf := fdl_FS hfd
  refine ⟨cfOf (cvG n m k H.length f), G, e, hE.old hold, ⟨⟨rfl, rfl, hf.one.1, hf.one.2⟩, ⟨_, rfl, cvG_ok n m k _ _⟩, ho, k % 1048576, feedN m, by unfold feedN; omega, hf⟩, hold⟩
theorem Cd.check {c : Cf} {G : Heap} (h : Cd c G) {H : Heap} (e : Ext G H) : ∃ F, D Tryd.prog hints 11 [.agg ⟨c.L⟩] H = some (.nilIface, F) ∧ Ext H F := by
  obtain ⟨_, ⟨x, rfl, hx⟩, ho, K, i, hi, hf⟩ := h
  exact cfg_check x hx K i hi H (ho.ext e) (hf.ext e)
def t6 : RCode := (.seq (.draw c6_11) .ret)
theorem b6t : b6 = (.seq (.region c6_0) (.seq (.region c6_1) (.seq (.seq (.region c6_2) (.cond (.tmp 14) (.seq (.region c6_3) .ret) .skip)) (.seq (.region c6_4) (.seq (.region c6_5) (.seq (.region c6_6) (.seq (.region c6_7) (.seq (.region c6_8) (.seq (.region c6_9) (.seq (.region c6_10) t6)))))))))) := (rfl)
set_option maxRecDepth 100000 in
theorem bounds (n m k : Int) (H : Heap) (hE : EH all7 H) (hn : -9223372036854775808 ≤ n ∧ n ≤ 9223372036854775807) (hm : -9223372036854775808 ≤ m ∧ m ≤ 9223372036854775807) (hk : -9223372036854775808 ≤ k ∧ k ≤ 9223372036854775807) : Ok (D Tryd.prog hints 6 [.int .i64 n, .int .i64 m, .int .i64 k] H) := by
  obtain ⟨X0, e0⟩ := first_f H hE
  obtain ⟨G0, hG0⟩ : ∃ G0, G0 = H ++ X0 := ⟨_, rfl⟩
  rw [← hG0] at e0
  have E0 : EH all7 G0 := hE.ext ⟨_, hG0⟩
  obtain ⟨c, G, e1, E1, hc, _⟩ := config_f n m k G0 E0 hn hm hk
  obtain ⟨hok, ⟨x, hx, hcv⟩, _, _⟩ := hc
  have h0 : 1 ≤ c.d ∧ c.d ≤ 99 := by rw [hx]; exact hcv.h0
  have h1 : 1 ≤ c.b ∧ c.b ≤ 99 := by rw [hx]; exact hcv.h1
  have h2 : 1 ≤ c.s ∧ c.s ≤ 99 := by rw [hx]; exact hcv.h2
  clear hx
  have w0 := wrap64 (c.d + 1) (by omega) (by omega)
  have w1 := wrap64 (c.b + 1) (by omega) (by omega)
  have w2 := wrap64 (c.s + 1) (by omega) (by omega)
  have w3 := wrap64 (c.b + c.s) (by omega) (by omega)
  obtain ⟨d, b, s, p, h, cap, qmin, imax, trip, vmin, vdark, cmin, cmax, cgap, tmax, coil, ohm, sag, amp, drift, o, gen, bat, ext, eland, margin, f⟩ := c
  simp only at h0 h1 h2 w0 w1 w2 w3
  obtain ⟨o1, o2, f1, f2⟩ := hok
  have eb := fun F => boot_f ⟨d, b, s, p, h, cap, qmin, imax, trip, vmin, vdark, cmin, cmax, cgap, tmax, coil, ohm, sag, amp, drift, o, gen, bat, ext, eland, margin, f⟩ ⟨o1, o2, f1, f2⟩ (by simp only; omega) (by simp only; omega) F
  obtain ⟨Y0, q0⟩ := ex_rule (P := Tryd.prog) (hs := hints) (f := 17) (args := [.agg ⟨(⟨d, b, s, p, h, cap, qmin, imax, trip, vmin, vdark, cmin, cmax, cgap, tmax, coil, ohm, sag, amp, drift, o, gen, bat, ext, eland, margin, f⟩ : Cf).L⟩]) (v := .int .i64 (b + s + 6 * (b + s) + 6 * (d + 2))) (Q := fun _ => True) (fun F _ => bound_f ⟨d, b, s, p, h, cap, qmin, imax, trip, vmin, vdark, cmin, cmax, cgap, tmax, coil, ohm, sag, amp, drift, o, gen, bat, ext, eland, margin, f⟩ ⟨o1, o2, f1, f2⟩ (by simp only; omega) (by simp only; omega) (by simp only; omega) F)
  obtain ⟨Y1, q1⟩ := ex_rule (P := Tryd.prog) (hs := hints) (f := 17) (args := [.agg ⟨(⟨d + 1, b, s, p, h, cap, qmin, imax, trip, vmin, vdark, cmin, cmax, cgap, tmax, coil, ohm, sag, amp, drift, o, gen, bat, ext, eland, margin, f⟩ : Cf).L⟩]) (v := .int .i64 (b + s + 6 * (b + s) + 6 * (d + 1 + 2))) (Q := fun _ => True) (fun F _ => bound_f ⟨d + 1, b, s, p, h, cap, qmin, imax, trip, vmin, vdark, cmin, cmax, cgap, tmax, coil, ohm, sag, amp, drift, o, gen, bat, ext, eland, margin, f⟩ ⟨o1, o2, f1, f2⟩ (by simp only; omega) (by simp only; omega) (by simp only; omega) F)
  obtain ⟨Y2, q2⟩ := ex_rule (P := Tryd.prog) (hs := hints) (f := 17) (args := [.agg ⟨(⟨d, b + 1, s, p, h, cap, qmin, imax, trip, vmin, vdark, cmin, cmax, cgap, tmax, coil, ohm, sag, amp, drift, o, gen, bat, ext, eland, margin, f⟩ : Cf).L⟩]) (v := .int .i64 (b + 1 + s + 6 * (b + 1 + s) + 6 * (d + 2))) (Q := fun _ => True) (fun F _ => bound_f ⟨d, b + 1, s, p, h, cap, qmin, imax, trip, vmin, vdark, cmin, cmax, cgap, tmax, coil, ohm, sag, amp, drift, o, gen, bat, ext, eland, margin, f⟩ ⟨o1, o2, f1, f2⟩ (by simp only; omega) (by simp only; omega) (by simp only; omega) F)
  obtain ⟨Y3, q3⟩ := ex_rule (P := Tryd.prog) (hs := hints) (f := 17) (args := [.agg ⟨(⟨d, b, s + 1, p, h, cap, qmin, imax, trip, vmin, vdark, cmin, cmax, cgap, tmax, coil, ohm, sag, amp, drift, o, gen, bat, ext, eland, margin, f⟩ : Cf).L⟩]) (v := .int .i64 (b + (s + 1) + 6 * (b + (s + 1)) + 6 * (d + 2))) (Q := fun _ => True) (fun F _ => bound_f ⟨d, b, s + 1, p, h, cap, qmin, imax, trip, vmin, vdark, cmin, cmax, cgap, tmax, coil, ohm, sag, amp, drift, o, gen, bat, ext, eland, margin, f⟩ ⟨o1, o2, f1, f2⟩ (by simp only; omega) (by simp only; omega) (by simp only; omega) F)
  have q0' := fun F => q0 F trivial
  have q1' := fun F => q1 F trivial
  have q2' := fun F => q2 F trivial
  have q3' := fun F => q3 F trivial
  clear q0 q1 q2 q3
  obtain ⟨V, hV⟩ : ∃ V, V = b + s + 6 * (b + s) + 6 * (d + 2) := ⟨_, rfl⟩
  rw [← hV] at q0'
  rw [show b + s + 6 * (b + s) + 6 * (d + 1 + 2) = V + 6 by omega] at q1'
  rw [show b + 1 + s + 6 * (b + 1 + s) + 6 * (d + 2) = V + 7 by omega] at q2'
  rw [show b + (s + 1) + 6 * (b + (s + 1)) + 6 * (d + 2) = V + 7 by omega] at q3'
  have w6 := wrap64 (V + 6) (by omega) (by omega)
  have w7 := wrap64 (V + 7) (by omega) (by omega)
  have hgt : b + s < V := by omega
  simp only at o1 o2 f1 f2
  obtain ⟨G4, hG4⟩ : ∃ G4, G4 = G ++ [some ⟨true, 26, (⟨d, b, s, p, h, cap, qmin, imax, trip, vmin, vdark, cmin, cmax, cgap, tmax, coil, ohm, sag, amp, drift, o, gen, bat, ext, eland, margin, f⟩ : Cf).L⟩, some ⟨true, 26, (⟨d + 1, b, s, p, h, cap, qmin, imax, trip, vmin, vdark, cmin, cmax, cgap, tmax, coil, ohm, sag, amp, drift, o, gen, bat, ext, eland, margin, f⟩ : Cf).L⟩, some ⟨true, 26, (⟨d, b + 1, s, p, h, cap, qmin, imax, trip, vmin, vdark, cmin, cmax, cgap, tmax, coil, ohm, sag, amp, drift, o, gen, bat, ext, eland, margin, f⟩ : Cf).L⟩, some ⟨true, 26, (⟨d, b, s + 1, p, h, cap, qmin, imax, trip, vmin, vdark, cmin, cmax, cgap, tmax, coil, ohm, sag, amp, drift, o, gen, bat, ext, eland, margin, f⟩ : Cf).L⟩] := ⟨_, rfl⟩
  have k0 := (live_app_len G [some ⟨true, 26, (⟨d, b, s, p, h, cap, qmin, imax, trip, vmin, vdark, cmin, cmax, cgap, tmax, coil, ohm, sag, amp, drift, o, gen, bat, ext, eland, margin, f⟩ : Cf).L⟩, some ⟨true, 26, (⟨d + 1, b, s, p, h, cap, qmin, imax, trip, vmin, vdark, cmin, cmax, cgap, tmax, coil, ohm, sag, amp, drift, o, gen, bat, ext, eland, margin, f⟩ : Cf).L⟩, some ⟨true, 26, (⟨d, b + 1, s, p, h, cap, qmin, imax, trip, vmin, vdark, cmin, cmax, cgap, tmax, coil, ohm, sag, amp, drift, o, gen, bat, ext, eland, margin, f⟩ : Cf).L⟩, some ⟨true, 26, (⟨d, b, s + 1, p, h, cap, qmin, imax, trip, vmin, vdark, cmin, cmax, cgap, tmax, coil, ohm, sag, amp, drift, o, gen, bat, ext, eland, margin, f⟩ : Cf).L⟩])
  rw [← hG4] at k0
  have k0' : live G4 G.length = some ⟨true, 26, (⟨d, b, s, p, h, cap, qmin, imax, trip, vmin, vdark, cmin, cmax, cgap, tmax, coil, ohm, sag, amp, drift, o, gen, bat, ext, eland, margin, f⟩ : Cf).L⟩ := k0
  have k1 : live G4 (G.length + 1) = some ⟨true, 26, (⟨d + 1, b, s, p, h, cap, qmin, imax, trip, vmin, vdark, cmin, cmax, cgap, tmax, coil, ohm, sag, amp, drift, o, gen, bat, ext, eland, margin, f⟩ : Cf).L⟩ := by rw [hG4]; exact (live_app_add _ _ _).trans rfl
  have k2 : live G4 (G.length + 2) = some ⟨true, 26, (⟨d, b + 1, s, p, h, cap, qmin, imax, trip, vmin, vdark, cmin, cmax, cgap, tmax, coil, ohm, sag, amp, drift, o, gen, bat, ext, eland, margin, f⟩ : Cf).L⟩ := by rw [hG4]; exact (live_app_add _ _ _).trans rfl
  have k3 : live G4 (G.length + 3) = some ⟨true, 26, (⟨d, b, s + 1, p, h, cap, qmin, imax, trip, vmin, vdark, cmin, cmax, cgap, tmax, coil, ohm, sag, amp, drift, o, gen, bat, ext, eland, margin, f⟩ : Cf).L⟩ := by rw [hG4]; exact (live_app_add _ _ _).trans rfl
  clear k0
  have i0 := live_ltG k0'
  have i1 := live_ltG k1
  have i2 := live_ltG k2
  have i3 := live_ltG k3
  simp only [Cf.L] at e1 eb q0' q1' q2' q3' hG4 k0' k1 k2 k3
  have key : ∀ ρ F, F = G4 → ρ 7 = .bool true → ρ 8 = .pointer (some ⟨G.length, 0, none⟩) → ρ 9 = .pointer (some ⟨G.length + 1, 0, none⟩) → ρ 10 = .pointer (some ⟨G.length + 2, 0, none⟩) → ρ 11 = .pointer (some ⟨G.length + 3, 0, none⟩) → Ok (done [.tmp 6] (E Tryd.prog hints t6 ρ F)) := by
    intro ρ F hF r7 r8 r9 r10 r11
    subst hF
    simp (maxDischargeDepth := 8) only [t6, c6_11, r7, r8, r9, r10, r11, k0', k1, k2, k3, i0, i1, i2, i3, eb, q0', q1', q2', q3', w3, w6, w7, hgt, fullOf_appG, fullOf_mapG, List.length_map, RUN, Ed, knd, kndR, resV, binInt, mnmxV, mnmx2, fillL, unV, lenV, extractV, partV, loadAt, Nat.reduceAdd, Nat.reduceBEq, Nat.reduceEqDiff, Nat.reduceLT, Nat.reduceLeDiff, Nat.reduceMul, Nat.reduceSub, reduceIte, Int.reduceEq, Int.reduceNe, Int.reduceLT, Int.reduceLE, Int.reduceAdd, Int.reduceSub, Int.reduceMul, Int.reduceNeg, Int.reduceMod, Int.reduceDiv, Int.reduceTMod, Int.reduceTDiv, Int.reduceToNat, okChain_i, okLoads_nil, okLoads_in, okLoads_eq]
    exact Ok.mk _
  rw [D_eq p6 _ _ (Nat.le_of_ble_eq_true rfl)]
  simp (maxDischargeDepth := 8) only [r6, b6t, c6_0, c6_1, c6_2, c6_3, c6_4, c6_5, c6_6, c6_7, c6_8, c6_9, c6_10, o1, o2, f1, f2, e0, e1, w0, w1, w2, RUN, Ed, knd, kndR, resV, binInt, mnmxV, mnmx2, fillL, unV, lenV, extractV, partV, loadAt, Nat.reduceAdd, Nat.reduceBEq, Nat.reduceEqDiff, Nat.reduceLT, Nat.reduceLeDiff, Nat.reduceMul, Nat.reduceSub, reduceIte, Int.reduceEq, Int.reduceNe, Int.reduceLT, Int.reduceLE, Int.reduceAdd, Int.reduceSub, Int.reduceMul, Int.reduceNeg, Int.reduceMod, Int.reduceDiv, Int.reduceTMod, Int.reduceTDiv, Int.reduceToNat, okChain_i, okLoads_nil, okLoads_in, okLoads_eq]
  refine key _ _ hG4.symm ?_ ?_ ?_ ?_ ?_
  all_goals first | (simp (maxDischargeDepth := 8) only [RUN, Ed, knd, kndR, resV, binInt, mnmxV, mnmx2, fillL, unV, lenV, extractV, partV, loadAt, Nat.reduceAdd, Nat.reduceBEq, Nat.reduceEqDiff, Nat.reduceLT, Nat.reduceLeDiff, Nat.reduceMul, Nat.reduceSub, reduceIte, Int.reduceEq, Int.reduceNe, Int.reduceLT, Int.reduceLE, Int.reduceAdd, Int.reduceSub, Int.reduceMul, Int.reduceNeg, Int.reduceMod, Int.reduceDiv, Int.reduceTMod, Int.reduceTDiv, Int.reduceToNat, okChain_i, okLoads_nil, okLoads_in, okLoads_eq]; done) | (simp (maxDischargeDepth := 8) only [RUN, Ed, knd, kndR, resV, binInt, mnmxV, mnmx2, fillL, unV, lenV, extractV, partV, loadAt, Nat.reduceAdd, Nat.reduceBEq, Nat.reduceEqDiff, Nat.reduceLT, Nat.reduceLeDiff, Nat.reduceMul, Nat.reduceSub, reduceIte, Int.reduceEq, Int.reduceNe, Int.reduceLT, Int.reduceLE, Int.reduceAdd, Int.reduceSub, Int.reduceMul, Int.reduceNeg, Int.reduceMod, Int.reduceDiv, Int.reduceTMod, Int.reduceTDiv, Int.reduceToNat, okChain_i, okLoads_nil, okLoads_in, okLoads_eq]; rfl)
def sh6 : List Sh := [.int .i64, .int .i64, .int .i64]
theorem wfi64 {n : Int} (h : (Lit.int .i64 n).wf = true) : -9223372036854775808 ≤ n ∧ n ≤ 9223372036854775807 := by
  simp [Lit.wf, IntKind.min, IntKind.max, IntKind.bits, IntKind.signed] at h
  omega
theorem bounds_law (H : Heap) (h : EH all7 H) (ls : List (List Value)) (o : OpnAll H sh6 ls) : Ok (D Tryd.prog hints 6 (argsS sh6 ls) H) := by
  obtain ⟨l0, _, rfl, h0, o⟩ := o.uncons
  obtain ⟨l1, _, rfl, h1, o⟩ := o.uncons
  obtain ⟨l2, _, rfl, h2, o⟩ := o.uncons
  cases o.unnil
  simp only [Opn.eq_1] at h0 h1 h2
  obtain ⟨a, rfl, ha⟩ := h0
  obtain ⟨b, rfl, hb⟩ := h1
  obtain ⟨c, rfl, hc⟩ := h2
  exact bounds a b c H h (wfi64 ha) (wfi64 hb) (wfi64 hc)
end Go.Proofs.YtceildmghmigaaaDoor.Sim
