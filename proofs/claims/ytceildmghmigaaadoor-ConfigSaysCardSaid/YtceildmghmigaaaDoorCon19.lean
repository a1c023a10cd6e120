/- The stage theorem of configurations: the comparison. -/
import Derived.Test.YtceildmghmigaaaDoorCon18
import Derived.Test.YtceildmghmigaaaDoorSim21
namespace Go.Proofs.YtceildmghmigaaaDoor.Sim
open Go
set_option linter.unusedSimpArgs false
set_option linter.unusedVariables false
def t5 : RCode := (.seq (.draw c5_7) .ret)
set_option maxRecDepth 100000 in
theorem draw5 (c : Cf) (hk : c.ok) (l : List Pt) (hl : l.length ≤ 1000) (k : List Fd) (hkl : k.length ≤ 1000) (B : Heap) (hE : EH all7 B) (hps : PS B c.o l) (hfs : FS B c.f k) (cc : Cf) (G : Heap) (hcc : Cd cc G) (hGB : Ext G B) (p4 p10 : Nat) (k4 : live B p4 = some ⟨true, 26, c.L⟩) (k10 : live B p10 = some ⟨true, 26, cc.L⟩) (ρ : Fr) (r4 : ρ 4 = .pointer (some ⟨p4, 0, none⟩)) (r9 : ρ 9 = .bool true) (r10 : ρ 10 = .pointer (some ⟨p10, 0, none⟩)) : Ok (done [.tmp 8] (E Tryd.prog hints t5 ρ B)) := by
  have i4 := live_ltG k4
  have i10 := live_ltG k10
  have x1 := Ext.refl B
  have x2 : ∀ Z, Ext B (B ++ Z) := fun Z => Ext.more B Z
  have x3 : ∀ n b, Ext B (maskOf B n b) := fun n b => Ext.more B _
  obtain ⟨x, hx, hcv⟩ := hcc.cv
  have g0 : 1 ≤ cc.d ∧ cc.d ≤ 200 := by have := hcv.h0; rw [hx]; simp only [cfOf]; omega
  have g1' : 1 ≤ cc.b ∧ cc.b ≤ 200 := by have := hcv.h1; rw [hx]; simp only [cfOf]; omega
  have g2' : 1 ≤ cc.s ∧ cc.s ≤ 200 := by have := hcv.h2; rw [hx]; simp only [cfOf]; omega
  obtain ⟨Y14, f14⟩ := ex_rule (P := Tryd.prog) (hs := hints) (f := 14) (args := [.agg ⟨c.L⟩]) (v := .int .i64 (amS c l k)) (Q := fun F => Ext B F) (fun F hF => by
    obtain ⟨F', e, X, rfl⟩ := ck_f c hk l hl k hkl F (hps.ext hF) (hfs.ext hF)
    exact ⟨X, e⟩)
  obtain ⟨Y11, f11⟩ := ex_rule (P := Tryd.prog) (hs := hints) (f := 11) (args := [.agg ⟨cc.L⟩]) (v := .nilIface) (Q := fun F => Ext B F) (fun F hF => by
    obtain ⟨F', e, X, rfl⟩ := hcc.check (hGB.trans hF)
    exact ⟨X, e⟩)
  have f15 := fun F => boot_f cc hcc.ok g1' g2' F
  have f16 := fun F => boot2_f cc hcc.ok g1' g2' F
  obtain ⟨Y17, f17⟩ := ex_rule (P := Tryd.prog) (hs := hints) (f := 17) (args := [.agg ⟨cc.L⟩]) (v := .int .i64 (bndV cc)) (Q := fun _ => True) (fun F _ => bound_f cc hcc.ok g0 g1' g2' F)
  obtain ⟨Y18, f18⟩ := ex_rule (P := Tryd.prog) (hs := hints) (f := 18) (args := [.agg ⟨cc.L⟩]) (v := .int .i64 (bndV cc)) (Q := fun _ => True) (fun F _ => bound2_f cc hcc.ok g0 g1' g2' F)
  have f17' := fun F => f17 F trivial
  have f18' := fun F => f18 F trivial
  have hge := amS_ge c l k
  obtain ⟨o1, o2, o3, o4⟩ := hk
  obtain ⟨u1, u2, u3, u4⟩ := hcc.ok
  have ha := amissS_f c ⟨o1, o2, o3, o4⟩ l hl k hkl (B ++ [some ⟨true, 26, c.L⟩]) (hE.more _) (hps.ext (Ext.more _ _)) (hfs.ext (Ext.more _ _))
  by_cases hz : amS c l k = 0
  · rw [hz] at ha f14
    obtain ⟨F0, e11, X3, rfl⟩ := check_ok c ⟨o1, o2, o3, o4⟩ B ha
    have f13 := fun F => one0_f F
    obtain ⟨Y12, f12⟩ := ex_rule (P := Tryd.prog) (hs := hints) (f := 12) (args := [.int .i64 0, .int .i64 0]) (v := .agg ⟨[.int .i64 0, .bool false, .int .i64 0]⟩) (Q := fun _ => True) (fun F _ => placed0_f 0 F)
    obtain ⟨Y10, f10⟩ := ex_rule (P := Tryd.prog) (hs := hints) (f := 10) (args := [.nilIface, .agg ⟨[.int .i64 0, .bool false, .int .i64 0]⟩]) (v := .bool true) (Q := fun _ => True) (fun F _ => sameN_f F)
    have f12' := fun F => f12 F trivial
    have f10' := fun F => f10 F trivial
    obtain ⟨d, b, s, p, h, cap, qmin, imax, trip, vmin, vdark, cmin, cmax, cgap, tmax, coil, ohm, sag, amp, drift, o, gen, bat, ext, eland, margin, f⟩ := c
    obtain ⟨d', b', s', p', h', cap', qmin', imax', trip', vmin', vdark', cmin', cmax', cgap', tmax', coil', ohm', sag', amp', drift', o', gen', bat', ext', eland', margin', f'⟩ := cc
    simp only at o1 o2 o3 o4 u1 u2 u3 u4
    simp only [Cf.L] at k4 k10 e11 f14 f11 f15 f16 f17' f18'
    simp (maxDischargeDepth := 8) only [t5, c5_7, r4, r9, r10, k4, k10, i4, i10, o1, o2, o3, o4, u1, u2, u3, u4, e11, f14, f13, f12', f10', f11, f15, f16, f17', f18', x1, x2, x3, fullOf_appG, fullOf_mapG, List.length_map, RUN, Ed, knd, kndR, resV, binInt, mnmxV, mnmx2, fillL, unV, lenV, extractV, partV, loadAt, Nat.reduceAdd, Nat.reduceBEq, Nat.reduceEqDiff, Nat.reduceLT, Nat.reduceLeDiff, Nat.reduceMul, Nat.reduceSub, reduceIte, Int.reduceEq, Int.reduceNe, Int.reduceLT, Int.reduceLE, Int.reduceAdd, Int.reduceSub, Int.reduceMul, Int.reduceNeg, Int.reduceMod, Int.reduceDiv, Int.reduceTMod, Int.reduceTDiv, Int.reduceToNat, okChain_i, okLoads_nil, okLoads_in, okLoads_eq]
    exact Ok.mk _
  · have hn : 0 < amS c l k := by omega
    generalize amS c l k = n at *
    obtain ⟨F0, q, e11, ⟨X3, rfl⟩, kq⟩ := check_at c ⟨o1, o2, o3, o4⟩ n hn B hE ha
    have f13 := fun F => one1_f n hn F
    have f12 := fun F => placed_f 106 n (by decide) F
    obtain ⟨Y10, f10⟩ := ex_rule (P := Tryd.prog) (hs := hints) (f := 10) (args := [AtV q, .agg ⟨[.int .i64 106, .bool true, .int .i64 n]⟩]) (v := .bool true) (Q := fun F => Ext (B ++ X3) F) (fun F hF => by
      have := sameAt_f q n n F (hE.ext ((Ext.more B X3).trans hF)) (hF.live kq)
      rw [decide_eq_true rfl] at this
      exact this)
    have m1 := fun n bs h => mask_ext B X3 3 n bs h
    obtain ⟨d, b, s, p, h, cap, qmin, imax, trip, vmin, vdark, cmin, cmax, cgap, tmax, coil, ohm, sag, amp, drift, o, gen, bat, ext, eland, margin, f⟩ := c
    obtain ⟨d', b', s', p', h', cap', qmin', imax', trip', vmin', vdark', cmin', cmax', cgap', tmax', coil', ohm', sag', amp', drift', o', gen', bat', ext', eland', margin', f'⟩ := cc
    simp only at o1 o2 o3 o4 u1 u2 u3 u4
    simp only [AtV] at e11 f10
    simp only [Cf.L] at k4 k10 e11 f14 f11 f15 f16 f17' f18'
    simp (maxDischargeDepth := 8) only [t5, c5_7, r4, r9, r10, k4, k10, i4, i10, o1, o2, o3, o4, u1, u2, u3, u4, e11, f14, f13, f12, f10, m1, f11, f15, f16, f17', f18', x1, x2, x3, fullOf_appG, fullOf_mapG, List.length_map, RUN, Ed, knd, kndR, resV, binInt, mnmxV, mnmx2, fillL, unV, lenV, extractV, partV, loadAt, Nat.reduceAdd, Nat.reduceBEq, Nat.reduceEqDiff, Nat.reduceLT, Nat.reduceLeDiff, Nat.reduceMul, Nat.reduceSub, reduceIte, Int.reduceEq, Int.reduceNe, Int.reduceLT, Int.reduceLE, Int.reduceAdd, Int.reduceSub, Int.reduceMul, Int.reduceNeg, Int.reduceMod, Int.reduceDiv, Int.reduceTMod, Int.reduceTDiv, Int.reduceToNat, okChain_i, okLoads_nil, okLoads_in, okLoads_eq]
    exact Ok.mk _
end Go.Proofs.YtceildmghmigaaaDoor.Sim
