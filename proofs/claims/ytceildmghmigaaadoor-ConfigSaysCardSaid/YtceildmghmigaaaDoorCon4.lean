/- What is amiss with a configuration, over the plain heap. -/
import Derived.Test.YtceildmghmigaaaDoorCon3
import Derived.Test.YtceildmghmigaaaDoorSim21
namespace Go.Proofs.YtceildmghmigaaaDoor.Sim
open Go
set_option linter.unusedSimpArgs false
set_option linter.unusedVariables false
/-- A configuration's slices are slices. -/
structure Cf.ok (c : Cf) : Prop where
  o1 : c.o.oneCell' = true
  o2 : c.o.cells.toList = [c.o]
  f1 : c.f.oneCell' = true
  f2 : c.f.cells.toList = [c.f]
set_option maxRecDepth 100000 in
theorem amiss_bad (c : Cf) (hk : c.ok) (j : Nat) (hj : fbk 0 (bds c) = some j) (hj2 : j < 100) (H : Heap) : ∃ F, D Tryd.prog hints 21 [.agg ⟨c.L⟩] H = some (.int .i64 (1 + j : Nat), F) ∧ Ext H F := by
  obtain ⟨H1, hH1⟩ : ∃ H1, H1 = H ++ [some ⟨true, 26, c.L⟩] := ⟨_, rfl⟩
  have x1 : Ext H H1 := ⟨_, hH1⟩
  have k1 : live H1 H.length = some ⟨true, 26, c.L⟩ := by rw [hH1]; exact (live_app_len _ _).trans rfl
  have i1 := live_ltG k1
  obtain ⟨v, F1, e1, y1, hv⟩ := bounds_f c hk.o1 hk.o2 hk.f1 hk.f2 H1
  obtain ⟨F2, e2, y2⟩ := all_f F1 v (bds c) (by unfold bds; simp) hv
  have hN : fbN (bds c) = (j : Int) := by unfold fbN; rw [hj]
  rw [hN, hj] at e2
  have hs : (some j).isNone = false := rfl
  rw [hs] at e2
  have w1 : IntKind.i64.wrap (1 + (j : Int)) = ((1 + j : Nat) : Int) := by rw [wrap64 _ (by omega) (by omega)]; omega
  refine ⟨F2, ?_, (x1.trans y1).trans y2⟩
  obtain ⟨o1, o2, f1, f2⟩ := hk
  obtain ⟨d, b, s, p, h, cap, qmin, imax, trip, vmin, vdark, cmin, cmax, cgap, tmax, coil, ohm, sag, amp, drift, o, gen, bat, ext, eland, margin, f⟩ := c
  simp only at o1 o2 f1 f2
  simp only [Cf.L] at hH1 k1 e1
  rw [D_eq p21 _ _ (Nat.le_of_ble_eq_true rfl)]
  simp (maxDischargeDepth := 8) only [r21, b21, c21_0, c21_1, c21_2, c21_3, Cf.L, o1, o2, f1, f2, ← hH1, k1, i1, e1, e2, w1, RUN, Ed, knd, kndR, resV, binInt, mnmxV, mnmx2, fillL, unV, lenV, extractV, partV, loadAt, Nat.reduceAdd, Nat.reduceBEq, Nat.reduceEqDiff, Nat.reduceLT, Nat.reduceLeDiff, Nat.reduceMul, Nat.reduceSub, reduceIte, Int.reduceEq, Int.reduceNe, Int.reduceLT, Int.reduceLE, Int.reduceAdd, Int.reduceSub, Int.reduceMul, Int.reduceNeg, Int.reduceMod, Int.reduceDiv, Int.reduceTMod, Int.reduceTDiv, Int.reduceToNat, okChain_i, okLoads_nil, okLoads_in, okLoads_eq]
def fbNo (o : Option Nat) : Int := match o with | none => 0 | some j => j
/-- What comes behind the numbers. -/
def amR (c : Cf) (x y : Int) (k : List Fd) : Int := if x ≠ 0 then 21 else if y ≠ c.cap then 21 else match fbk 0 (eds c) with
  | some j => (22 + j : Nat)
  | none => if (∀ z ∈ k, okF z) ∧ k.length ≤ 16 then 0 else 27
theorem fbk_lt : ∀ (l : List Bd) (k j : Nat), fbk k l = some j → j < k + l.length := by
  intro l
  induction l with
  | nil => intro k j h; cases h
  | cons x l ih =>
    intro k j h
    unfold fbk at h
    split at h
    · have := ih (k + 1) j h; simp; omega
    · injection h with h; simp; omega
set_option maxRecDepth 100000 in
theorem amiss_tab (c : Cf) (hk : c.ok) (hb : fbk 0 (bds c) = none) (l : List Pt) (ht : Tab l) (x y : Pt) (hx : l[0]? = some x) (hy : l[l.length - 1]? = some y) (k : List Fd) (hkl : k.length ≤ 1000) (H : Heap) (hv : PS H c.o l) (hf : FS H c.f k) : ∃ F, D Tryd.prog hints 21 [.agg ⟨c.L⟩] H = some (.int .i64 (amR c x.1 y.1 k), F) ∧ Ext H F := by
  obtain ⟨H1, hH1⟩ : ∃ H1, H1 = H ++ [some ⟨true, 26, c.L⟩] := ⟨_, rfl⟩
  have x1 : Ext H H1 := ⟨_, hH1⟩
  have k1 : live H1 H.length = some ⟨true, 26, c.L⟩ := by rw [hH1]; exact (live_app_len _ _).trans rfl
  have i1 := live_ltG k1
  obtain ⟨v, F1, e1, y1, hv1⟩ := bounds_f c hk.o1 hk.o2 hk.f1 hk.f2 H1
  obtain ⟨F2, e2, y2⟩ := all_f F1 v (bds c) (by unfold bds; simp) hv1
  have hN : fbN (bds c) = 0 := by unfold fbN; rw [hb]
  have hs : (none : Option Nat).isNone = true := rfl
  rw [hN, hb, hs] at e2
  have z2 := (x1.trans y1).trans y2
  have k2 := (y1.trans y2).live k1
  have i2 := live_ltG k2
  have hv2 := hv.ext z2
  obtain ⟨X, e3⟩ := table_f F2 c.o l ht hv2
  obtain ⟨F3, hF3⟩ : ∃ F3, F3 = F2 ++ X := ⟨_, rfl⟩
  have y3 : Ext F2 F3 := ⟨_, hF3⟩
  obtain ⟨a1, u1, ow1, ty1, cl1, u2, u3, u4, u5, u6⟩ := hv2.idx hx
  obtain ⟨a2, v1, ow2, ty2, cl2, v2, v3, v4, v5, v6⟩ := hv2.idx hy
  have j1 := live_ltG u2
  have j2 := live_ltG v2
  have u1' : idxSV 2 c.o (.int .i64 0) = some (.pointer (some ⟨a1, 0, none⟩)) := u1
  have u5' : cl1[0]? = some (.int .i64 x.1) := by simpa using u5
  have ll := hv2.len
  have wl : IntKind.i64.wrap ((l.length : Int) - 1) = ((l.length - 1 : Nat) : Int) := by
    have := ht.two
    have := ht.few
    rw [wrap64 _ (by omega) (by omega)]; omega
  generalize l.length - 1 = n1 at *
  have k3 := y3.live k2
  have i3 := live_ltG k3
  obtain ⟨v', F4, e4, y4, hv4⟩ := ends_f c F3
  obtain ⟨F5, e5, y5⟩ := all_f F4 v' (eds c) (by unfold eds; simp) hv4
  have k5 := (y4.trans y5).live k3
  have i5 := live_ltG k5
  obtain ⟨F6, e6, y6⟩ := feeders_f F5 c.f k hkl (((hf.ext z2).ext y3).ext (y4.trans y5))
  have k2' := fun Z => (Ext.more F2 Z).live k2
  have hzX : Ext H F3 := z2.trans y3
  have hcap : c.L[5]? = some (.int .i64 c.cap) := rfl
  unfold amR
  obtain ⟨o1, o2, f1, f2⟩ := hk
  have hfb : fbN (eds c) = fbNo (fbk 0 (eds c)) := rfl
  generalize hed : fbk 0 (eds c) = ed at *
  generalize fbN (eds c) = fe at *
  have hlt : ∀ j, ed = some j → j < 5 := fun j h => by
    have := fbk_lt (eds c) 0 j (by rw [hed, h])
    simpa [eds] using this
  obtain ⟨d, b, s, p, h, cap, qmin, imax, trip, vmin, vdark, cmin, cmax, cgap, tmax, coil, ohm, sag, amp, drift, o, gen, bat, ext, eland, margin, f⟩ := c
  simp only at o1 o2 f1 f2 e3 e6 u1' v1 ll
  simp only [Cf.L] at hH1 k1 e1 k2 k2' k3 k5 e4
  have q21 : ∀ (r : Option (Value × Heap)), done r21.res (E Tryd.prog hints r21.body (frame0 [.agg ⟨(⟨d, b, s, p, h, cap, qmin, imax, trip, vmin, vdark, cmin, cmax, cgap, tmax, coil, ohm, sag, amp, drift, o, gen, bat, ext, eland, margin, f⟩ : Cf).L⟩]) H) = r → D Tryd.prog hints 21 [.agg ⟨(⟨d, b, s, p, h, cap, qmin, imax, trip, vmin, vdark, cmin, cmax, cgap, tmax, coil, ohm, sag, amp, drift, o, gen, bat, ext, eland, margin, f⟩ : Cf).L⟩] H = r := fun r h => (D_eq p21 _ _ (Nat.le_of_ble_eq_true rfl)).trans h
  by_cases c1 : x.1 = 0
  case neg =>
    rw [if_pos c1]
    refine ⟨F3, q21 _ ?_, hzX⟩
    have hd : decide (x.1 = 0) = false := by simpa using c1
    simp (maxDischargeDepth := 8) only [r21, b21, c21_0, c21_1, c21_2, c21_3, c21_4, c21_5, c21_6, Cf.L, o1, o2, f1, f2, ← hH1, k1, i1, e1, e2, k2, i2, k2', e3, u1', u2, u5', j1, c1, fullOf_appG, fullOf_mapG, List.length_map, RUN, Ed, knd, kndR, resV, binInt, mnmxV, mnmx2, fillL, unV, lenV, extractV, partV, loadAt, Nat.reduceAdd, Nat.reduceBEq, Nat.reduceEqDiff, Nat.reduceLT, Nat.reduceLeDiff, Nat.reduceMul, Nat.reduceSub, reduceIte, Int.reduceEq, Int.reduceNe, Int.reduceLT, Int.reduceLE, Int.reduceAdd, Int.reduceSub, Int.reduceMul, Int.reduceNeg, Int.reduceMod, Int.reduceDiv, Int.reduceTMod, Int.reduceTDiv, Int.reduceToNat, okChain_i, okLoads_nil, okLoads_in, okLoads_eq]
    rw [hF3]
  rw [if_neg (by simpa using c1)]
  by_cases c2 : y.1 = cap
  case neg =>
    rw [if_pos c2]
    refine ⟨F3, q21 _ ?_, hzX⟩
    simp (maxDischargeDepth := 8) only [r21, b21, c21_0, c21_1, c21_2, c21_3, c21_4, c21_5, c21_6, Cf.L, o1, o2, f1, f2, ← hH1, k1, i1, e1, e2, k2, i2, k2', e3, u1', u2, u5', j1, c1, ll, wl, v1, v2, v5, j2, c2, fullOf_appG, fullOf_mapG, List.length_map, RUN, Ed, knd, kndR, resV, binInt, mnmxV, mnmx2, fillL, unV, extractV, partV, loadAt, Nat.reduceAdd, Nat.reduceBEq, Nat.reduceEqDiff, Nat.reduceLT, Nat.reduceLeDiff, Nat.reduceMul, Nat.reduceSub, reduceIte, Int.reduceEq, Int.reduceNe, Int.reduceLT, Int.reduceLE, Int.reduceAdd, Int.reduceSub, Int.reduceMul, Int.reduceNeg, Int.reduceMod, Int.reduceDiv, Int.reduceTMod, Int.reduceTDiv, Int.reduceToNat, okChain_i, okLoads_nil, okLoads_in, okLoads_eq]
    rw [hF3]
  rw [if_neg (by simpa using c2)]
  rw [hF3] at k3 i3 e4
  cases ed with
  | some j =>
    have hfb : fe = (j : Int) := hfb
    subst hfb
    have hj := hlt j rfl
    have hs2 : (some j).isNone = false := rfl
    rw [hs2] at e5
    have w1 : IntKind.i64.wrap (22 + (j : Int)) = ((22 + j : Nat) : Int) := by rw [wrap64 _ (by omega) (by omega)]; omega
    simp only
    refine ⟨F5, q21 _ ?_, (hzX.trans y4).trans y5⟩
    simp (maxDischargeDepth := 8) only [r21, b21, c21_0, c21_1, c21_2, c21_3, c21_4, c21_5, c21_6, c21_7, c21_8, c21_9, Cf.L, o1, o2, f1, f2, ← hH1, k1, i1, e1, e2, k2, i2, k2', e3, u1', u2, u5', j1, c1, ll, wl, v1, v2, v5, j2, c2, k3, i3, e4, e5, w1, fullOf_appG, fullOf_mapG, List.length_map, RUN, Ed, knd, kndR, resV, binInt, mnmxV, mnmx2, fillL, unV, extractV, partV, loadAt, Nat.reduceAdd, Nat.reduceBEq, Nat.reduceEqDiff, Nat.reduceLT, Nat.reduceLeDiff, Nat.reduceMul, Nat.reduceSub, reduceIte, Int.reduceEq, Int.reduceNe, Int.reduceLT, Int.reduceLE, Int.reduceAdd, Int.reduceSub, Int.reduceMul, Int.reduceNeg, Int.reduceMod, Int.reduceDiv, Int.reduceTMod, Int.reduceTDiv, Int.reduceToNat, okChain_i, okLoads_nil, okLoads_in, okLoads_eq]
  | none =>
    have hfb : fe = 0 := hfb
    subst hfb
    rw [hs] at e5
    by_cases c3 : (∀ z ∈ k, okF z) ∧ k.length ≤ 16
    · rw [decide_eq_true c3] at e6
      simp only
      rw [if_pos c3]
      refine ⟨F6, q21 _ ?_, ((hzX.trans y4).trans y5).trans y6⟩
      simp (maxDischargeDepth := 8) only [r21, b21, c21_0, c21_1, c21_2, c21_3, c21_4, c21_5, c21_6, c21_7, c21_8, c21_9, c21_10, c21_11, c21_12, Cf.L, o1, o2, f1, f2, ← hH1, k1, i1, e1, e2, k2, i2, k2', e3, u1', u2, u5', j1, c1, ll, wl, v1, v2, v5, j2, c2, k3, i3, e4, e5, k5, i5, e6, fullOf_appG, fullOf_mapG, List.length_map, RUN, Ed, knd, kndR, resV, binInt, mnmxV, mnmx2, fillL, unV, extractV, partV, loadAt, Nat.reduceAdd, Nat.reduceBEq, Nat.reduceEqDiff, Nat.reduceLT, Nat.reduceLeDiff, Nat.reduceMul, Nat.reduceSub, reduceIte, Int.reduceEq, Int.reduceNe, Int.reduceLT, Int.reduceLE, Int.reduceAdd, Int.reduceSub, Int.reduceMul, Int.reduceNeg, Int.reduceMod, Int.reduceDiv, Int.reduceTMod, Int.reduceTDiv, Int.reduceToNat, okChain_i, okLoads_nil, okLoads_in, okLoads_eq]
    · rw [decide_eq_false c3] at e6
      simp only
      rw [if_neg c3]
      refine ⟨F6, q21 _ ?_, ((hzX.trans y4).trans y5).trans y6⟩
      simp (maxDischargeDepth := 8) only [r21, b21, c21_0, c21_1, c21_2, c21_3, c21_4, c21_5, c21_6, c21_7, c21_8, c21_9, c21_10, c21_11, c21_12, Cf.L, o1, o2, f1, f2, ← hH1, k1, i1, e1, e2, k2, i2, k2', e3, u1', u2, u5', j1, c1, ll, wl, v1, v2, v5, j2, c2, k3, i3, e4, e5, k5, i5, e6, fullOf_appG, fullOf_mapG, List.length_map, RUN, Ed, knd, kndR, resV, binInt, mnmxV, mnmx2, fillL, unV, extractV, partV, loadAt, Nat.reduceAdd, Nat.reduceBEq, Nat.reduceEqDiff, Nat.reduceLT, Nat.reduceLeDiff, Nat.reduceMul, Nat.reduceSub, reduceIte, Int.reduceEq, Int.reduceNe, Int.reduceLT, Int.reduceLE, Int.reduceAdd, Int.reduceSub, Int.reduceMul, Int.reduceNeg, Int.reduceMod, Int.reduceDiv, Int.reduceTMod, Int.reduceTDiv, Int.reduceToNat, okChain_i, okLoads_nil, okLoads_in, okLoads_eq]
set_option maxRecDepth 100000 in
theorem check_at (c : Cf) (hk : c.ok) (n : Int) (hn : 0 < n) (H : Heap) (hE : EH all7 H) (ha : ∃ F, D Tryd.prog hints 21 [.agg ⟨c.L⟩] (H ++ [some ⟨true, 26, c.L⟩]) = some (.int .i64 n, F) ∧ Ext (H ++ [some ⟨true, 26, c.L⟩]) F) : ∃ F p, D Tryd.prog hints 11 [.agg ⟨c.L⟩] H = some (AtV p, F) ∧ Ext H F ∧ live F p = some ⟨true, 51, [.int .i64 n, Err 5]⟩ := by
  obtain ⟨F, e1, y1⟩ := ha
  obtain ⟨H1, hH1⟩ : ∃ H1, H1 = H ++ [some ⟨true, 26, c.L⟩] := ⟨_, rfl⟩
  have x1 : Ext H H1 := ⟨_, hH1⟩
  have k1 : live H1 H.length = some ⟨true, 26, c.L⟩ := by rw [hH1]; exact (live_app_len _ _).trans rfl
  have i1 := live_ltG k1
  rw [← hH1] at e1 y1
  obtain ⟨t5, r5⟩ := (hE.ext (x1.trans y1)) 5 (by omega) rfl
  have j5 := live_ltG r5
  refine ⟨F ++ [some ⟨true, 51, [.int .i64 n, Err 5]⟩], F.length, ?_, (x1.trans y1).app _, (live_app_len _ _).trans rfl⟩
  obtain ⟨o1, o2, f1, f2⟩ := hk
  obtain ⟨d, b, s, p, h, cap, qmin, imax, trip, vmin, vdark, cmin, cmax, cgap, tmax, coil, ohm, sag, amp, drift, o, gen, bat, ext, eland, margin, f⟩ := c
  simp only at o1 o2 f1 f2
  simp only [Cf.L] at hH1 k1 e1
  rw [D_eq p11 _ _ (Nat.le_of_ble_eq_true rfl)]
  simp (maxDischargeDepth := 8) only [r11, b11, c11_0, c11_1, c11_2, c11_3, c11_4, Cf.L, o1, o2, f1, f2, ← hH1, k1, i1, e1, hn, r5, j5, g0, one_E, cells_E, AtV, RUN, Ed, knd, kndR, resV, binInt, mnmxV, mnmx2, fillL, unV, lenV, extractV, partV, loadAt, Nat.reduceAdd, Nat.reduceBEq, Nat.reduceEqDiff, Nat.reduceLT, Nat.reduceLeDiff, Nat.reduceMul, Nat.reduceSub, reduceIte, Int.reduceEq, Int.reduceNe, Int.reduceLT, Int.reduceLE, Int.reduceAdd, Int.reduceSub, Int.reduceMul, Int.reduceNeg, Int.reduceMod, Int.reduceDiv, Int.reduceTMod, Int.reduceTDiv, Int.reduceToNat, okChain_i, okLoads_nil, okLoads_in, okLoads_eq]
set_option maxRecDepth 100000 in
theorem check_ok (c : Cf) (hk : c.ok) (H : Heap) (ha : ∃ F, D Tryd.prog hints 21 [.agg ⟨c.L⟩] (H ++ [some ⟨true, 26, c.L⟩]) = some (.int .i64 0, F) ∧ Ext (H ++ [some ⟨true, 26, c.L⟩]) F) : ∃ F, D Tryd.prog hints 11 [.agg ⟨c.L⟩] H = some (.nilIface, F) ∧ Ext H F := by
  obtain ⟨F, e1, y1⟩ := ha
  obtain ⟨H1, hH1⟩ : ∃ H1, H1 = H ++ [some ⟨true, 26, c.L⟩] := ⟨_, rfl⟩
  have x1 : Ext H H1 := ⟨_, hH1⟩
  have k1 : live H1 H.length = some ⟨true, 26, c.L⟩ := by rw [hH1]; exact (live_app_len _ _).trans rfl
  have i1 := live_ltG k1
  rw [← hH1] at e1 y1
  refine ⟨F, ?_, x1.trans y1⟩
  obtain ⟨o1, o2, f1, f2⟩ := hk
  obtain ⟨d, b, s, p, h, cap, qmin, imax, trip, vmin, vdark, cmin, cmax, cgap, tmax, coil, ohm, sag, amp, drift, o, gen, bat, ext, eland, margin, f⟩ := c
  simp only at o1 o2 f1 f2
  simp only [Cf.L] at hH1 k1 e1
  rw [D_eq p11 _ _ (Nat.le_of_ble_eq_true rfl)]
  simp (maxDischargeDepth := 8) only [r11, b11, c11_0, c11_1, c11_2, c11_3, c11_4, Cf.L, o1, o2, f1, f2, ← hH1, k1, i1, e1, RUN, Ed, knd, kndR, resV, binInt, mnmxV, mnmx2, fillL, unV, lenV, extractV, partV, loadAt, Nat.reduceAdd, Nat.reduceBEq, Nat.reduceEqDiff, Nat.reduceLT, Nat.reduceLeDiff, Nat.reduceMul, Nat.reduceSub, reduceIte, Int.reduceEq, Int.reduceNe, Int.reduceLT, Int.reduceLE, Int.reduceAdd, Int.reduceSub, Int.reduceMul, Int.reduceNeg, Int.reduceMod, Int.reduceDiv, Int.reduceTMod, Int.reduceTDiv, Int.reduceToNat, okChain_i, okLoads_nil, okLoads_in, okLoads_eq]
end Go.Proofs.YtceildmghmigaaaDoor.Sim
