/- Tables, feeders and bounds that are none. -/
import Derived.Test.YtceildmghmigaaaDoorCon6
import Derived.Test.YtceildmghmigaaaDoorSim21
namespace Go.Proofs.YtceildmghmigaaaDoor.Sim
open Go
set_option linter.unusedSimpArgs false
set_option linter.unusedVariables false
def t4 : RCode := (.seq (.region c4_43) .ret)
def u4 : RCode := (.seq (.seq (.region c4_6) (.block 0 (.seq (.region c4_7) (.cond (.tmp 23) (.seq (.region c4_8) (.region c4_9)) (.seq (.region c4_10) (.cond (.tmp 31) (.seq (.region c4_11) (.region c4_12)) (.seq (.region c4_13) (.cond (.tmp 41) (.seq (.region c4_14) (.region c4_15)) (.seq (.region c4_16) (.cond (.tmp 44) (.seq (.region c4_17) (.region c4_18)) (.seq (.region c4_19) (.cond (.tmp 47) (.seq (.region c4_20) (.region c4_21)) (.seq (.region c4_22) (.cond (.tmp 50) (.seq (.region c4_23) (.region c4_24)) (.seq (.region c4_25) (.cond (.tmp 53) (.seq (.region c4_26) (.region c4_27)) (.seq (.region c4_28) (.cond (.tmp 56) (.seq (.region c4_29) (.region c4_30)) (.seq (.region c4_31) (.cond (.tmp 62) (.seq (.region c4_32) (.region c4_33)) (.seq (.region c4_34) (.cond (.tmp 66) (.seq (.region c4_35) (.region c4_36)) (.seq (.region c4_37) (.cond (.tmp 73) (.seq (.region c4_38) (.region c4_39)) (.seq (.region c4_40) (.seq (.region c4_41) (.region c4_42))))))))))))))))))))))))))) t4)
theorem b4t : b4 = (.seq (.region c4_0) (.seq (.region c4_1) (.seq (.seq (.region c4_2) (.cond (.tmp 14) (.seq (.region c4_3) .ret) .skip)) (.seq (.region c4_4) (.seq (.region c4_5) u4))))) := (rfl)
set_option maxRecDepth 100000 in
theorem amiss_short (c : Cf) (hk : c.ok) (hb : fbk 0 (bds c) = none) (l : List Pt) (hl : l.length < 2) (H : Heap) (hE : EH all7 H) (hv : PS H c.o l) : ∃ F, D Tryd.prog hints 21 [.agg ⟨c.L⟩] H = some (.int .i64 21, F) ∧ Ext H F := by
  obtain ⟨H1, hH1⟩ : ∃ H1, H1 = H ++ [some ⟨true, 26, c.L⟩] := ⟨_, rfl⟩
  have x1 : Ext H H1 := ⟨_, hH1⟩
  have k1 : live H1 H.length = some ⟨true, 26, c.L⟩ := by rw [hH1]; exact (live_app_len _ _).trans rfl
  have i1 := live_ltG k1
  obtain ⟨v, F1, e1, y1, hv1⟩ := bounds_f c hk.o1 hk.o2 hk.f1 hk.f2 H1
  obtain ⟨F2, e2, y2⟩ := all_f F1 v (bds c) (by unfold bds; simp) hv1
  have hN : fbN (bds c) = 0 := by unfold fbN; rw [hb]
  have hs : (none : Option Nat).isNone = true := rfl
  rw [hN, hb, hs] at e2
  have z2 := (x1.trans y1).trans y2
  have k2 := (y1.trans y2).live k1
  have i2 := live_ltG k2
  have e3 := tableS_f F2 (hE.ext z2) c.o l hl (hv.ext z2)
  refine ⟨F2, ?_, z2⟩
  obtain ⟨o1, o2, f1, f2⟩ := hk
  obtain ⟨d, b, s, p, h, cap, qmin, imax, trip, vmin, vdark, cmin, cmax, cgap, tmax, coil, ohm, sag, amp, drift, o, gen, bat, ext, eland, margin, f⟩ := c
  simp only at o1 o2 f1 f2 e3
  simp only [Cf.L] at hH1 k1 e1 k2
  rw [D_eq p21 _ _ (Nat.le_of_ble_eq_true rfl)]
  simp (maxDischargeDepth := 8) only [r21, b21, c21_0, c21_1, c21_2, c21_3, c21_4, c21_5, c21_6, Cf.L, o1, o2, f1, f2, ← hH1, k1, i1, e1, e2, k2, i2, e3, same_En, fullOf_appG, fullOf_mapG, List.length_map, RUN, Ed, knd, kndR, resV, binInt, mnmxV, mnmx2, fillL, unV, lenV, extractV, partV, loadAt, Nat.reduceAdd, Nat.reduceBEq, Nat.reduceEqDiff, Nat.reduceLT, Nat.reduceLeDiff, Nat.reduceMul, Nat.reduceSub, reduceIte, Int.reduceEq, Int.reduceNe, Int.reduceLT, Int.reduceLE, Int.reduceAdd, Int.reduceSub, Int.reduceMul, Int.reduceNeg, Int.reduceMod, Int.reduceDiv, Int.reduceTMod, Int.reduceTDiv, Int.reduceToNat, okChain_i, okLoads_nil, okLoads_in, okLoads_eq]
theorem ext_ocv {H G : Heap} (h : Ext H G) {q : Nat} (e : live H q = ocvB) : live G q = ocvB := Ext.live h e
theorem key4 (c : Cf) (hk : c.ok) (n : Int) (hn : 0 < n) (ρ : Fr) (G : Heap) (hE : EH all7 G) (ha : ∀ H, Ext G H → ∃ F, D Tryd.prog hints 21 [.agg ⟨c.L⟩] H = some (.int .i64 n, F) ∧ Ext H F) (p : Nat) (kp : live G p = some ⟨true, 26, c.L⟩) (q9 : ρ 9 = .bool true) (q10 : ρ 10 = .pointer (some ⟨p, 0, none⟩)) (q11 : ρ 11 = .int .i64 n) : Ok (done [.tmp 8] (E Tryd.prog hints t4 ρ G)) := by
  have ip := live_ltG kp
  obtain ⟨F, q, e1, y1, kq⟩ := check_at c hk n hn G hE (ha _ (Ext.more _ _))
  have e2 := fun F => placed_f 106 n (by decide) F
  obtain ⟨G1, hG1⟩ : ∃ G1, G1 = F ++ [some ⟨true, 35, [.int .i64 106, .bool true, .int .i64 n]⟩] := ⟨_, rfl⟩
  have y2 : Ext F G1 := ⟨_, hG1⟩
  obtain ⟨X3, e3⟩ := sameAt_f q n n G1 (hE.ext (y1.trans y2)) (y2.live kq)
  rw [decide_eq_true rfl] at e3
  obtain ⟨o1, o2, f1, f2⟩ := hk
  obtain ⟨d, b, s, p', h, cap, qmin, imax, trip, vmin, vdark, cmin, cmax, cgap, tmax, coil, ohm, sag, amp, drift, o, gen, bat, ext, eland, margin, f⟩ := c
  simp only at o1 o2 f1 f2
  simp only [Cf.L] at kp e1
  simp only [AtV] at e1 e3
  simp (maxDischargeDepth := 8) only [t4, c4_43, q9, q10, q11, kp, ip, e1, e2, ← hG1, e3, o1, o2, f1, f2, RUN, Ed, knd, kndR, resV, binInt, mnmxV, mnmx2, fillL, unV, lenV, extractV, partV, loadAt, Nat.reduceAdd, Nat.reduceBEq, Nat.reduceEqDiff, Nat.reduceLT, Nat.reduceLeDiff, Nat.reduceMul, Nat.reduceSub, reduceIte, Int.reduceEq, Int.reduceNe, Int.reduceLT, Int.reduceLE, Int.reduceAdd, Int.reduceSub, Int.reduceMul, Int.reduceNeg, Int.reduceMod, Int.reduceDiv, Int.reduceTMod, Int.reduceTDiv, Int.reduceToNat, okChain_i, okLoads_nil, okLoads_in, okLoads_eq]
  exact Ok.mk _
/-- What the cases of the switch begin with. -/
structure In4 (x : Cv) (K : Int) (i q : Nat) (G : Heap) : Prop where
  hx : CvOk x
  hE : EH all7 G
  ho : x.o = .slice (some ⟨q, 0, none⟩) 4 2
  hq : live G q = ocvB
  hf : FS G x.f (fdl K i)
  hi : i ≤ 16
def l5 : List Pt := (-1, 0) :: l4
theorem l5_tab : Tab l5 := by
  refine ⟨by decide, by decide, ?_, ?_⟩
  · intro j p h
    match j with
    | 0 => injection h with h; subst h; decide
    | 1 => injection h with h; subst h; decide
    | 2 => injection h with h; subst h; decide
    | 3 => injection h with h; subst h; decide
    | 4 => injection h with h; subst h; decide
    | j + 5 => cases h
  · intro j p q h g
    match j with
    | 0 => injection h with h; injection g with g; subst h; subst g; decide
    | 1 => injection h with h; injection g with g; subst h; subst g; decide
    | 2 => injection h with h; injection g with g; subst h; subst g; decide
    | 3 => injection h with h; injection g with g; subst h; subst g; decide
    | 4 => cases g
    | j + 5 => cases h
def c5L : List Value := [.int .i64 (-1), .int .i64 0, .int .i64 0, .int .i64 20000, .int .i64 20000, .int .i64 23000, .int .i64 80000, .int .i64 25000, .int .i64 100000, .int .i64 28000]
theorem l5_PS {G : Heap} {b : Nat} (h : live G b = some ⟨true, 39, c5L⟩) : PS G (.slice (some ⟨b, 0, none⟩) 5 2) l5 := by
  refine .inr ⟨b, 2, true, 39, _, rfl, h, ?_⟩
  intro j p h
  match j with
  | 0 => injection h with h; subst h; exact ⟨by decide, rfl⟩
  | 1 => injection h with h; subst h; exact ⟨by decide, rfl⟩
  | 2 => injection h with h; subst h; exact ⟨by decide, rfl⟩
  | 3 => injection h with h; subst h; exact ⟨by decide, rfl⟩
  | 4 => injection h with h; subst h; exact ⟨by decide, rfl⟩
  | j + 5 => cases h
def l3 : List Pt := [(0, 20000), (20000, 23000), (80000, 25000)]
theorem l3_tab : Tab l3 := by
  refine ⟨by decide, by decide, ?_, ?_⟩
  · intro j p h
    match j with
    | 0 => injection h with h; subst h; decide
    | 1 => injection h with h; subst h; decide
    | 2 => injection h with h; subst h; decide
    | j + 3 => cases h
  · intro j p q h g
    match j with
    | 0 => injection h with h; injection g with g; subst h; subst g; decide
    | 1 => injection h with h; injection g with g; subst h; subst g; decide
    | 2 => cases g
    | j + 3 => cases h
theorem l3_PS {G : Heap} {b : Nat} (h : live G b = ocvB) : PS G (.slice (some ⟨b, 0, none⟩) 3 2) l3 := by
  refine .inr ⟨b, 2, true, 39, _, rfl, h, ?_⟩
  intro j p h
  match j with
  | 0 => injection h with h; subst h; exact ⟨by decide, rfl⟩
  | 1 => injection h with h; subst h; exact ⟨by decide, rfl⟩
  | 2 => injection h with h; subst h; exact ⟨by decide, rfl⟩
  | j + 3 => cases h
theorem not17 : ¬ ((∀ z ∈ (List.replicate 17 ((0, 0, 0) : Fd)), okF z) ∧ (List.replicate 17 ((0, 0, 0) : Fd)).length ≤ 16) := by decide
theorem not1 : ¬ ((∀ z ∈ [((3, 0, 0) : Fd)], okF z) ∧ [((3, 0, 0) : Fd)].length ≤ 16) := by decide
theorem not2 : ¬ ((∀ z ∈ [((6, 0, 101) : Fd)], okF z) ∧ [((6, 0, 101) : Fd)].length ≤ 16) := by decide
set_option maxRecDepth 100000 in
theorem c17 : fillZ [Value.int .i64 0, .int .i64 0, .int .i64 0] 17 = bdC (List.replicate 17 ((0, 0, 0) : Fd)) := rfl
set_option maxRecDepth 100000 in
theorem mid4_0 (x : Cv) (K : Int) (i q : Nat) (G : Heap) (hI : In4 x K i q G) (w0 : Int) (nf : ∀ F, D Tryd.prog hints 9 [.int .i64 w0, .int .i64 12] F = some (.int .i64 0, F)) (ρ : Fr) (q3 : ρ 3 = .int .i64 w0) (q9 : ρ 9 = .bool true) (q10 : ρ 10 = .pointer (some ⟨G.length, 0, none⟩)) : Ok (done [.tmp 8] (E Tryd.prog hints u4 ρ (G ++ [some ⟨true, 26, (cfOf x).L⟩]))) := by
  obtain ⟨hx, hE, ho, hq, hf, hi⟩ := hI
  obtain ⟨h0, h1, h2, h3, h4, h18, h24, h25⟩ := hx
  obtain ⟨g1', g2'⟩ := hf.one
  have ps4 : PS G x.o l4 := by rw [ho]; exact l4_PS hq
  have o1 : x.o.oneCell' = true := by rw [ho]; rfl
  have o2 : x.o.cells.toList = [x.o] := by rw [ho]; rfl
  have ea : ∀ CC : Option Blk, appendV 39 2 16 (G ++ [CC, some ⟨true, 39, [.int .i64 (-1), .int .i64 0]⟩]) (.slice (some ⟨G.length + 1, 0, none⟩) 1 2) x.o = some (.slice (some ⟨G.length + 2, 0, none⟩) 5 2, G ++ [CC, none, some ⟨true, 39, c5L⟩])   := by
    intro CC
    have hq' : q < G.length := live_ltG (b := ⟨true, 39, [.int .i64 0, .int .i64 20000, .int .i64 20000, .int .i64 23000, .int .i64 80000, .int .i64 25000, .int .i64 100000, .int .i64 28000]⟩) hq
    have := append_cons (ty := 39) (esz := 2) (bytes := 16) (H := G ++ [CC, some ⟨true, 39, [.int .i64 (-1), .int .i64 0]⟩]) (i := G.length + 1) (n := 1) (e := 2) (j := q) (m := 4) (o := true) (t := 39) (cs := [.int .i64 0, .int .i64 20000, .int .i64 20000, .int .i64 23000, .int .i64 80000, .int .i64 25000, .int .i64 100000, .int .i64 28000]) (ds := [.int .i64 (-1), .int .i64 0]) ((live_app_add _ _ _).trans rfl) (by rfl) ((live_app _ _ _ hq').trans hq) (by omega) (by simp) (by omega) (by rfl)
    rw [ho, this, set_app_add]
    simp [c5L]
  have key : ∀ ρ1 F, F = G ++ [some ⟨true, 26, [.int .i64 x.a0, .int .i64 x.a1, .int .i64 x.a2, .int .i64 x.a3, .int .i64 x.a4, .int .i64 100000, .int .i64 0, .int .i64 500, .int .i64 20000, .int .i64 10000, .int .i64 12000, .int .i64 3000, .int .i64 4200, .int .i64 300, .int .i64 600, .int .i64 1000, .int .i64 20, .int .i64 100, .int .i64 x.a18, .int .i64 50, .slice (some ⟨G.length + 2, 0, none⟩) 5 2, .int .i64 3000, .int .i64 500, .int .i64 3000, .int .i64 x.a24, .int .i64 x.a25, x.f]⟩, none, some ⟨true, 39, c5L⟩] → ρ1 9 = .bool true → ρ1 10 = .pointer (some ⟨G.length, 0, none⟩) → ρ1 11 = .int .i64 21 → Ok (done [.tmp 8] (E Tryd.prog hints t4 ρ1 F)) := by
    intro ρ1 F hF a9 a10 a11
    have yF : Ext G F := ⟨_, hF⟩
    have hok : (⟨x.a0, x.a1, x.a2, x.a3, x.a4, 100000, 0, 500, 20000, 10000, 12000, 3000, 4200, 300, 600, 1000, 20, 100, x.a18, 50, .slice (some ⟨G.length + 2, 0, none⟩) 5 2, 3000, 500, 3000, x.a24, x.a25, x.f⟩ : Cf).ok := by
      constructor
      all_goals first | rfl | exact o1 | exact o2 | exact g1' | exact g2'
    refine key4 ⟨x.a0, x.a1, x.a2, x.a3, x.a4, 100000, 0, 500, 20000, 10000, 12000, 3000, 4200, 300, 600, 1000, 20, 100, x.a18, 50, .slice (some ⟨G.length + 2, 0, none⟩) 5 2, 3000, 500, 3000, x.a24, x.a25, x.f⟩ hok 21 (by decide) ρ1 F (hE.ext yF) ?_ G.length ?_ a9 a10 a11
    · intro H hH
      have hb : fbk 0 (bds ⟨x.a0, x.a1, x.a2, x.a3, x.a4, 100000, 0, 500, 20000, 10000, 12000, 3000, 4200, 300, 600, 1000, 20, 100, x.a18, 50, .slice (some ⟨G.length + 2, 0, none⟩) 5 2, 3000, 500, 3000, x.a24, x.a25, x.f⟩) = none := by
        apply fbk_none
        simp only [bds, List.mem_cons, List.not_mem_nil, or_false, forall_eq_or_imp, forall_eq]
        omega
      obtain ⟨F', e, y⟩ := amiss_tab ⟨x.a0, x.a1, x.a2, x.a3, x.a4, 100000, 0, 500, 20000, 10000, 12000, 3000, 4200, 300, 600, 1000, 20, 100, x.a18, 50, .slice (some ⟨G.length + 2, 0, none⟩) 5 2, 3000, 500, 3000, x.a24, x.a25, x.f⟩ hok hb l5 l5_tab (-1, 0) (100000, 28000) rfl rfl (fdl K i) (by rw [fdl_len]; omega) H (PS.ext (l5_PS (by rw [hF]; exact (live_app_add _ _ _).trans rfl)) hH) (FS.ext (hf.ext yF) hH)
      refine ⟨F', ?_, y⟩
      rw [e]
      congr 3
      all_goals
        unfold amR
        simp only
        rw [if_pos (by decide)]
    · rw [hF]; exact (live_app_len _ _).trans rfl
  simp (maxDischargeDepth := 8) only [u4, Cf.L, cfOf, c4_6, c4_7, c4_8, c4_9, c4_10, c4_11, c4_12, c4_13, c4_14, c4_15, c4_16, c4_17, c4_18, c4_19, c4_20, c4_21, c4_22, c4_23, c4_24, c4_25, c4_26, c4_27, c4_28, c4_29, c4_30, c4_31, c4_32, c4_33, c4_34, c4_35, c4_36, c4_37, c4_38, c4_39, c4_40, c4_41, c4_42, q3, q9, q10, nf, o1, o2, g1', g2', ea, fillL, RUN, Ed, knd, kndR, resV, binInt, mnmxV, mnmx2, fillL, unV, extractV, partV, loadAt, Nat.reduceAdd, Nat.reduceBEq, Nat.reduceEqDiff, Nat.reduceLT, Nat.reduceLeDiff, Nat.reduceMul, Nat.reduceSub, reduceIte, Int.reduceEq, Int.reduceNe, Int.reduceLT, Int.reduceLE, Int.reduceAdd, Int.reduceSub, Int.reduceMul, Int.reduceNeg, Int.reduceMod, Int.reduceDiv, Int.reduceTMod, Int.reduceTDiv, Int.reduceToNat, okChain_i, okLoads_nil, okLoads_in, okLoads_eq]
  refine key _ _ rfl ?_ ?_ ?_
  all_goals first | (simp (maxDischargeDepth := 8) only [q9, q10, RUN, Ed, knd, kndR, resV, binInt, mnmxV, mnmx2, fillL, unV, lenV, extractV, partV, loadAt, Nat.reduceAdd, Nat.reduceBEq, Nat.reduceEqDiff, Nat.reduceLT, Nat.reduceLeDiff, Nat.reduceMul, Nat.reduceSub, reduceIte, Int.reduceEq, Int.reduceNe, Int.reduceLT, Int.reduceLE, Int.reduceAdd, Int.reduceSub, Int.reduceMul, Int.reduceNeg, Int.reduceMod, Int.reduceDiv, Int.reduceTMod, Int.reduceTDiv, Int.reduceToNat, okChain_i, okLoads_nil, okLoads_in, okLoads_eq]; done) | (simp (maxDischargeDepth := 8) only [q9, q10, RUN, Ed, knd, kndR, resV, binInt, mnmxV, mnmx2, fillL, unV, lenV, extractV, partV, loadAt, Nat.reduceAdd, Nat.reduceBEq, Nat.reduceEqDiff, Nat.reduceLT, Nat.reduceLeDiff, Nat.reduceMul, Nat.reduceSub, reduceIte, Int.reduceEq, Int.reduceNe, Int.reduceLT, Int.reduceLE, Int.reduceAdd, Int.reduceSub, Int.reduceMul, Int.reduceNeg, Int.reduceMod, Int.reduceDiv, Int.reduceTMod, Int.reduceTDiv, Int.reduceToNat, okChain_i, okLoads_nil, okLoads_in, okLoads_eq]; rfl)
set_option maxRecDepth 100000 in
theorem mid4_1 (x : Cv) (K : Int) (i q : Nat) (G : Heap) (hI : In4 x K i q G) (w0 : Int) (nf : ∀ F, D Tryd.prog hints 9 [.int .i64 w0, .int .i64 12] F = some (.int .i64 1, F)) (ρ : Fr) (q3 : ρ 3 = .int .i64 w0) (q9 : ρ 9 = .bool true) (q10 : ρ 10 = .pointer (some ⟨G.length, 0, none⟩)) : Ok (done [.tmp 8] (E Tryd.prog hints u4 ρ (G ++ [some ⟨true, 26, (cfOf x).L⟩]))) := by
  obtain ⟨hx, hE, ho, hq, hf, hi⟩ := hI
  obtain ⟨h0, h1, h2, h3, h4, h18, h24, h25⟩ := hx
  obtain ⟨g1', g2'⟩ := hf.one
  have ps4 : PS G x.o l4 := by rw [ho]; exact l4_PS hq
  have o1 : x.o.oneCell' = true := by rw [ho]; rfl
  have o2 : x.o.cells.toList = [x.o] := by rw [ho]; rfl
  have es : sliceV 2 x.o none (some (.int .i64 3)) = some (.slice (some ⟨q, 0, none⟩) 3 2) := by rw [ho]; rfl
  have lo : lenV false x.o = some (.int .i64 4) := by rw [ho]; rfl
  have key : ∀ ρ1 F, F = G ++ [some ⟨true, 26, [.int .i64 x.a0, .int .i64 x.a1, .int .i64 x.a2, .int .i64 x.a3, .int .i64 x.a4, .int .i64 100000, .int .i64 0, .int .i64 500, .int .i64 20000, .int .i64 10000, .int .i64 12000, .int .i64 3000, .int .i64 4200, .int .i64 300, .int .i64 600, .int .i64 1000, .int .i64 20, .int .i64 100, .int .i64 x.a18, .int .i64 50, .slice (some ⟨q, 0, none⟩) 3 2, .int .i64 3000, .int .i64 500, .int .i64 3000, .int .i64 x.a24, .int .i64 x.a25, x.f]⟩] → ρ1 9 = .bool true → ρ1 10 = .pointer (some ⟨G.length, 0, none⟩) → ρ1 11 = .int .i64 21 → Ok (done [.tmp 8] (E Tryd.prog hints t4 ρ1 F)) := by
    intro ρ1 F hF a9 a10 a11
    have yF : Ext G F := ⟨_, hF⟩
    have hok : (⟨x.a0, x.a1, x.a2, x.a3, x.a4, 100000, 0, 500, 20000, 10000, 12000, 3000, 4200, 300, 600, 1000, 20, 100, x.a18, 50, .slice (some ⟨q, 0, none⟩) 3 2, 3000, 500, 3000, x.a24, x.a25, x.f⟩ : Cf).ok := by
      constructor
      all_goals first | rfl | exact o1 | exact o2 | exact g1' | exact g2'
    refine key4 ⟨x.a0, x.a1, x.a2, x.a3, x.a4, 100000, 0, 500, 20000, 10000, 12000, 3000, 4200, 300, 600, 1000, 20, 100, x.a18, 50, .slice (some ⟨q, 0, none⟩) 3 2, 3000, 500, 3000, x.a24, x.a25, x.f⟩ hok 21 (by decide) ρ1 F (hE.ext yF) ?_ G.length ?_ a9 a10 a11
    · intro H hH
      have hb : fbk 0 (bds ⟨x.a0, x.a1, x.a2, x.a3, x.a4, 100000, 0, 500, 20000, 10000, 12000, 3000, 4200, 300, 600, 1000, 20, 100, x.a18, 50, .slice (some ⟨q, 0, none⟩) 3 2, 3000, 500, 3000, x.a24, x.a25, x.f⟩) = none := by
        apply fbk_none
        simp only [bds, List.mem_cons, List.not_mem_nil, or_false, forall_eq_or_imp, forall_eq]
        omega
      obtain ⟨F', e, y⟩ := amiss_tab ⟨x.a0, x.a1, x.a2, x.a3, x.a4, 100000, 0, 500, 20000, 10000, 12000, 3000, 4200, 300, 600, 1000, 20, 100, x.a18, 50, .slice (some ⟨q, 0, none⟩) 3 2, 3000, 500, 3000, x.a24, x.a25, x.f⟩ hok hb l3 l3_tab (0, 20000) (80000, 25000) rfl rfl (fdl K i) (by rw [fdl_len]; omega) H (PS.ext (l3_PS (ext_ocv yF hq)) hH) (FS.ext (hf.ext yF) hH)
      refine ⟨F', ?_, y⟩
      rw [e]
      congr 3
      all_goals
        unfold amR
        simp only
        rw [if_neg (by decide), if_pos (by decide)]
    · rw [hF]; exact (live_app_len _ _).trans rfl
  simp (maxDischargeDepth := 8) only [u4, Cf.L, cfOf, c4_6, c4_7, c4_8, c4_9, c4_10, c4_11, c4_12, c4_13, c4_14, c4_15, c4_16, c4_17, c4_18, c4_19, c4_20, c4_21, c4_22, c4_23, c4_24, c4_25, c4_26, c4_27, c4_28, c4_29, c4_30, c4_31, c4_32, c4_33, c4_34, c4_35, c4_36, c4_37, c4_38, c4_39, c4_40, c4_41, c4_42, q3, q9, q10, nf, o1, o2, g1', g2', es, lo, RUN, Ed, knd, kndR, resV, binInt, mnmxV, mnmx2, fillL, unV, extractV, partV, loadAt, Nat.reduceAdd, Nat.reduceBEq, Nat.reduceEqDiff, Nat.reduceLT, Nat.reduceLeDiff, Nat.reduceMul, Nat.reduceSub, reduceIte, Int.reduceEq, Int.reduceNe, Int.reduceLT, Int.reduceLE, Int.reduceAdd, Int.reduceSub, Int.reduceMul, Int.reduceNeg, Int.reduceMod, Int.reduceDiv, Int.reduceTMod, Int.reduceTDiv, Int.reduceToNat, okChain_i, okLoads_nil, okLoads_in, okLoads_eq]
  refine key _ _ rfl ?_ ?_ ?_
  all_goals first | (simp (maxDischargeDepth := 8) only [q9, q10, RUN, Ed, knd, kndR, resV, binInt, mnmxV, mnmx2, fillL, unV, lenV, extractV, partV, loadAt, Nat.reduceAdd, Nat.reduceBEq, Nat.reduceEqDiff, Nat.reduceLT, Nat.reduceLeDiff, Nat.reduceMul, Nat.reduceSub, reduceIte, Int.reduceEq, Int.reduceNe, Int.reduceLT, Int.reduceLE, Int.reduceAdd, Int.reduceSub, Int.reduceMul, Int.reduceNeg, Int.reduceMod, Int.reduceDiv, Int.reduceTMod, Int.reduceTDiv, Int.reduceToNat, okChain_i, okLoads_nil, okLoads_in, okLoads_eq]; done) | (simp (maxDischargeDepth := 8) only [q9, q10, RUN, Ed, knd, kndR, resV, binInt, mnmxV, mnmx2, fillL, unV, lenV, extractV, partV, loadAt, Nat.reduceAdd, Nat.reduceBEq, Nat.reduceEqDiff, Nat.reduceLT, Nat.reduceLeDiff, Nat.reduceMul, Nat.reduceSub, reduceIte, Int.reduceEq, Int.reduceNe, Int.reduceLT, Int.reduceLE, Int.reduceAdd, Int.reduceSub, Int.reduceMul, Int.reduceNeg, Int.reduceMod, Int.reduceDiv, Int.reduceTMod, Int.reduceTDiv, Int.reduceToNat, okChain_i, okLoads_nil, okLoads_in, okLoads_eq]; rfl)
set_option maxRecDepth 100000 in
theorem mid4_2 (x : Cv) (K : Int) (i q : Nat) (G : Heap) (hI : In4 x K i q G) (w0 : Int) (nf : ∀ F, D Tryd.prog hints 9 [.int .i64 w0, .int .i64 12] F = some (.int .i64 2, F)) (ρ : Fr) (q3 : ρ 3 = .int .i64 w0) (q9 : ρ 9 = .bool true) (q10 : ρ 10 = .pointer (some ⟨G.length, 0, none⟩)) : Ok (done [.tmp 8] (E Tryd.prog hints u4 ρ (G ++ [some ⟨true, 26, (cfOf x).L⟩]))) := by
  obtain ⟨hx, hE, ho, hq, hf, hi⟩ := hI
  obtain ⟨h0, h1, h2, h3, h4, h18, h24, h25⟩ := hx
  obtain ⟨g1', g2'⟩ := hf.one
  have ps4 : PS G x.o l4 := by rw [ho]; exact l4_PS hq
  have o1 : x.o.oneCell' = true := by rw [ho]; rfl
  have o2 : x.o.cells.toList = [x.o] := by rw [ho]; rfl
  have key : ∀ ρ1 F, F = G ++ [some ⟨true, 26, [.int .i64 x.a0, .int .i64 x.a1, .int .i64 x.a2, .int .i64 x.a3, .int .i64 x.a4, .int .i64 100000, .int .i64 0, .int .i64 500, .int .i64 20000, .int .i64 10000, .int .i64 12000, .int .i64 3000, .int .i64 4200, .int .i64 300, .int .i64 600, .int .i64 1000, .int .i64 20, .int .i64 100, .int .i64 x.a18, .int .i64 50, .slice none 0 0, .int .i64 3000, .int .i64 500, .int .i64 3000, .int .i64 x.a24, .int .i64 x.a25, x.f]⟩] → ρ1 9 = .bool true → ρ1 10 = .pointer (some ⟨G.length, 0, none⟩) → ρ1 11 = .int .i64 21 → Ok (done [.tmp 8] (E Tryd.prog hints t4 ρ1 F)) := by
    intro ρ1 F hF a9 a10 a11
    have yF : Ext G F := ⟨_, hF⟩
    have hok : (⟨x.a0, x.a1, x.a2, x.a3, x.a4, 100000, 0, 500, 20000, 10000, 12000, 3000, 4200, 300, 600, 1000, 20, 100, x.a18, 50, .slice none 0 0, 3000, 500, 3000, x.a24, x.a25, x.f⟩ : Cf).ok := by
      constructor
      all_goals first | rfl | exact o1 | exact o2 | exact g1' | exact g2'
    refine key4 ⟨x.a0, x.a1, x.a2, x.a3, x.a4, 100000, 0, 500, 20000, 10000, 12000, 3000, 4200, 300, 600, 1000, 20, 100, x.a18, 50, .slice none 0 0, 3000, 500, 3000, x.a24, x.a25, x.f⟩ hok 21 (by decide) ρ1 F (hE.ext yF) ?_ G.length ?_ a9 a10 a11
    · intro H hH
      have hb : fbk 0 (bds ⟨x.a0, x.a1, x.a2, x.a3, x.a4, 100000, 0, 500, 20000, 10000, 12000, 3000, 4200, 300, 600, 1000, 20, 100, x.a18, 50, .slice none 0 0, 3000, 500, 3000, x.a24, x.a25, x.f⟩) = none := by
        apply fbk_none
        simp only [bds, List.mem_cons, List.not_mem_nil, or_false, forall_eq_or_imp, forall_eq]
        omega
      exact amiss_short ⟨x.a0, x.a1, x.a2, x.a3, x.a4, 100000, 0, 500, 20000, 10000, 12000, 3000, 4200, 300, 600, 1000, 20, 100, x.a18, 50, .slice none 0 0, 3000, 500, 3000, x.a24, x.a25, x.f⟩ hok hb [] (by simp) H ((hE.ext yF).ext hH) (.inl ⟨rfl, 0, rfl⟩)
    · rw [hF]; exact (live_app_len _ _).trans rfl
  simp (maxDischargeDepth := 8) only [u4, Cf.L, cfOf, c4_6, c4_7, c4_8, c4_9, c4_10, c4_11, c4_12, c4_13, c4_14, c4_15, c4_16, c4_17, c4_18, c4_19, c4_20, c4_21, c4_22, c4_23, c4_24, c4_25, c4_26, c4_27, c4_28, c4_29, c4_30, c4_31, c4_32, c4_33, c4_34, c4_35, c4_36, c4_37, c4_38, c4_39, c4_40, c4_41, c4_42, q3, q9, q10, nf, o1, o2, g1', g2', RUN, Ed, knd, kndR, resV, binInt, mnmxV, mnmx2, fillL, unV, extractV, partV, loadAt, Nat.reduceAdd, Nat.reduceBEq, Nat.reduceEqDiff, Nat.reduceLT, Nat.reduceLeDiff, Nat.reduceMul, Nat.reduceSub, reduceIte, Int.reduceEq, Int.reduceNe, Int.reduceLT, Int.reduceLE, Int.reduceAdd, Int.reduceSub, Int.reduceMul, Int.reduceNeg, Int.reduceMod, Int.reduceDiv, Int.reduceTMod, Int.reduceTDiv, Int.reduceToNat, okChain_i, okLoads_nil, okLoads_in, okLoads_eq]
  refine key _ _ rfl ?_ ?_ ?_
  all_goals first | (simp (maxDischargeDepth := 8) only [q9, q10, RUN, Ed, knd, kndR, resV, binInt, mnmxV, mnmx2, fillL, unV, lenV, extractV, partV, loadAt, Nat.reduceAdd, Nat.reduceBEq, Nat.reduceEqDiff, Nat.reduceLT, Nat.reduceLeDiff, Nat.reduceMul, Nat.reduceSub, reduceIte, Int.reduceEq, Int.reduceNe, Int.reduceLT, Int.reduceLE, Int.reduceAdd, Int.reduceSub, Int.reduceMul, Int.reduceNeg, Int.reduceMod, Int.reduceDiv, Int.reduceTMod, Int.reduceTDiv, Int.reduceToNat, okChain_i, okLoads_nil, okLoads_in, okLoads_eq]; done) | (simp (maxDischargeDepth := 8) only [q9, q10, RUN, Ed, knd, kndR, resV, binInt, mnmxV, mnmx2, fillL, unV, lenV, extractV, partV, loadAt, Nat.reduceAdd, Nat.reduceBEq, Nat.reduceEqDiff, Nat.reduceLT, Nat.reduceLeDiff, Nat.reduceMul, Nat.reduceSub, reduceIte, Int.reduceEq, Int.reduceNe, Int.reduceLT, Int.reduceLE, Int.reduceAdd, Int.reduceSub, Int.reduceMul, Int.reduceNeg, Int.reduceMod, Int.reduceDiv, Int.reduceTMod, Int.reduceTDiv, Int.reduceToNat, okChain_i, okLoads_nil, okLoads_in, okLoads_eq]; rfl)
set_option maxRecDepth 100000 in
theorem mid4_3 (x : Cv) (K : Int) (i q : Nat) (G : Heap) (hI : In4 x K i q G) (w0 : Int) (nf : ∀ F, D Tryd.prog hints 9 [.int .i64 w0, .int .i64 12] F = some (.int .i64 3, F)) (ρ : Fr) (q3 : ρ 3 = .int .i64 w0) (q9 : ρ 9 = .bool true) (q10 : ρ 10 = .pointer (some ⟨G.length, 0, none⟩)) : Ok (done [.tmp 8] (E Tryd.prog hints u4 ρ (G ++ [some ⟨true, 26, (cfOf x).L⟩]))) := by
  obtain ⟨hx, hE, ho, hq, hf, hi⟩ := hI
  obtain ⟨h0, h1, h2, h3, h4, h18, h24, h25⟩ := hx
  obtain ⟨g1', g2'⟩ := hf.one
  have ps4 : PS G x.o l4 := by rw [ho]; exact l4_PS hq
  have o1 : x.o.oneCell' = true := by rw [ho]; rfl
  have o2 : x.o.cells.toList = [x.o] := by rw [ho]; rfl
  have key : ∀ ρ1 F, F = G ++ [some ⟨true, 26, [.int .i64 x.a0, .int .i64 x.a1, .int .i64 x.a2, .int .i64 x.a3, .int .i64 x.a4, .int .i64 100000, .int .i64 0, .int .i64 500, .int .i64 20000, .int .i64 10000, .int .i64 12000, .int .i64 3000, .int .i64 4200, .int .i64 300, .int .i64 600, .int .i64 1000, .int .i64 20, .int .i64 100, .int .i64 x.a18, .int .i64 50, x.o, .int .i64 (-1), .int .i64 500, .int .i64 3000, .int .i64 x.a24, .int .i64 x.a25, x.f]⟩] → ρ1 9 = .bool true → ρ1 10 = .pointer (some ⟨G.length, 0, none⟩) → ρ1 11 = .int .i64 22 → Ok (done [.tmp 8] (E Tryd.prog hints t4 ρ1 F)) := by
    intro ρ1 F hF a9 a10 a11
    have yF : Ext G F := ⟨_, hF⟩
    have hok : (⟨x.a0, x.a1, x.a2, x.a3, x.a4, 100000, 0, 500, 20000, 10000, 12000, 3000, 4200, 300, 600, 1000, 20, 100, x.a18, 50, x.o, (-1), 500, 3000, x.a24, x.a25, x.f⟩ : Cf).ok := by
      constructor
      all_goals first | rfl | exact o1 | exact o2 | exact g1' | exact g2'
    refine key4 ⟨x.a0, x.a1, x.a2, x.a3, x.a4, 100000, 0, 500, 20000, 10000, 12000, 3000, 4200, 300, 600, 1000, 20, 100, x.a18, 50, x.o, (-1), 500, 3000, x.a24, x.a25, x.f⟩ hok 22 (by decide) ρ1 F (hE.ext yF) ?_ G.length ?_ a9 a10 a11
    · intro H hH
      have hb : fbk 0 (bds ⟨x.a0, x.a1, x.a2, x.a3, x.a4, 100000, 0, 500, 20000, 10000, 12000, 3000, 4200, 300, 600, 1000, 20, 100, x.a18, 50, x.o, (-1), 500, 3000, x.a24, x.a25, x.f⟩) = none := by
        apply fbk_none
        simp only [bds, List.mem_cons, List.not_mem_nil, or_false, forall_eq_or_imp, forall_eq]
        omega
      obtain ⟨F', e, y⟩ := amiss_tab ⟨x.a0, x.a1, x.a2, x.a3, x.a4, 100000, 0, 500, 20000, 10000, 12000, 3000, 4200, 300, 600, 1000, 20, 100, x.a18, 50, x.o, (-1), 500, 3000, x.a24, x.a25, x.f⟩ hok hb l4 l4_tab (0, 20000) (100000, 28000) rfl rfl (fdl K i) (by rw [fdl_len]; omega) H (PS.ext (ps4.ext yF) hH) (FS.ext (hf.ext yF) hH)
      refine ⟨F', ?_, y⟩
      rw [e]
      congr 3
      all_goals
        unfold amR
        simp only
        have he : fbk 0 (eds ⟨x.a0, x.a1, x.a2, x.a3, x.a4, 100000, 0, 500, 20000, 10000, 12000, 3000, 4200, 300, 600, 1000, 20, 100, x.a18, 50, x.o, (-1), 500, 3000, x.a24, x.a25, x.f⟩) = some 0 := by
          simp only [eds, fbk]
          rw [if_neg (by omega)]
        rw [if_neg (by decide), if_neg (by decide), he]
        rfl
    · rw [hF]; exact (live_app_len _ _).trans rfl
  simp (maxDischargeDepth := 8) only [u4, Cf.L, cfOf, c4_6, c4_7, c4_8, c4_9, c4_10, c4_11, c4_12, c4_13, c4_14, c4_15, c4_16, c4_17, c4_18, c4_19, c4_20, c4_21, c4_22, c4_23, c4_24, c4_25, c4_26, c4_27, c4_28, c4_29, c4_30, c4_31, c4_32, c4_33, c4_34, c4_35, c4_36, c4_37, c4_38, c4_39, c4_40, c4_41, c4_42, q3, q9, q10, nf, o1, o2, g1', g2', RUN, Ed, knd, kndR, resV, binInt, mnmxV, mnmx2, fillL, unV, extractV, partV, loadAt, Nat.reduceAdd, Nat.reduceBEq, Nat.reduceEqDiff, Nat.reduceLT, Nat.reduceLeDiff, Nat.reduceMul, Nat.reduceSub, reduceIte, Int.reduceEq, Int.reduceNe, Int.reduceLT, Int.reduceLE, Int.reduceAdd, Int.reduceSub, Int.reduceMul, Int.reduceNeg, Int.reduceMod, Int.reduceDiv, Int.reduceTMod, Int.reduceTDiv, Int.reduceToNat, okChain_i, okLoads_nil, okLoads_in, okLoads_eq]
  refine key _ _ rfl ?_ ?_ ?_
  all_goals first | (simp (maxDischargeDepth := 8) only [q9, q10, RUN, Ed, knd, kndR, resV, binInt, mnmxV, mnmx2, fillL, unV, lenV, extractV, partV, loadAt, Nat.reduceAdd, Nat.reduceBEq, Nat.reduceEqDiff, Nat.reduceLT, Nat.reduceLeDiff, Nat.reduceMul, Nat.reduceSub, reduceIte, Int.reduceEq, Int.reduceNe, Int.reduceLT, Int.reduceLE, Int.reduceAdd, Int.reduceSub, Int.reduceMul, Int.reduceNeg, Int.reduceMod, Int.reduceDiv, Int.reduceTMod, Int.reduceTDiv, Int.reduceToNat, okChain_i, okLoads_nil, okLoads_in, okLoads_eq]; done) | (simp (maxDischargeDepth := 8) only [q9, q10, RUN, Ed, knd, kndR, resV, binInt, mnmxV, mnmx2, fillL, unV, lenV, extractV, partV, loadAt, Nat.reduceAdd, Nat.reduceBEq, Nat.reduceEqDiff, Nat.reduceLT, Nat.reduceLeDiff, Nat.reduceMul, Nat.reduceSub, reduceIte, Int.reduceEq, Int.reduceNe, Int.reduceLT, Int.reduceLE, Int.reduceAdd, Int.reduceSub, Int.reduceMul, Int.reduceNeg, Int.reduceMod, Int.reduceDiv, Int.reduceTMod, Int.reduceTDiv, Int.reduceToNat, okChain_i, okLoads_nil, okLoads_in, okLoads_eq]; rfl)
set_option maxRecDepth 100000 in
theorem mid4_4 (x : Cv) (K : Int) (i q : Nat) (G : Heap) (hI : In4 x K i q G) (w0 : Int) (nf : ∀ F, D Tryd.prog hints 9 [.int .i64 w0, .int .i64 12] F = some (.int .i64 4, F)) (ρ : Fr) (q3 : ρ 3 = .int .i64 w0) (q9 : ρ 9 = .bool true) (q10 : ρ 10 = .pointer (some ⟨G.length, 0, none⟩)) : Ok (done [.tmp 8] (E Tryd.prog hints u4 ρ (G ++ [some ⟨true, 26, (cfOf x).L⟩]))) := by
  obtain ⟨hx, hE, ho, hq, hf, hi⟩ := hI
  obtain ⟨h0, h1, h2, h3, h4, h18, h24, h25⟩ := hx
  obtain ⟨g1', g2'⟩ := hf.one
  have ps4 : PS G x.o l4 := by rw [ho]; exact l4_PS hq
  have o1 : x.o.oneCell' = true := by rw [ho]; rfl
  have o2 : x.o.cells.toList = [x.o] := by rw [ho]; rfl
  have key : ∀ ρ1 F, F = G ++ [some ⟨true, 26, [.int .i64 x.a0, .int .i64 x.a1, .int .i64 x.a2, .int .i64 x.a3, .int .i64 x.a4, .int .i64 100000, .int .i64 0, .int .i64 500, .int .i64 20000, .int .i64 10000, .int .i64 12000, .int .i64 3000, .int .i64 4200, .int .i64 300, .int .i64 600, .int .i64 1000, .int .i64 20, .int .i64 100, .int .i64 x.a18, .int .i64 50, x.o, .int .i64 3000, .int .i64 1073741825, .int .i64 3000, .int .i64 x.a24, .int .i64 x.a25, x.f]⟩] → ρ1 9 = .bool true → ρ1 10 = .pointer (some ⟨G.length, 0, none⟩) → ρ1 11 = .int .i64 23 → Ok (done [.tmp 8] (E Tryd.prog hints t4 ρ1 F)) := by
    intro ρ1 F hF a9 a10 a11
    have yF : Ext G F := ⟨_, hF⟩
    have hok : (⟨x.a0, x.a1, x.a2, x.a3, x.a4, 100000, 0, 500, 20000, 10000, 12000, 3000, 4200, 300, 600, 1000, 20, 100, x.a18, 50, x.o, 3000, 1073741825, 3000, x.a24, x.a25, x.f⟩ : Cf).ok := by
      constructor
      all_goals first | rfl | exact o1 | exact o2 | exact g1' | exact g2'
    refine key4 ⟨x.a0, x.a1, x.a2, x.a3, x.a4, 100000, 0, 500, 20000, 10000, 12000, 3000, 4200, 300, 600, 1000, 20, 100, x.a18, 50, x.o, 3000, 1073741825, 3000, x.a24, x.a25, x.f⟩ hok 23 (by decide) ρ1 F (hE.ext yF) ?_ G.length ?_ a9 a10 a11
    · intro H hH
      have hb : fbk 0 (bds ⟨x.a0, x.a1, x.a2, x.a3, x.a4, 100000, 0, 500, 20000, 10000, 12000, 3000, 4200, 300, 600, 1000, 20, 100, x.a18, 50, x.o, 3000, 1073741825, 3000, x.a24, x.a25, x.f⟩) = none := by
        apply fbk_none
        simp only [bds, List.mem_cons, List.not_mem_nil, or_false, forall_eq_or_imp, forall_eq]
        omega
      obtain ⟨F', e, y⟩ := amiss_tab ⟨x.a0, x.a1, x.a2, x.a3, x.a4, 100000, 0, 500, 20000, 10000, 12000, 3000, 4200, 300, 600, 1000, 20, 100, x.a18, 50, x.o, 3000, 1073741825, 3000, x.a24, x.a25, x.f⟩ hok hb l4 l4_tab (0, 20000) (100000, 28000) rfl rfl (fdl K i) (by rw [fdl_len]; omega) H (PS.ext (ps4.ext yF) hH) (FS.ext (hf.ext yF) hH)
      refine ⟨F', ?_, y⟩
      rw [e]
      congr 3
      all_goals
        unfold amR
        simp only
        have he : fbk 0 (eds ⟨x.a0, x.a1, x.a2, x.a3, x.a4, 100000, 0, 500, 20000, 10000, 12000, 3000, 4200, 300, 600, 1000, 20, 100, x.a18, 50, x.o, 3000, 1073741825, 3000, x.a24, x.a25, x.f⟩) = some 1 := by
          simp only [eds, fbk]
          rw [if_pos (by omega), if_neg (by omega)]
        rw [if_neg (by decide), if_neg (by decide), he]
        rfl
    · rw [hF]; exact (live_app_len _ _).trans rfl
  simp (maxDischargeDepth := 8) only [u4, Cf.L, cfOf, c4_6, c4_7, c4_8, c4_9, c4_10, c4_11, c4_12, c4_13, c4_14, c4_15, c4_16, c4_17, c4_18, c4_19, c4_20, c4_21, c4_22, c4_23, c4_24, c4_25, c4_26, c4_27, c4_28, c4_29, c4_30, c4_31, c4_32, c4_33, c4_34, c4_35, c4_36, c4_37, c4_38, c4_39, c4_40, c4_41, c4_42, q3, q9, q10, nf, o1, o2, g1', g2', RUN, Ed, knd, kndR, resV, binInt, mnmxV, mnmx2, fillL, unV, extractV, partV, loadAt, Nat.reduceAdd, Nat.reduceBEq, Nat.reduceEqDiff, Nat.reduceLT, Nat.reduceLeDiff, Nat.reduceMul, Nat.reduceSub, reduceIte, Int.reduceEq, Int.reduceNe, Int.reduceLT, Int.reduceLE, Int.reduceAdd, Int.reduceSub, Int.reduceMul, Int.reduceNeg, Int.reduceMod, Int.reduceDiv, Int.reduceTMod, Int.reduceTDiv, Int.reduceToNat, okChain_i, okLoads_nil, okLoads_in, okLoads_eq]
  refine key _ _ rfl ?_ ?_ ?_
  all_goals first | (simp (maxDischargeDepth := 8) only [q9, q10, RUN, Ed, knd, kndR, resV, binInt, mnmxV, mnmx2, fillL, unV, lenV, extractV, partV, loadAt, Nat.reduceAdd, Nat.reduceBEq, Nat.reduceEqDiff, Nat.reduceLT, Nat.reduceLeDiff, Nat.reduceMul, Nat.reduceSub, reduceIte, Int.reduceEq, Int.reduceNe, Int.reduceLT, Int.reduceLE, Int.reduceAdd, Int.reduceSub, Int.reduceMul, Int.reduceNeg, Int.reduceMod, Int.reduceDiv, Int.reduceTMod, Int.reduceTDiv, Int.reduceToNat, okChain_i, okLoads_nil, okLoads_in, okLoads_eq]; done) | (simp (maxDischargeDepth := 8) only [q9, q10, RUN, Ed, knd, kndR, resV, binInt, mnmxV, mnmx2, fillL, unV, lenV, extractV, partV, loadAt, Nat.reduceAdd, Nat.reduceBEq, Nat.reduceEqDiff, Nat.reduceLT, Nat.reduceLeDiff, Nat.reduceMul, Nat.reduceSub, reduceIte, Int.reduceEq, Int.reduceNe, Int.reduceLT, Int.reduceLE, Int.reduceAdd, Int.reduceSub, Int.reduceMul, Int.reduceNeg, Int.reduceMod, Int.reduceDiv, Int.reduceTMod, Int.reduceTDiv, Int.reduceToNat, okChain_i, okLoads_nil, okLoads_in, okLoads_eq]; rfl)
set_option maxRecDepth 100000 in
theorem mid4_5 (x : Cv) (K : Int) (i q : Nat) (G : Heap) (hI : In4 x K i q G) (w0 : Int) (nf : ∀ F, D Tryd.prog hints 9 [.int .i64 w0, .int .i64 12] F = some (.int .i64 5, F)) (ρ : Fr) (q3 : ρ 3 = .int .i64 w0) (q9 : ρ 9 = .bool true) (q10 : ρ 10 = .pointer (some ⟨G.length, 0, none⟩)) : Ok (done [.tmp 8] (E Tryd.prog hints u4 ρ (G ++ [some ⟨true, 26, (cfOf x).L⟩]))) := by
  obtain ⟨hx, hE, ho, hq, hf, hi⟩ := hI
  obtain ⟨h0, h1, h2, h3, h4, h18, h24, h25⟩ := hx
  obtain ⟨g1', g2'⟩ := hf.one
  have ps4 : PS G x.o l4 := by rw [ho]; exact l4_PS hq
  have o1 : x.o.oneCell' = true := by rw [ho]; rfl
  have o2 : x.o.cells.toList = [x.o] := by rw [ho]; rfl
  have key : ∀ ρ1 F, F = G ++ [some ⟨true, 26, [.int .i64 x.a0, .int .i64 x.a1, .int .i64 x.a2, .int .i64 x.a3, .int .i64 x.a4, .int .i64 100000, .int .i64 0, .int .i64 500, .int .i64 20000, .int .i64 10000, .int .i64 12000, .int .i64 3000, .int .i64 4200, .int .i64 300, .int .i64 600, .int .i64 1000, .int .i64 20, .int .i64 100, .int .i64 x.a18, .int .i64 50, x.o, .int .i64 3000, .int .i64 500, .int .i64 (-1), .int .i64 x.a24, .int .i64 x.a25, x.f]⟩] → ρ1 9 = .bool true → ρ1 10 = .pointer (some ⟨G.length, 0, none⟩) → ρ1 11 = .int .i64 24 → Ok (done [.tmp 8] (E Tryd.prog hints t4 ρ1 F)) := by
    intro ρ1 F hF a9 a10 a11
    have yF : Ext G F := ⟨_, hF⟩
    have hok : (⟨x.a0, x.a1, x.a2, x.a3, x.a4, 100000, 0, 500, 20000, 10000, 12000, 3000, 4200, 300, 600, 1000, 20, 100, x.a18, 50, x.o, 3000, 500, (-1), x.a24, x.a25, x.f⟩ : Cf).ok := by
      constructor
      all_goals first | rfl | exact o1 | exact o2 | exact g1' | exact g2'
    refine key4 ⟨x.a0, x.a1, x.a2, x.a3, x.a4, 100000, 0, 500, 20000, 10000, 12000, 3000, 4200, 300, 600, 1000, 20, 100, x.a18, 50, x.o, 3000, 500, (-1), x.a24, x.a25, x.f⟩ hok 24 (by decide) ρ1 F (hE.ext yF) ?_ G.length ?_ a9 a10 a11
    · intro H hH
      have hb : fbk 0 (bds ⟨x.a0, x.a1, x.a2, x.a3, x.a4, 100000, 0, 500, 20000, 10000, 12000, 3000, 4200, 300, 600, 1000, 20, 100, x.a18, 50, x.o, 3000, 500, (-1), x.a24, x.a25, x.f⟩) = none := by
        apply fbk_none
        simp only [bds, List.mem_cons, List.not_mem_nil, or_false, forall_eq_or_imp, forall_eq]
        omega
      obtain ⟨F', e, y⟩ := amiss_tab ⟨x.a0, x.a1, x.a2, x.a3, x.a4, 100000, 0, 500, 20000, 10000, 12000, 3000, 4200, 300, 600, 1000, 20, 100, x.a18, 50, x.o, 3000, 500, (-1), x.a24, x.a25, x.f⟩ hok hb l4 l4_tab (0, 20000) (100000, 28000) rfl rfl (fdl K i) (by rw [fdl_len]; omega) H (PS.ext (ps4.ext yF) hH) (FS.ext (hf.ext yF) hH)
      refine ⟨F', ?_, y⟩
      rw [e]
      congr 3
      all_goals
        unfold amR
        simp only
        have he : fbk 0 (eds ⟨x.a0, x.a1, x.a2, x.a3, x.a4, 100000, 0, 500, 20000, 10000, 12000, 3000, 4200, 300, 600, 1000, 20, 100, x.a18, 50, x.o, 3000, 500, (-1), x.a24, x.a25, x.f⟩) = some 2 := by
          simp only [eds, fbk]
          rw [if_pos (by omega), if_pos (by omega), if_neg (by omega)]
        rw [if_neg (by decide), if_neg (by decide), he]
        rfl
    · rw [hF]; exact (live_app_len _ _).trans rfl
  simp (maxDischargeDepth := 8) only [u4, Cf.L, cfOf, c4_6, c4_7, c4_8, c4_9, c4_10, c4_11, c4_12, c4_13, c4_14, c4_15, c4_16, c4_17, c4_18, c4_19, c4_20, c4_21, c4_22, c4_23, c4_24, c4_25, c4_26, c4_27, c4_28, c4_29, c4_30, c4_31, c4_32, c4_33, c4_34, c4_35, c4_36, c4_37, c4_38, c4_39, c4_40, c4_41, c4_42, q3, q9, q10, nf, o1, o2, g1', g2', RUN, Ed, knd, kndR, resV, binInt, mnmxV, mnmx2, fillL, unV, extractV, partV, loadAt, Nat.reduceAdd, Nat.reduceBEq, Nat.reduceEqDiff, Nat.reduceLT, Nat.reduceLeDiff, Nat.reduceMul, Nat.reduceSub, reduceIte, Int.reduceEq, Int.reduceNe, Int.reduceLT, Int.reduceLE, Int.reduceAdd, Int.reduceSub, Int.reduceMul, Int.reduceNeg, Int.reduceMod, Int.reduceDiv, Int.reduceTMod, Int.reduceTDiv, Int.reduceToNat, okChain_i, okLoads_nil, okLoads_in, okLoads_eq]
  refine key _ _ rfl ?_ ?_ ?_
  all_goals first | (simp (maxDischargeDepth := 8) only [q9, q10, RUN, Ed, knd, kndR, resV, binInt, mnmxV, mnmx2, fillL, unV, lenV, extractV, partV, loadAt, Nat.reduceAdd, Nat.reduceBEq, Nat.reduceEqDiff, Nat.reduceLT, Nat.reduceLeDiff, Nat.reduceMul, Nat.reduceSub, reduceIte, Int.reduceEq, Int.reduceNe, Int.reduceLT, Int.reduceLE, Int.reduceAdd, Int.reduceSub, Int.reduceMul, Int.reduceNeg, Int.reduceMod, Int.reduceDiv, Int.reduceTMod, Int.reduceTDiv, Int.reduceToNat, okChain_i, okLoads_nil, okLoads_in, okLoads_eq]; done) | (simp (maxDischargeDepth := 8) only [q9, q10, RUN, Ed, knd, kndR, resV, binInt, mnmxV, mnmx2, fillL, unV, lenV, extractV, partV, loadAt, Nat.reduceAdd, Nat.reduceBEq, Nat.reduceEqDiff, Nat.reduceLT, Nat.reduceLeDiff, Nat.reduceMul, Nat.reduceSub, reduceIte, Int.reduceEq, Int.reduceNe, Int.reduceLT, Int.reduceLE, Int.reduceAdd, Int.reduceSub, Int.reduceMul, Int.reduceNeg, Int.reduceMod, Int.reduceDiv, Int.reduceTMod, Int.reduceTDiv, Int.reduceToNat, okChain_i, okLoads_nil, okLoads_in, okLoads_eq]; rfl)
set_option maxRecDepth 100000 in
theorem mid4_6 (x : Cv) (K : Int) (i q : Nat) (G : Heap) (hI : In4 x K i q G) (w0 : Int) (nf : ∀ F, D Tryd.prog hints 9 [.int .i64 w0, .int .i64 12] F = some (.int .i64 6, F)) (ρ : Fr) (q3 : ρ 3 = .int .i64 w0) (q9 : ρ 9 = .bool true) (q10 : ρ 10 = .pointer (some ⟨G.length, 0, none⟩)) : Ok (done [.tmp 8] (E Tryd.prog hints u4 ρ (G ++ [some ⟨true, 26, (cfOf x).L⟩]))) := by
  obtain ⟨hx, hE, ho, hq, hf, hi⟩ := hI
  obtain ⟨h0, h1, h2, h3, h4, h18, h24, h25⟩ := hx
  obtain ⟨g1', g2'⟩ := hf.one
  have ps4 : PS G x.o l4 := by rw [ho]; exact l4_PS hq
  have o1 : x.o.oneCell' = true := by rw [ho]; rfl
  have o2 : x.o.cells.toList = [x.o] := by rw [ho]; rfl
  have key : ∀ ρ1 F, F = G ++ [some ⟨true, 26, [.int .i64 x.a0, .int .i64 x.a1, .int .i64 x.a2, .int .i64 x.a3, .int .i64 x.a4, .int .i64 100000, .int .i64 0, .int .i64 500, .int .i64 20000, .int .i64 10000, .int .i64 12000, .int .i64 3000, .int .i64 4200, .int .i64 300, .int .i64 600, .int .i64 1000, .int .i64 20, .int .i64 100, .int .i64 x.a18, .int .i64 50, x.o, .int .i64 3000, .int .i64 500, .int .i64 3000, .int .i64 1073741825, .int .i64 x.a25, x.f]⟩] → ρ1 9 = .bool true → ρ1 10 = .pointer (some ⟨G.length, 0, none⟩) → ρ1 11 = .int .i64 25 → Ok (done [.tmp 8] (E Tryd.prog hints t4 ρ1 F)) := by
    intro ρ1 F hF a9 a10 a11
    have yF : Ext G F := ⟨_, hF⟩
    have hok : (⟨x.a0, x.a1, x.a2, x.a3, x.a4, 100000, 0, 500, 20000, 10000, 12000, 3000, 4200, 300, 600, 1000, 20, 100, x.a18, 50, x.o, 3000, 500, 3000, 1073741825, x.a25, x.f⟩ : Cf).ok := by
      constructor
      all_goals first | rfl | exact o1 | exact o2 | exact g1' | exact g2'
    refine key4 ⟨x.a0, x.a1, x.a2, x.a3, x.a4, 100000, 0, 500, 20000, 10000, 12000, 3000, 4200, 300, 600, 1000, 20, 100, x.a18, 50, x.o, 3000, 500, 3000, 1073741825, x.a25, x.f⟩ hok 25 (by decide) ρ1 F (hE.ext yF) ?_ G.length ?_ a9 a10 a11
    · intro H hH
      have hb : fbk 0 (bds ⟨x.a0, x.a1, x.a2, x.a3, x.a4, 100000, 0, 500, 20000, 10000, 12000, 3000, 4200, 300, 600, 1000, 20, 100, x.a18, 50, x.o, 3000, 500, 3000, 1073741825, x.a25, x.f⟩) = none := by
        apply fbk_none
        simp only [bds, List.mem_cons, List.not_mem_nil, or_false, forall_eq_or_imp, forall_eq]
        omega
      obtain ⟨F', e, y⟩ := amiss_tab ⟨x.a0, x.a1, x.a2, x.a3, x.a4, 100000, 0, 500, 20000, 10000, 12000, 3000, 4200, 300, 600, 1000, 20, 100, x.a18, 50, x.o, 3000, 500, 3000, 1073741825, x.a25, x.f⟩ hok hb l4 l4_tab (0, 20000) (100000, 28000) rfl rfl (fdl K i) (by rw [fdl_len]; omega) H (PS.ext (ps4.ext yF) hH) (FS.ext (hf.ext yF) hH)
      refine ⟨F', ?_, y⟩
      rw [e]
      congr 3
      all_goals
        unfold amR
        simp only
        have he : fbk 0 (eds ⟨x.a0, x.a1, x.a2, x.a3, x.a4, 100000, 0, 500, 20000, 10000, 12000, 3000, 4200, 300, 600, 1000, 20, 100, x.a18, 50, x.o, 3000, 500, 3000, 1073741825, x.a25, x.f⟩) = some 3 := by
          simp only [eds, fbk]
          rw [if_pos (by omega), if_pos (by omega), if_pos (by omega), if_neg (by omega)]
        rw [if_neg (by decide), if_neg (by decide), he]
        rfl
    · rw [hF]; exact (live_app_len _ _).trans rfl
  simp (maxDischargeDepth := 8) only [u4, Cf.L, cfOf, c4_6, c4_7, c4_8, c4_9, c4_10, c4_11, c4_12, c4_13, c4_14, c4_15, c4_16, c4_17, c4_18, c4_19, c4_20, c4_21, c4_22, c4_23, c4_24, c4_25, c4_26, c4_27, c4_28, c4_29, c4_30, c4_31, c4_32, c4_33, c4_34, c4_35, c4_36, c4_37, c4_38, c4_39, c4_40, c4_41, c4_42, q3, q9, q10, nf, o1, o2, g1', g2', RUN, Ed, knd, kndR, resV, binInt, mnmxV, mnmx2, fillL, unV, extractV, partV, loadAt, Nat.reduceAdd, Nat.reduceBEq, Nat.reduceEqDiff, Nat.reduceLT, Nat.reduceLeDiff, Nat.reduceMul, Nat.reduceSub, reduceIte, Int.reduceEq, Int.reduceNe, Int.reduceLT, Int.reduceLE, Int.reduceAdd, Int.reduceSub, Int.reduceMul, Int.reduceNeg, Int.reduceMod, Int.reduceDiv, Int.reduceTMod, Int.reduceTDiv, Int.reduceToNat, okChain_i, okLoads_nil, okLoads_in, okLoads_eq]
  refine key _ _ rfl ?_ ?_ ?_
  all_goals first | (simp (maxDischargeDepth := 8) only [q9, q10, RUN, Ed, knd, kndR, resV, binInt, mnmxV, mnmx2, fillL, unV, lenV, extractV, partV, loadAt, Nat.reduceAdd, Nat.reduceBEq, Nat.reduceEqDiff, Nat.reduceLT, Nat.reduceLeDiff, Nat.reduceMul, Nat.reduceSub, reduceIte, Int.reduceEq, Int.reduceNe, Int.reduceLT, Int.reduceLE, Int.reduceAdd, Int.reduceSub, Int.reduceMul, Int.reduceNeg, Int.reduceMod, Int.reduceDiv, Int.reduceTMod, Int.reduceTDiv, Int.reduceToNat, okChain_i, okLoads_nil, okLoads_in, okLoads_eq]; done) | (simp (maxDischargeDepth := 8) only [q9, q10, RUN, Ed, knd, kndR, resV, binInt, mnmxV, mnmx2, fillL, unV, lenV, extractV, partV, loadAt, Nat.reduceAdd, Nat.reduceBEq, Nat.reduceEqDiff, Nat.reduceLT, Nat.reduceLeDiff, Nat.reduceMul, Nat.reduceSub, reduceIte, Int.reduceEq, Int.reduceNe, Int.reduceLT, Int.reduceLE, Int.reduceAdd, Int.reduceSub, Int.reduceMul, Int.reduceNeg, Int.reduceMod, Int.reduceDiv, Int.reduceTMod, Int.reduceTDiv, Int.reduceToNat, okChain_i, okLoads_nil, okLoads_in, okLoads_eq]; rfl)
set_option maxRecDepth 100000 in
theorem mid4_7 (x : Cv) (K : Int) (i q : Nat) (G : Heap) (hI : In4 x K i q G) (w0 : Int) (nf : ∀ F, D Tryd.prog hints 9 [.int .i64 w0, .int .i64 12] F = some (.int .i64 7, F)) (ρ : Fr) (q3 : ρ 3 = .int .i64 w0) (q9 : ρ 9 = .bool true) (q10 : ρ 10 = .pointer (some ⟨G.length, 0, none⟩)) : Ok (done [.tmp 8] (E Tryd.prog hints u4 ρ (G ++ [some ⟨true, 26, (cfOf x).L⟩]))) := by
  obtain ⟨hx, hE, ho, hq, hf, hi⟩ := hI
  obtain ⟨h0, h1, h2, h3, h4, h18, h24, h25⟩ := hx
  obtain ⟨g1', g2'⟩ := hf.one
  have ps4 : PS G x.o l4 := by rw [ho]; exact l4_PS hq
  have o1 : x.o.oneCell' = true := by rw [ho]; rfl
  have o2 : x.o.cells.toList = [x.o] := by rw [ho]; rfl
  have key : ∀ ρ1 F, F = G ++ [some ⟨true, 26, [.int .i64 x.a0, .int .i64 x.a1, .int .i64 x.a2, .int .i64 x.a3, .int .i64 x.a4, .int .i64 100000, .int .i64 0, .int .i64 500, .int .i64 20000, .int .i64 10000, .int .i64 12000, .int .i64 3000, .int .i64 4200, .int .i64 300, .int .i64 600, .int .i64 1000, .int .i64 20, .int .i64 100, .int .i64 x.a18, .int .i64 50, x.o, .int .i64 3000, .int .i64 500, .int .i64 3000, .int .i64 x.a24, .int .i64 499, x.f]⟩] → ρ1 9 = .bool true → ρ1 10 = .pointer (some ⟨G.length, 0, none⟩) → ρ1 11 = .int .i64 26 → Ok (done [.tmp 8] (E Tryd.prog hints t4 ρ1 F)) := by
    intro ρ1 F hF a9 a10 a11
    have yF : Ext G F := ⟨_, hF⟩
    have hok : (⟨x.a0, x.a1, x.a2, x.a3, x.a4, 100000, 0, 500, 20000, 10000, 12000, 3000, 4200, 300, 600, 1000, 20, 100, x.a18, 50, x.o, 3000, 500, 3000, x.a24, 499, x.f⟩ : Cf).ok := by
      constructor
      all_goals first | rfl | exact o1 | exact o2 | exact g1' | exact g2'
    refine key4 ⟨x.a0, x.a1, x.a2, x.a3, x.a4, 100000, 0, 500, 20000, 10000, 12000, 3000, 4200, 300, 600, 1000, 20, 100, x.a18, 50, x.o, 3000, 500, 3000, x.a24, 499, x.f⟩ hok 26 (by decide) ρ1 F (hE.ext yF) ?_ G.length ?_ a9 a10 a11
    · intro H hH
      have hb : fbk 0 (bds ⟨x.a0, x.a1, x.a2, x.a3, x.a4, 100000, 0, 500, 20000, 10000, 12000, 3000, 4200, 300, 600, 1000, 20, 100, x.a18, 50, x.o, 3000, 500, 3000, x.a24, 499, x.f⟩) = none := by
        apply fbk_none
        simp only [bds, List.mem_cons, List.not_mem_nil, or_false, forall_eq_or_imp, forall_eq]
        omega
      obtain ⟨F', e, y⟩ := amiss_tab ⟨x.a0, x.a1, x.a2, x.a3, x.a4, 100000, 0, 500, 20000, 10000, 12000, 3000, 4200, 300, 600, 1000, 20, 100, x.a18, 50, x.o, 3000, 500, 3000, x.a24, 499, x.f⟩ hok hb l4 l4_tab (0, 20000) (100000, 28000) rfl rfl (fdl K i) (by rw [fdl_len]; omega) H (PS.ext (ps4.ext yF) hH) (FS.ext (hf.ext yF) hH)
      refine ⟨F', ?_, y⟩
      rw [e]
      congr 3
      all_goals
        unfold amR
        simp only
        have he : fbk 0 (eds ⟨x.a0, x.a1, x.a2, x.a3, x.a4, 100000, 0, 500, 20000, 10000, 12000, 3000, 4200, 300, 600, 1000, 20, 100, x.a18, 50, x.o, 3000, 500, 3000, x.a24, 499, x.f⟩) = some 4 := by
          simp only [eds, fbk]
          rw [if_pos (by omega), if_pos (by omega), if_pos (by omega), if_pos (by omega), if_neg (by omega)]
        rw [if_neg (by decide), if_neg (by decide), he]
        rfl
    · rw [hF]; exact (live_app_len _ _).trans rfl
  simp (maxDischargeDepth := 8) only [u4, Cf.L, cfOf, c4_6, c4_7, c4_8, c4_9, c4_10, c4_11, c4_12, c4_13, c4_14, c4_15, c4_16, c4_17, c4_18, c4_19, c4_20, c4_21, c4_22, c4_23, c4_24, c4_25, c4_26, c4_27, c4_28, c4_29, c4_30, c4_31, c4_32, c4_33, c4_34, c4_35, c4_36, c4_37, c4_38, c4_39, c4_40, c4_41, c4_42, q3, q9, q10, nf, o1, o2, g1', g2', RUN, Ed, knd, kndR, resV, binInt, mnmxV, mnmx2, fillL, unV, extractV, partV, loadAt, Nat.reduceAdd, Nat.reduceBEq, Nat.reduceEqDiff, Nat.reduceLT, Nat.reduceLeDiff, Nat.reduceMul, Nat.reduceSub, reduceIte, Int.reduceEq, Int.reduceNe, Int.reduceLT, Int.reduceLE, Int.reduceAdd, Int.reduceSub, Int.reduceMul, Int.reduceNeg, Int.reduceMod, Int.reduceDiv, Int.reduceTMod, Int.reduceTDiv, Int.reduceToNat, okChain_i, okLoads_nil, okLoads_in, okLoads_eq]
  refine key _ _ rfl ?_ ?_ ?_
  all_goals first | (simp (maxDischargeDepth := 8) only [q9, q10, RUN, Ed, knd, kndR, resV, binInt, mnmxV, mnmx2, fillL, unV, lenV, extractV, partV, loadAt, Nat.reduceAdd, Nat.reduceBEq, Nat.reduceEqDiff, Nat.reduceLT, Nat.reduceLeDiff, Nat.reduceMul, Nat.reduceSub, reduceIte, Int.reduceEq, Int.reduceNe, Int.reduceLT, Int.reduceLE, Int.reduceAdd, Int.reduceSub, Int.reduceMul, Int.reduceNeg, Int.reduceMod, Int.reduceDiv, Int.reduceTMod, Int.reduceTDiv, Int.reduceToNat, okChain_i, okLoads_nil, okLoads_in, okLoads_eq]; done) | (simp (maxDischargeDepth := 8) only [q9, q10, RUN, Ed, knd, kndR, resV, binInt, mnmxV, mnmx2, fillL, unV, lenV, extractV, partV, loadAt, Nat.reduceAdd, Nat.reduceBEq, Nat.reduceEqDiff, Nat.reduceLT, Nat.reduceLeDiff, Nat.reduceMul, Nat.reduceSub, reduceIte, Int.reduceEq, Int.reduceNe, Int.reduceLT, Int.reduceLE, Int.reduceAdd, Int.reduceSub, Int.reduceMul, Int.reduceNeg, Int.reduceMod, Int.reduceDiv, Int.reduceTMod, Int.reduceTDiv, Int.reduceToNat, okChain_i, okLoads_nil, okLoads_in, okLoads_eq]; rfl)
set_option maxRecDepth 100000 in
theorem mid4_8 (x : Cv) (K : Int) (i q : Nat) (G : Heap) (hI : In4 x K i q G) (w0 : Int) (nf : ∀ F, D Tryd.prog hints 9 [.int .i64 w0, .int .i64 12] F = some (.int .i64 8, F)) (ρ : Fr) (q3 : ρ 3 = .int .i64 w0) (q9 : ρ 9 = .bool true) (q10 : ρ 10 = .pointer (some ⟨G.length, 0, none⟩)) : Ok (done [.tmp 8] (E Tryd.prog hints u4 ρ (G ++ [some ⟨true, 26, (cfOf x).L⟩]))) := by
  obtain ⟨hx, hE, ho, hq, hf, hi⟩ := hI
  obtain ⟨h0, h1, h2, h3, h4, h18, h24, h25⟩ := hx
  obtain ⟨g1', g2'⟩ := hf.one
  have ps4 : PS G x.o l4 := by rw [ho]; exact l4_PS hq
  have o1 : x.o.oneCell' = true := by rw [ho]; rfl
  have o2 : x.o.cells.toList = [x.o] := by rw [ho]; rfl
  have mk : ∀ CC : Option Blk, mksliceV 41 3 24 [.int .i64 0, .int .i64 0, .int .i64 0] (G ++ [CC]) (.int .i64 17) (.int .i64 17) = some (.slice (some ⟨G.length + 1, 0, none⟩) 17 3, G ++ [CC, some ⟨true, 41, fillZ [.int .i64 0, .int .i64 0, .int .i64 0] 17⟩]) := by
    intro CC
    have := mkslice_i (H := G ++ [CC]) 41 3 24 [.int .i64 0, .int .i64 0, .int .i64 0] .i64 .i64 17 17 (by omega) (by omega) (by omega) (by omega)
    rw [this]
    simp
  have key : ∀ ρ1 F, F = G ++ [some ⟨true, 26, [.int .i64 x.a0, .int .i64 x.a1, .int .i64 x.a2, .int .i64 x.a3, .int .i64 x.a4, .int .i64 100000, .int .i64 0, .int .i64 500, .int .i64 20000, .int .i64 10000, .int .i64 12000, .int .i64 3000, .int .i64 4200, .int .i64 300, .int .i64 600, .int .i64 1000, .int .i64 20, .int .i64 100, .int .i64 x.a18, .int .i64 50, x.o, .int .i64 3000, .int .i64 500, .int .i64 3000, .int .i64 x.a24, .int .i64 x.a25, .slice (some ⟨G.length + 1, 0, none⟩) 17 3]⟩, some ⟨true, 41, fillZ [.int .i64 0, .int .i64 0, .int .i64 0] 17⟩] → ρ1 9 = .bool true → ρ1 10 = .pointer (some ⟨G.length, 0, none⟩) → ρ1 11 = .int .i64 27 → Ok (done [.tmp 8] (E Tryd.prog hints t4 ρ1 F)) := by
    intro ρ1 F hF a9 a10 a11
    have yF : Ext G F := ⟨_, hF⟩
    have hok : (⟨x.a0, x.a1, x.a2, x.a3, x.a4, 100000, 0, 500, 20000, 10000, 12000, 3000, 4200, 300, 600, 1000, 20, 100, x.a18, 50, x.o, 3000, 500, 3000, x.a24, x.a25, .slice (some ⟨G.length + 1, 0, none⟩) 17 3⟩ : Cf).ok := by
      constructor
      all_goals first | rfl | exact o1 | exact o2 | exact g1' | exact g2'
    refine key4 ⟨x.a0, x.a1, x.a2, x.a3, x.a4, 100000, 0, 500, 20000, 10000, 12000, 3000, 4200, 300, 600, 1000, 20, 100, x.a18, 50, x.o, 3000, 500, 3000, x.a24, x.a25, .slice (some ⟨G.length + 1, 0, none⟩) 17 3⟩ hok 27 (by decide) ρ1 F (hE.ext yF) ?_ G.length ?_ a9 a10 a11
    · intro H hH
      have hb : fbk 0 (bds ⟨x.a0, x.a1, x.a2, x.a3, x.a4, 100000, 0, 500, 20000, 10000, 12000, 3000, 4200, 300, 600, 1000, 20, 100, x.a18, 50, x.o, 3000, 500, 3000, x.a24, x.a25, .slice (some ⟨G.length + 1, 0, none⟩) 17 3⟩) = none := by
        apply fbk_none
        simp only [bds, List.mem_cons, List.not_mem_nil, or_false, forall_eq_or_imp, forall_eq]
        omega
      obtain ⟨F', e, y⟩ := amiss_tab ⟨x.a0, x.a1, x.a2, x.a3, x.a4, 100000, 0, 500, 20000, 10000, 12000, 3000, 4200, 300, 600, 1000, 20, 100, x.a18, 50, x.o, 3000, 500, 3000, x.a24, x.a25, .slice (some ⟨G.length + 1, 0, none⟩) 17 3⟩ hok hb l4 l4_tab (0, 20000) (100000, 28000) rfl rfl (List.replicate 17 ((0, 0, 0) : Fd)) (by decide) H (PS.ext (ps4.ext yF) hH) (FS.ext (.inr ⟨G.length + 1, 3, true, 41, rfl, by rw [hF, ← c17]; exact (live_app_add _ _ _).trans rfl⟩) hH)
      refine ⟨F', ?_, y⟩
      rw [e]
      congr 3
      all_goals
        unfold amR
        simp only
        have he : fbk 0 (eds ⟨x.a0, x.a1, x.a2, x.a3, x.a4, 100000, 0, 500, 20000, 10000, 12000, 3000, 4200, 300, 600, 1000, 20, 100, x.a18, 50, x.o, 3000, 500, 3000, x.a24, x.a25, .slice (some ⟨G.length + 1, 0, none⟩) 17 3⟩) = none := by
          apply fbk_none
          simp only [eds, List.mem_cons, List.not_mem_nil, or_false, forall_eq_or_imp, forall_eq]
          omega
        rw [if_neg (by decide), if_neg (by decide), he]
        exact if_neg not17
    · rw [hF]; exact (live_app_len _ _).trans rfl
  simp (maxDischargeDepth := 8) only [u4, Cf.L, cfOf, c4_6, c4_7, c4_8, c4_9, c4_10, c4_11, c4_12, c4_13, c4_14, c4_15, c4_16, c4_17, c4_18, c4_19, c4_20, c4_21, c4_22, c4_23, c4_24, c4_25, c4_26, c4_27, c4_28, c4_29, c4_30, c4_31, c4_32, c4_33, c4_34, c4_35, c4_36, c4_37, c4_38, c4_39, c4_40, c4_41, c4_42, q3, q9, q10, nf, o1, o2, g1', g2', mk, RUN, Ed, knd, kndR, resV, binInt, mnmxV, mnmx2, fillL, unV, extractV, partV, loadAt, Nat.reduceAdd, Nat.reduceBEq, Nat.reduceEqDiff, Nat.reduceLT, Nat.reduceLeDiff, Nat.reduceMul, Nat.reduceSub, reduceIte, Int.reduceEq, Int.reduceNe, Int.reduceLT, Int.reduceLE, Int.reduceAdd, Int.reduceSub, Int.reduceMul, Int.reduceNeg, Int.reduceMod, Int.reduceDiv, Int.reduceTMod, Int.reduceTDiv, Int.reduceToNat, okChain_i, okLoads_nil, okLoads_in, okLoads_eq]
  refine key _ _ rfl ?_ ?_ ?_
  all_goals first | (simp (maxDischargeDepth := 8) only [q9, q10, RUN, Ed, knd, kndR, resV, binInt, mnmxV, mnmx2, fillL, unV, lenV, extractV, partV, loadAt, Nat.reduceAdd, Nat.reduceBEq, Nat.reduceEqDiff, Nat.reduceLT, Nat.reduceLeDiff, Nat.reduceMul, Nat.reduceSub, reduceIte, Int.reduceEq, Int.reduceNe, Int.reduceLT, Int.reduceLE, Int.reduceAdd, Int.reduceSub, Int.reduceMul, Int.reduceNeg, Int.reduceMod, Int.reduceDiv, Int.reduceTMod, Int.reduceTDiv, Int.reduceToNat, okChain_i, okLoads_nil, okLoads_in, okLoads_eq]; done) | (simp (maxDischargeDepth := 8) only [q9, q10, RUN, Ed, knd, kndR, resV, binInt, mnmxV, mnmx2, fillL, unV, lenV, extractV, partV, loadAt, Nat.reduceAdd, Nat.reduceBEq, Nat.reduceEqDiff, Nat.reduceLT, Nat.reduceLeDiff, Nat.reduceMul, Nat.reduceSub, reduceIte, Int.reduceEq, Int.reduceNe, Int.reduceLT, Int.reduceLE, Int.reduceAdd, Int.reduceSub, Int.reduceMul, Int.reduceNeg, Int.reduceMod, Int.reduceDiv, Int.reduceTMod, Int.reduceTDiv, Int.reduceToNat, okChain_i, okLoads_nil, okLoads_in, okLoads_eq]; rfl)
set_option maxRecDepth 100000 in
theorem mid4_9 (x : Cv) (K : Int) (i q : Nat) (G : Heap) (hI : In4 x K i q G) (w0 : Int) (nf : ∀ F, D Tryd.prog hints 9 [.int .i64 w0, .int .i64 12] F = some (.int .i64 9, F)) (ρ : Fr) (q3 : ρ 3 = .int .i64 w0) (q9 : ρ 9 = .bool true) (q10 : ρ 10 = .pointer (some ⟨G.length, 0, none⟩)) : Ok (done [.tmp 8] (E Tryd.prog hints u4 ρ (G ++ [some ⟨true, 26, (cfOf x).L⟩]))) := by
  obtain ⟨hx, hE, ho, hq, hf, hi⟩ := hI
  obtain ⟨h0, h1, h2, h3, h4, h18, h24, h25⟩ := hx
  obtain ⟨g1', g2'⟩ := hf.one
  have ps4 : PS G x.o l4 := by rw [ho]; exact l4_PS hq
  have o1 : x.o.oneCell' = true := by rw [ho]; rfl
  have o2 : x.o.cells.toList = [x.o] := by rw [ho]; rfl
  have ea : ∀ CC : Option Blk, appendV 41 3 24 (G ++ [CC, some ⟨true, 41, []⟩, some ⟨true, 41, [.int .i64 3, .int .i64 0, .int .i64 0]⟩]) (.slice (some ⟨G.length + 1, 0, none⟩) 0 3) (.slice (some ⟨G.length + 2, 0, none⟩) 1 3) = some (.slice (some ⟨G.length + 3, 0, none⟩) 1 3, G ++ [CC, none, some ⟨true, 41, [.int .i64 3, .int .i64 0, .int .i64 0]⟩, some ⟨true, 41, [.int .i64 3, .int .i64 0, .int .i64 0]⟩]) := by
    intro CC
    have := append_cons (ty := 41) (esz := 3) (bytes := 24) (H := G ++ [CC, some ⟨true, 41, []⟩, some ⟨true, 41, [.int .i64 3, .int .i64 0, .int .i64 0]⟩]) (i := G.length + 1) (n := 0) (e := 3) (j := G.length + 2) (m := 1) (o := true) (t := 41) (cs := [.int .i64 3, .int .i64 0, .int .i64 0]) (ds := []) ((live_app_add _ _ _).trans rfl) (by rfl) ((live_app_add _ _ _).trans rfl) (by omega) (by simp) (by omega) (by rfl)
    rw [this, set_app_add]
    simp
  have key : ∀ ρ1 F, F = G ++ [some ⟨true, 26, [.int .i64 x.a0, .int .i64 x.a1, .int .i64 x.a2, .int .i64 x.a3, .int .i64 x.a4, .int .i64 100000, .int .i64 0, .int .i64 500, .int .i64 20000, .int .i64 10000, .int .i64 12000, .int .i64 3000, .int .i64 4200, .int .i64 300, .int .i64 600, .int .i64 1000, .int .i64 20, .int .i64 100, .int .i64 x.a18, .int .i64 50, x.o, .int .i64 3000, .int .i64 500, .int .i64 3000, .int .i64 x.a24, .int .i64 x.a25, .slice (some ⟨G.length + 3, 0, none⟩) 1 3]⟩, none, some ⟨true, 41, [.int .i64 3, .int .i64 0, .int .i64 0]⟩, some ⟨true, 41, [.int .i64 3, .int .i64 0, .int .i64 0]⟩] → ρ1 9 = .bool true → ρ1 10 = .pointer (some ⟨G.length, 0, none⟩) → ρ1 11 = .int .i64 27 → Ok (done [.tmp 8] (E Tryd.prog hints t4 ρ1 F)) := by
    intro ρ1 F hF a9 a10 a11
    have yF : Ext G F := ⟨_, hF⟩
    have hok : (⟨x.a0, x.a1, x.a2, x.a3, x.a4, 100000, 0, 500, 20000, 10000, 12000, 3000, 4200, 300, 600, 1000, 20, 100, x.a18, 50, x.o, 3000, 500, 3000, x.a24, x.a25, .slice (some ⟨G.length + 3, 0, none⟩) 1 3⟩ : Cf).ok := by
      constructor
      all_goals first | rfl | exact o1 | exact o2 | exact g1' | exact g2'
    refine key4 ⟨x.a0, x.a1, x.a2, x.a3, x.a4, 100000, 0, 500, 20000, 10000, 12000, 3000, 4200, 300, 600, 1000, 20, 100, x.a18, 50, x.o, 3000, 500, 3000, x.a24, x.a25, .slice (some ⟨G.length + 3, 0, none⟩) 1 3⟩ hok 27 (by decide) ρ1 F (hE.ext yF) ?_ G.length ?_ a9 a10 a11
    · intro H hH
      have hb : fbk 0 (bds ⟨x.a0, x.a1, x.a2, x.a3, x.a4, 100000, 0, 500, 20000, 10000, 12000, 3000, 4200, 300, 600, 1000, 20, 100, x.a18, 50, x.o, 3000, 500, 3000, x.a24, x.a25, .slice (some ⟨G.length + 3, 0, none⟩) 1 3⟩) = none := by
        apply fbk_none
        simp only [bds, List.mem_cons, List.not_mem_nil, or_false, forall_eq_or_imp, forall_eq]
        omega
      obtain ⟨F', e, y⟩ := amiss_tab ⟨x.a0, x.a1, x.a2, x.a3, x.a4, 100000, 0, 500, 20000, 10000, 12000, 3000, 4200, 300, 600, 1000, 20, 100, x.a18, 50, x.o, 3000, 500, 3000, x.a24, x.a25, .slice (some ⟨G.length + 3, 0, none⟩) 1 3⟩ hok hb l4 l4_tab (0, 20000) (100000, 28000) rfl rfl [((3, 0, 0) : Fd)] (by decide) H (PS.ext (ps4.ext yF) hH) (FS.ext (.inr ⟨G.length + 3, 3, true, 41, rfl, by rw [hF]; exact (live_app_add _ _ _).trans rfl⟩) hH)
      refine ⟨F', ?_, y⟩
      rw [e]
      congr 3
      all_goals
        unfold amR
        simp only
        have he : fbk 0 (eds ⟨x.a0, x.a1, x.a2, x.a3, x.a4, 100000, 0, 500, 20000, 10000, 12000, 3000, 4200, 300, 600, 1000, 20, 100, x.a18, 50, x.o, 3000, 500, 3000, x.a24, x.a25, .slice (some ⟨G.length + 3, 0, none⟩) 1 3⟩) = none := by
          apply fbk_none
          simp only [eds, List.mem_cons, List.not_mem_nil, or_false, forall_eq_or_imp, forall_eq]
          omega
        rw [if_neg (by decide), if_neg (by decide), he]
        exact if_neg not1
    · rw [hF]; exact (live_app_len _ _).trans rfl
  simp (maxDischargeDepth := 8) only [u4, Cf.L, cfOf, c4_6, c4_7, c4_8, c4_9, c4_10, c4_11, c4_12, c4_13, c4_14, c4_15, c4_16, c4_17, c4_18, c4_19, c4_20, c4_21, c4_22, c4_23, c4_24, c4_25, c4_26, c4_27, c4_28, c4_29, c4_30, c4_31, c4_32, c4_33, c4_34, c4_35, c4_36, c4_37, c4_38, c4_39, c4_40, c4_41, c4_42, q3, q9, q10, nf, o1, o2, g1', g2', ea, fillL, RUN, Ed, knd, kndR, resV, binInt, mnmxV, mnmx2, fillL, unV, extractV, partV, loadAt, Nat.reduceAdd, Nat.reduceBEq, Nat.reduceEqDiff, Nat.reduceLT, Nat.reduceLeDiff, Nat.reduceMul, Nat.reduceSub, reduceIte, Int.reduceEq, Int.reduceNe, Int.reduceLT, Int.reduceLE, Int.reduceAdd, Int.reduceSub, Int.reduceMul, Int.reduceNeg, Int.reduceMod, Int.reduceDiv, Int.reduceTMod, Int.reduceTDiv, Int.reduceToNat, okChain_i, okLoads_nil, okLoads_in, okLoads_eq]
  refine key _ _ rfl ?_ ?_ ?_
  all_goals first | (simp (maxDischargeDepth := 8) only [q9, q10, RUN, Ed, knd, kndR, resV, binInt, mnmxV, mnmx2, fillL, unV, lenV, extractV, partV, loadAt, Nat.reduceAdd, Nat.reduceBEq, Nat.reduceEqDiff, Nat.reduceLT, Nat.reduceLeDiff, Nat.reduceMul, Nat.reduceSub, reduceIte, Int.reduceEq, Int.reduceNe, Int.reduceLT, Int.reduceLE, Int.reduceAdd, Int.reduceSub, Int.reduceMul, Int.reduceNeg, Int.reduceMod, Int.reduceDiv, Int.reduceTMod, Int.reduceTDiv, Int.reduceToNat, okChain_i, okLoads_nil, okLoads_in, okLoads_eq]; done) | (simp (maxDischargeDepth := 8) only [q9, q10, RUN, Ed, knd, kndR, resV, binInt, mnmxV, mnmx2, fillL, unV, lenV, extractV, partV, loadAt, Nat.reduceAdd, Nat.reduceBEq, Nat.reduceEqDiff, Nat.reduceLT, Nat.reduceLeDiff, Nat.reduceMul, Nat.reduceSub, reduceIte, Int.reduceEq, Int.reduceNe, Int.reduceLT, Int.reduceLE, Int.reduceAdd, Int.reduceSub, Int.reduceMul, Int.reduceNeg, Int.reduceMod, Int.reduceDiv, Int.reduceTMod, Int.reduceTDiv, Int.reduceToNat, okChain_i, okLoads_nil, okLoads_in, okLoads_eq]; rfl)
set_option maxRecDepth 100000 in
theorem mid4_10 (x : Cv) (K : Int) (i q : Nat) (G : Heap) (hI : In4 x K i q G) (w0 : Int) (nf : ∀ F, D Tryd.prog hints 9 [.int .i64 w0, .int .i64 12] F = some (.int .i64 10, F)) (ρ : Fr) (q3 : ρ 3 = .int .i64 w0) (q9 : ρ 9 = .bool true) (q10 : ρ 10 = .pointer (some ⟨G.length, 0, none⟩)) : Ok (done [.tmp 8] (E Tryd.prog hints u4 ρ (G ++ [some ⟨true, 26, (cfOf x).L⟩]))) := by
  obtain ⟨hx, hE, ho, hq, hf, hi⟩ := hI
  obtain ⟨h0, h1, h2, h3, h4, h18, h24, h25⟩ := hx
  obtain ⟨g1', g2'⟩ := hf.one
  have ps4 : PS G x.o l4 := by rw [ho]; exact l4_PS hq
  have o1 : x.o.oneCell' = true := by rw [ho]; rfl
  have o2 : x.o.cells.toList = [x.o] := by rw [ho]; rfl
  have ea : ∀ CC : Option Blk, appendV 41 3 24 (G ++ [CC, some ⟨true, 41, []⟩, some ⟨true, 41, [.int .i64 6, .int .i64 0, .int .i64 101]⟩]) (.slice (some ⟨G.length + 1, 0, none⟩) 0 3) (.slice (some ⟨G.length + 2, 0, none⟩) 1 3) = some (.slice (some ⟨G.length + 3, 0, none⟩) 1 3, G ++ [CC, none, some ⟨true, 41, [.int .i64 6, .int .i64 0, .int .i64 101]⟩, some ⟨true, 41, [.int .i64 6, .int .i64 0, .int .i64 101]⟩]) := by
    intro CC
    have := append_cons (ty := 41) (esz := 3) (bytes := 24) (H := G ++ [CC, some ⟨true, 41, []⟩, some ⟨true, 41, [.int .i64 6, .int .i64 0, .int .i64 101]⟩]) (i := G.length + 1) (n := 0) (e := 3) (j := G.length + 2) (m := 1) (o := true) (t := 41) (cs := [.int .i64 6, .int .i64 0, .int .i64 101]) (ds := []) ((live_app_add _ _ _).trans rfl) (by rfl) ((live_app_add _ _ _).trans rfl) (by omega) (by simp) (by omega) (by rfl)
    rw [this, set_app_add]
    simp
  have key : ∀ ρ1 F, F = G ++ [some ⟨true, 26, [.int .i64 x.a0, .int .i64 x.a1, .int .i64 x.a2, .int .i64 x.a3, .int .i64 x.a4, .int .i64 100000, .int .i64 0, .int .i64 500, .int .i64 20000, .int .i64 10000, .int .i64 12000, .int .i64 3000, .int .i64 4200, .int .i64 300, .int .i64 600, .int .i64 1000, .int .i64 20, .int .i64 100, .int .i64 x.a18, .int .i64 50, x.o, .int .i64 3000, .int .i64 500, .int .i64 3000, .int .i64 x.a24, .int .i64 x.a25, .slice (some ⟨G.length + 3, 0, none⟩) 1 3]⟩, none, some ⟨true, 41, [.int .i64 6, .int .i64 0, .int .i64 101]⟩, some ⟨true, 41, [.int .i64 6, .int .i64 0, .int .i64 101]⟩] → ρ1 9 = .bool true → ρ1 10 = .pointer (some ⟨G.length, 0, none⟩) → ρ1 11 = .int .i64 27 → Ok (done [.tmp 8] (E Tryd.prog hints t4 ρ1 F)) := by
    intro ρ1 F hF a9 a10 a11
    have yF : Ext G F := ⟨_, hF⟩
    have hok : (⟨x.a0, x.a1, x.a2, x.a3, x.a4, 100000, 0, 500, 20000, 10000, 12000, 3000, 4200, 300, 600, 1000, 20, 100, x.a18, 50, x.o, 3000, 500, 3000, x.a24, x.a25, .slice (some ⟨G.length + 3, 0, none⟩) 1 3⟩ : Cf).ok := by
      constructor
      all_goals first | rfl | exact o1 | exact o2 | exact g1' | exact g2'
    refine key4 ⟨x.a0, x.a1, x.a2, x.a3, x.a4, 100000, 0, 500, 20000, 10000, 12000, 3000, 4200, 300, 600, 1000, 20, 100, x.a18, 50, x.o, 3000, 500, 3000, x.a24, x.a25, .slice (some ⟨G.length + 3, 0, none⟩) 1 3⟩ hok 27 (by decide) ρ1 F (hE.ext yF) ?_ G.length ?_ a9 a10 a11
    · intro H hH
      have hb : fbk 0 (bds ⟨x.a0, x.a1, x.a2, x.a3, x.a4, 100000, 0, 500, 20000, 10000, 12000, 3000, 4200, 300, 600, 1000, 20, 100, x.a18, 50, x.o, 3000, 500, 3000, x.a24, x.a25, .slice (some ⟨G.length + 3, 0, none⟩) 1 3⟩) = none := by
        apply fbk_none
        simp only [bds, List.mem_cons, List.not_mem_nil, or_false, forall_eq_or_imp, forall_eq]
        omega
      obtain ⟨F', e, y⟩ := amiss_tab ⟨x.a0, x.a1, x.a2, x.a3, x.a4, 100000, 0, 500, 20000, 10000, 12000, 3000, 4200, 300, 600, 1000, 20, 100, x.a18, 50, x.o, 3000, 500, 3000, x.a24, x.a25, .slice (some ⟨G.length + 3, 0, none⟩) 1 3⟩ hok hb l4 l4_tab (0, 20000) (100000, 28000) rfl rfl [((6, 0, 101) : Fd)] (by decide) H (PS.ext (ps4.ext yF) hH) (FS.ext (.inr ⟨G.length + 3, 3, true, 41, rfl, by rw [hF]; exact (live_app_add _ _ _).trans rfl⟩) hH)
      refine ⟨F', ?_, y⟩
      rw [e]
      congr 3
      all_goals
        unfold amR
        simp only
        have he : fbk 0 (eds ⟨x.a0, x.a1, x.a2, x.a3, x.a4, 100000, 0, 500, 20000, 10000, 12000, 3000, 4200, 300, 600, 1000, 20, 100, x.a18, 50, x.o, 3000, 500, 3000, x.a24, x.a25, .slice (some ⟨G.length + 3, 0, none⟩) 1 3⟩) = none := by
          apply fbk_none
          simp only [eds, List.mem_cons, List.not_mem_nil, or_false, forall_eq_or_imp, forall_eq]
          omega
        rw [if_neg (by decide), if_neg (by decide), he]
        exact if_neg not2
    · rw [hF]; exact (live_app_len _ _).trans rfl
  simp (maxDischargeDepth := 8) only [u4, Cf.L, cfOf, c4_6, c4_7, c4_8, c4_9, c4_10, c4_11, c4_12, c4_13, c4_14, c4_15, c4_16, c4_17, c4_18, c4_19, c4_20, c4_21, c4_22, c4_23, c4_24, c4_25, c4_26, c4_27, c4_28, c4_29, c4_30, c4_31, c4_32, c4_33, c4_34, c4_35, c4_36, c4_37, c4_38, c4_39, c4_40, c4_41, c4_42, q3, q9, q10, nf, o1, o2, g1', g2', ea, fillL, RUN, Ed, knd, kndR, resV, binInt, mnmxV, mnmx2, fillL, unV, extractV, partV, loadAt, Nat.reduceAdd, Nat.reduceBEq, Nat.reduceEqDiff, Nat.reduceLT, Nat.reduceLeDiff, Nat.reduceMul, Nat.reduceSub, reduceIte, Int.reduceEq, Int.reduceNe, Int.reduceLT, Int.reduceLE, Int.reduceAdd, Int.reduceSub, Int.reduceMul, Int.reduceNeg, Int.reduceMod, Int.reduceDiv, Int.reduceTMod, Int.reduceTDiv, Int.reduceToNat, okChain_i, okLoads_nil, okLoads_in, okLoads_eq]
  refine key _ _ rfl ?_ ?_ ?_
  all_goals first | (simp (maxDischargeDepth := 8) only [q9, q10, RUN, Ed, knd, kndR, resV, binInt, mnmxV, mnmx2, fillL, unV, lenV, extractV, partV, loadAt, Nat.reduceAdd, Nat.reduceBEq, Nat.reduceEqDiff, Nat.reduceLT, Nat.reduceLeDiff, Nat.reduceMul, Nat.reduceSub, reduceIte, Int.reduceEq, Int.reduceNe, Int.reduceLT, Int.reduceLE, Int.reduceAdd, Int.reduceSub, Int.reduceMul, Int.reduceNeg, Int.reduceMod, Int.reduceDiv, Int.reduceTMod, Int.reduceTDiv, Int.reduceToNat, okChain_i, okLoads_nil, okLoads_in, okLoads_eq]; done) | (simp (maxDischargeDepth := 8) only [q9, q10, RUN, Ed, knd, kndR, resV, binInt, mnmxV, mnmx2, fillL, unV, lenV, extractV, partV, loadAt, Nat.reduceAdd, Nat.reduceBEq, Nat.reduceEqDiff, Nat.reduceLT, Nat.reduceLeDiff, Nat.reduceMul, Nat.reduceSub, reduceIte, Int.reduceEq, Int.reduceNe, Int.reduceLT, Int.reduceLE, Int.reduceAdd, Int.reduceSub, Int.reduceMul, Int.reduceNeg, Int.reduceMod, Int.reduceDiv, Int.reduceTMod, Int.reduceTDiv, Int.reduceToNat, okChain_i, okLoads_nil, okLoads_in, okLoads_eq]; rfl)
set_option maxRecDepth 100000 in
theorem mid4_11 (x : Cv) (K : Int) (i q : Nat) (G : Heap) (hI : In4 x K i q G) (w0 : Int) (nf : ∀ F, D Tryd.prog hints 9 [.int .i64 w0, .int .i64 12] F = some (.int .i64 11, F)) (ρ : Fr) (q3 : ρ 3 = .int .i64 w0) (q9 : ρ 9 = .bool true) (q10 : ρ 10 = .pointer (some ⟨G.length, 0, none⟩)) : Ok (done [.tmp 8] (E Tryd.prog hints u4 ρ (G ++ [some ⟨true, 26, (cfOf x).L⟩]))) := by
  obtain ⟨hx, hE, ho, hq, hf, hi⟩ := hI
  obtain ⟨h0, h1, h2, h3, h4, h18, h24, h25⟩ := hx
  obtain ⟨g1', g2'⟩ := hf.one
  have ps4 : PS G x.o l4 := by rw [ho]; exact l4_PS hq
  have o1 : x.o.oneCell' = true := by rw [ho]; rfl
  have o2 : x.o.cells.toList = [x.o] := by rw [ho]; rfl
  have key : ∀ ρ1 F, F = G ++ [some ⟨true, 26, [.int .i64 x.a0, .int .i64 x.a1, .int .i64 x.a2, .int .i64 x.a3, .int .i64 x.a4, .int .i64 100000, .int .i64 0, .int .i64 500, .int .i64 20000, .int .i64 10000, .int .i64 12000, .int .i64 3000, .int .i64 4200, .int .i64 300, .int .i64 600, .int .i64 1000, .int .i64 20, .int .i64 100, .int .i64 500001, .int .i64 50, x.o, .int .i64 3000, .int .i64 500, .int .i64 3000, .int .i64 (-1), .int .i64 x.a25, x.f]⟩] → ρ1 9 = .bool true → ρ1 10 = .pointer (some ⟨G.length, 0, none⟩) → ρ1 11 = .int .i64 19 → Ok (done [.tmp 8] (E Tryd.prog hints t4 ρ1 F)) := by
    intro ρ1 F hF a9 a10 a11
    have yF : Ext G F := ⟨_, hF⟩
    have hok : (⟨x.a0, x.a1, x.a2, x.a3, x.a4, 100000, 0, 500, 20000, 10000, 12000, 3000, 4200, 300, 600, 1000, 20, 100, 500001, 50, x.o, 3000, 500, 3000, (-1), x.a25, x.f⟩ : Cf).ok := by
      constructor
      all_goals first | rfl | exact o1 | exact o2 | exact g1' | exact g2'
    refine key4 ⟨x.a0, x.a1, x.a2, x.a3, x.a4, 100000, 0, 500, 20000, 10000, 12000, 3000, 4200, 300, 600, 1000, 20, 100, 500001, 50, x.o, 3000, 500, 3000, (-1), x.a25, x.f⟩ hok 19 (by decide) ρ1 F (hE.ext yF) ?_ G.length ?_ a9 a10 a11
    · intro H hH
      have hj : fbk 0 (bds ⟨x.a0, x.a1, x.a2, x.a3, x.a4, 100000, 0, 500, 20000, 10000, 12000, 3000, 4200, 300, 600, 1000, 20, 100, 500001, 50, x.o, 3000, 500, 3000, (-1), x.a25, x.f⟩) = some 18 := by
        simp only [bds, fbk]
        rw [if_pos (by omega), if_pos (by omega), if_pos (by omega), if_pos (by omega), if_pos (by omega), if_pos (by omega), if_pos (by omega), if_pos (by omega), if_pos (by omega), if_pos (by omega), if_pos (by omega), if_pos (by omega), if_pos (by omega), if_pos (by omega), if_pos (by omega), if_pos (by omega), if_pos (by omega), if_pos (by omega), if_neg (by omega)]
      exact amiss_bad ⟨x.a0, x.a1, x.a2, x.a3, x.a4, 100000, 0, 500, 20000, 10000, 12000, 3000, 4200, 300, 600, 1000, 20, 100, 500001, 50, x.o, 3000, 500, 3000, (-1), x.a25, x.f⟩ hok 18 hj (by decide) H
    · rw [hF]; exact (live_app_len _ _).trans rfl
  simp (maxDischargeDepth := 8) only [u4, Cf.L, cfOf, c4_6, c4_7, c4_8, c4_9, c4_10, c4_11, c4_12, c4_13, c4_14, c4_15, c4_16, c4_17, c4_18, c4_19, c4_20, c4_21, c4_22, c4_23, c4_24, c4_25, c4_26, c4_27, c4_28, c4_29, c4_30, c4_31, c4_32, c4_33, c4_34, c4_35, c4_36, c4_37, c4_38, c4_39, c4_40, c4_41, c4_42, q3, q9, q10, nf, o1, o2, g1', g2', RUN, Ed, knd, kndR, resV, binInt, mnmxV, mnmx2, fillL, unV, extractV, partV, loadAt, Nat.reduceAdd, Nat.reduceBEq, Nat.reduceEqDiff, Nat.reduceLT, Nat.reduceLeDiff, Nat.reduceMul, Nat.reduceSub, reduceIte, Int.reduceEq, Int.reduceNe, Int.reduceLT, Int.reduceLE, Int.reduceAdd, Int.reduceSub, Int.reduceMul, Int.reduceNeg, Int.reduceMod, Int.reduceDiv, Int.reduceTMod, Int.reduceTDiv, Int.reduceToNat, okChain_i, okLoads_nil, okLoads_in, okLoads_eq]
  refine key _ _ rfl ?_ ?_ ?_
  all_goals first | (simp (maxDischargeDepth := 8) only [q9, q10, RUN, Ed, knd, kndR, resV, binInt, mnmxV, mnmx2, fillL, unV, lenV, extractV, partV, loadAt, Nat.reduceAdd, Nat.reduceBEq, Nat.reduceEqDiff, Nat.reduceLT, Nat.reduceLeDiff, Nat.reduceMul, Nat.reduceSub, reduceIte, Int.reduceEq, Int.reduceNe, Int.reduceLT, Int.reduceLE, Int.reduceAdd, Int.reduceSub, Int.reduceMul, Int.reduceNeg, Int.reduceMod, Int.reduceDiv, Int.reduceTMod, Int.reduceTDiv, Int.reduceToNat, okChain_i, okLoads_nil, okLoads_in, okLoads_eq]; done) | (simp (maxDischargeDepth := 8) only [q9, q10, RUN, Ed, knd, kndR, resV, binInt, mnmxV, mnmx2, fillL, unV, lenV, extractV, partV, loadAt, Nat.reduceAdd, Nat.reduceBEq, Nat.reduceEqDiff, Nat.reduceLT, Nat.reduceLeDiff, Nat.reduceMul, Nat.reduceSub, reduceIte, Int.reduceEq, Int.reduceNe, Int.reduceLT, Int.reduceLE, Int.reduceAdd, Int.reduceSub, Int.reduceMul, Int.reduceNeg, Int.reduceMod, Int.reduceDiv, Int.reduceTMod, Int.reduceTDiv, Int.reduceToNat, okChain_i, okLoads_nil, okLoads_in, okLoads_eq]; rfl)
set_option maxRecDepth 100000 in
theorem parts (n m k w : Int) (H : Heap) (hE : EH all7 H) (hn : -9223372036854775808 ≤ n ∧ n ≤ 9223372036854775807) (hm : -9223372036854775808 ≤ m ∧ m ≤ 9223372036854775807) (hk : -9223372036854775808 ≤ k ∧ k ≤ 9223372036854775807) (hw : -9223372036854775808 ≤ w ∧ w ≤ 9223372036854775807) : Ok (D Tryd.prog hints 4 [.int .i64 n, .int .i64 m, .int .i64 k, .int .i64 w] H) := by
  obtain ⟨X0, e0⟩ := first_f H hE
  obtain ⟨G0, hG0⟩ : ∃ G0, G0 = H ++ X0 := ⟨_, rfl⟩
  rw [← hG0] at e0
  have E0 : EH all7 G0 := hE.ext ⟨_, hG0⟩
  obtain ⟨f, G, e1, hfd, hoc, hold⟩ := configG_f n m k G0 hn hm hk
  simp only [K] at e1
  rw [cfgL_eq] at e1
  have hf := fdl_FS hfd
  have hI : In4 (cvG n m k G0.length f) (k % 1048576) (feedN m) (G0.length + 2) G := ⟨cvG_ok n m k _ _, E0.old hold, rfl, hoc, hf, by unfold feedN; omega⟩
  have o1 : (cvG n m k G0.length f).o.oneCell' = true := rfl
  have o2 : (cvG n m k G0.length f).o.cells.toList = [(cvG n m k G0.length f).o] := rfl
  have f1 : (cvG n m k G0.length f).f.oneCell' = true := hf.one.1
  have f2 : (cvG n m k G0.length f).f.cells.toList = [(cvG n m k G0.length f).f] := hf.one.2
  generalize cvG n m k G0.length f = x at *
  have nf : ∀ F, D Tryd.prog hints 9 [.int .i64 w, .int .i64 12] F = some (.int .i64 (w % 12), F) := fun F => number_f w 12 F hw.1 hw.2 (by omega) (by omega)
  have key : ∀ ρ F, F = G ++ [some ⟨true, 26, (cfOf x).L⟩] → ρ 3 = .int .i64 w → ρ 9 = .bool true → ρ 10 = .pointer (some ⟨G.length, 0, none⟩) → Ok (done [.tmp 8] (E Tryd.prog hints u4 ρ F)) := by
    intro ρ F hF q3 q9 q10
    subst hF
    have hh : w % 12 = 0 ∨ w % 12 = 1 ∨ w % 12 = 2 ∨ w % 12 = 3 ∨ w % 12 = 4 ∨ w % 12 = 5 ∨ w % 12 = 6 ∨ w % 12 = 7 ∨ w % 12 = 8 ∨ w % 12 = 9 ∨ w % 12 = 10 ∨ w % 12 = 11 := by omega
    rcases hh with h | h | h | h | h | h | h | h | h | h | h | h
    all_goals rw [h] at nf
    · exact mid4_0 x _ _ _ G hI w nf ρ q3 q9 q10
    · exact mid4_1 x _ _ _ G hI w nf ρ q3 q9 q10
    · exact mid4_2 x _ _ _ G hI w nf ρ q3 q9 q10
    · exact mid4_3 x _ _ _ G hI w nf ρ q3 q9 q10
    · exact mid4_4 x _ _ _ G hI w nf ρ q3 q9 q10
    · exact mid4_5 x _ _ _ G hI w nf ρ q3 q9 q10
    · exact mid4_6 x _ _ _ G hI w nf ρ q3 q9 q10
    · exact mid4_7 x _ _ _ G hI w nf ρ q3 q9 q10
    · exact mid4_8 x _ _ _ G hI w nf ρ q3 q9 q10
    · exact mid4_9 x _ _ _ G hI w nf ρ q3 q9 q10
    · exact mid4_10 x _ _ _ G hI w nf ρ q3 q9 q10
    · exact mid4_11 x _ _ _ G hI w nf ρ q3 q9 q10
  simp only [Cf.L, cfOf] at e1 key
  rw [D_eq p4 _ _ (Nat.le_of_ble_eq_true rfl)]
  simp (maxDischargeDepth := 8) only [r4, b4t, c4_0, c4_1, c4_2, c4_3, c4_4, c4_5, e0, e1, o1, o2, f1, f2, RUN, Ed, knd, kndR, resV, binInt, mnmxV, mnmx2, fillL, unV, lenV, extractV, partV, loadAt, Nat.reduceAdd, Nat.reduceBEq, Nat.reduceEqDiff, Nat.reduceLT, Nat.reduceLeDiff, Nat.reduceMul, Nat.reduceSub, reduceIte, Int.reduceEq, Int.reduceNe, Int.reduceLT, Int.reduceLE, Int.reduceAdd, Int.reduceSub, Int.reduceMul, Int.reduceNeg, Int.reduceMod, Int.reduceDiv, Int.reduceTMod, Int.reduceTDiv, Int.reduceToNat, okChain_i, okLoads_nil, okLoads_in, okLoads_eq]
  refine key _ _ rfl ?_ ?_ ?_
  all_goals first | (simp (maxDischargeDepth := 8) only [RUN, Ed, knd, kndR, resV, binInt, mnmxV, mnmx2, fillL, unV, lenV, extractV, partV, loadAt, Nat.reduceAdd, Nat.reduceBEq, Nat.reduceEqDiff, Nat.reduceLT, Nat.reduceLeDiff, Nat.reduceMul, Nat.reduceSub, reduceIte, Int.reduceEq, Int.reduceNe, Int.reduceLT, Int.reduceLE, Int.reduceAdd, Int.reduceSub, Int.reduceMul, Int.reduceNeg, Int.reduceMod, Int.reduceDiv, Int.reduceTMod, Int.reduceTDiv, Int.reduceToNat, okChain_i, okLoads_nil, okLoads_in, okLoads_eq]; done) | (simp (maxDischargeDepth := 8) only [RUN, Ed, knd, kndR, resV, binInt, mnmxV, mnmx2, fillL, unV, lenV, extractV, partV, loadAt, Nat.reduceAdd, Nat.reduceBEq, Nat.reduceEqDiff, Nat.reduceLT, Nat.reduceLeDiff, Nat.reduceMul, Nat.reduceSub, reduceIte, Int.reduceEq, Int.reduceNe, Int.reduceLT, Int.reduceLE, Int.reduceAdd, Int.reduceSub, Int.reduceMul, Int.reduceNeg, Int.reduceMod, Int.reduceDiv, Int.reduceTMod, Int.reduceTDiv, Int.reduceToNat, okChain_i, okLoads_nil, okLoads_in, okLoads_eq]; rfl)
def sh4 : List Sh := [.int .i64, .int .i64, .int .i64, .int .i64]
theorem parts_law (H : Heap) (h : EH all7 H) (ls : List (List Value)) (o : OpnAll H sh4 ls) : Ok (D Tryd.prog hints 4 (argsS sh4 ls) H) := by
  obtain ⟨l0, _, rfl, h0, o⟩ := o.uncons
  obtain ⟨l1, _, rfl, h1, o⟩ := o.uncons
  obtain ⟨l2, _, rfl, h2, o⟩ := o.uncons
  obtain ⟨l3, _, rfl, h3, o⟩ := o.uncons
  cases o.unnil
  simp only [Opn.eq_1] at h0 h1 h2 h3
  obtain ⟨a, rfl, ha⟩ := h0
  obtain ⟨b, rfl, hb⟩ := h1
  obtain ⟨c, rfl, hc⟩ := h2
  obtain ⟨d, rfl, hd⟩ := h3
  exact parts a b c d H h (wfi64 ha) (wfi64 hb) (wfi64 hc) (wfi64 hd)
end Go.Proofs.YtceildmghmigaaaDoor.Sim
