/- The stage theorem of configurations: the law. -/
import Derived.Test.YtceildmghmigaaaDoorCon19
import Derived.Test.YtceildmghmigaaaDoorSim21
namespace Go.Proofs.YtceildmghmigaaaDoor.Sim
open Go
set_option linter.unusedSimpArgs false
set_option linter.unusedVariables false
def s5 : RCode := (.seq (.region c5_6) t5)
theorem b5t : b5 = (.seq (.region c5_0) (.seq (.region c5_1) (.seq (.seq (.region c5_2) (.cond (.tmp 13) (.seq (.region c5_3) .ret) .skip)) (.seq (.seq (.region c5_4) (.cond (.tmp 23) (.seq (.region c5_5) .ret) .skip)) s5)))) := (rfl)
theorem tail5 (c : Cf) (hk : c.ok) (l : List Pt) (hl : l.length ≤ 1000) (k : List Fd) (hkl : k.length ≤ 1000) (n m kk : Int) (hn : -9223372036854775808 ≤ n ∧ n ≤ 9223372036854775807) (hm : -9223372036854775808 ≤ m ∧ m ≤ 9223372036854775807) (hkk : -9223372036854775808 ≤ kk ∧ kk ≤ 9223372036854775807) (B : Heap) (hE : EH all7 B) (hps : PS B c.o l) (hfs : FS B c.f k) (p4 : Nat) (k4 : live B p4 = some ⟨true, 26, c.L⟩) (ρ : Fr) (r1 : ρ 1 = .int .i64 n) (r2 : ρ 2 = .int .i64 m) (r3 : ρ 3 = .int .i64 kk) (r4 : ρ 4 = .pointer (some ⟨p4, 0, none⟩)) (r9 : ρ 9 = .bool true) : Ok (done [.tmp 8] (E Tryd.prog hints s5 ρ B)) := by
  obtain ⟨cc, G, e1, E1, hcc, hold⟩ := config_f n m kk B hE hn hm hkk
  have key : ∀ ρ1 F, F = G ++ [some ⟨true, 26, cc.L⟩] → ρ1 4 = .pointer (some ⟨p4, 0, none⟩) → ρ1 9 = .bool true → ρ1 10 = .pointer (some ⟨G.length, 0, none⟩) → Ok (done [.tmp 8] (E Tryd.prog hints t5 ρ1 F)) := by
    intro ρ1 F hF a4 a9 a10
    have yF : Ext G F := ⟨_, hF⟩
    exact draw5 c hk l hl k hkl F (E1.ext yF) ((hps.old hold).ext yF) ((hfs.old hold).ext yF) cc G hcc yF p4 G.length (yF.live (hold _ _ k4)) (by rw [hF]; exact (live_app_len _ _).trans rfl) ρ1 a4 a9 a10
  obtain ⟨u1, u2, u3, u4⟩ := hcc.ok
  clear hcc
  obtain ⟨d', b', s', p', h', cap', qmin', imax', trip', vmin', vdark', cmin', cmax', cgap', tmax', coil', ohm', sag', amp', drift', o', gen', bat', ext', eland', margin', f'⟩ := cc
  simp only at u1 u2 u3 u4
  simp only [Cf.L] at e1 key
  simp (maxDischargeDepth := 8) only [s5, c5_6, r1, r2, r3, e1, u1, u2, u3, u4, RUN, Ed, knd, kndR, resV, binInt, mnmxV, mnmx2, fillL, unV, lenV, extractV, partV, loadAt, Nat.reduceAdd, Nat.reduceBEq, Nat.reduceEqDiff, Nat.reduceLT, Nat.reduceLeDiff, Nat.reduceMul, Nat.reduceSub, reduceIte, Int.reduceEq, Int.reduceNe, Int.reduceLT, Int.reduceLE, Int.reduceAdd, Int.reduceSub, Int.reduceMul, Int.reduceNeg, Int.reduceMod, Int.reduceDiv, Int.reduceTMod, Int.reduceTDiv, Int.reduceToNat, okChain_i, okLoads_nil, okLoads_in, okLoads_eq]
  refine key _ _ rfl ?_ ?_ ?_
  all_goals first | (simp (maxDischargeDepth := 8) only [r4, r9, RUN, Ed, knd, kndR, resV, binInt, mnmxV, mnmx2, fillL, unV, lenV, extractV, partV, loadAt, Nat.reduceAdd, Nat.reduceBEq, Nat.reduceEqDiff, Nat.reduceLT, Nat.reduceLeDiff, Nat.reduceMul, Nat.reduceSub, reduceIte, Int.reduceEq, Int.reduceNe, Int.reduceLT, Int.reduceLE, Int.reduceAdd, Int.reduceSub, Int.reduceMul, Int.reduceNeg, Int.reduceMod, Int.reduceDiv, Int.reduceTMod, Int.reduceTDiv, Int.reduceToNat, okChain_i, okLoads_nil, okLoads_in, okLoads_eq]; done) | (simp (maxDischargeDepth := 8) only [r4, r9, RUN, Ed, knd, kndR, resV, binInt, mnmxV, mnmx2, fillL, unV, lenV, extractV, partV, loadAt, Nat.reduceAdd, Nat.reduceBEq, Nat.reduceEqDiff, Nat.reduceLT, Nat.reduceLeDiff, Nat.reduceMul, Nat.reduceSub, reduceIte, Int.reduceEq, Int.reduceNe, Int.reduceLT, Int.reduceLE, Int.reduceAdd, Int.reduceSub, Int.reduceMul, Int.reduceNeg, Int.reduceMod, Int.reduceDiv, Int.reduceTMod, Int.reduceTDiv, Int.reduceToNat, okChain_i, okLoads_nil, okLoads_in, okLoads_eq]; rfl)
set_option maxRecDepth 100000 in
theorem csays (c : Cf) (hk : c.ok) (l : List Pt) (k : List Fd) (n m kk : Int) (hn : -9223372036854775808 ≤ n ∧ n ≤ 9223372036854775807) (hm : -9223372036854775808 ≤ m ∧ m ≤ 9223372036854775807) (hkk : -9223372036854775808 ≤ kk ∧ kk ≤ 9223372036854775807) (H : Heap) (hE : EH all7 H) (hps : PS H c.o l) (hfs : FS H c.f k) : Ok (D Tryd.prog hints 5 [.agg ⟨c.L⟩, .int .i64 n, .int .i64 m, .int .i64 kk] H) := by
  obtain ⟨H1, hH1⟩ : ∃ H1, H1 = H ++ [some ⟨true, 26, c.L⟩] := ⟨_, rfl⟩
  have x1 : Ext H H1 := ⟨_, hH1⟩
  have k1 : live H1 H.length = some ⟨true, 26, c.L⟩ := by rw [hH1]; exact (live_app_len _ _).trans rfl
  obtain ⟨X0, e0⟩ := first_f H1 (hE.ext x1)
  obtain ⟨G0, hG0⟩ : ∃ G0, G0 = H1 ++ X0 := ⟨_, rfl⟩
  rw [← hG0] at e0
  have y0 : Ext H1 G0 := ⟨_, hG0⟩
  have x2 := x1.trans y0
  have k4 := y0.live k1
  have i4 := live_ltG k4
  have lo := hps.len
  have lf := hfs.len
  have key : l.length ≤ 1000 → k.length ≤ 1000 → ∀ ρ, ρ 1 = .int .i64 n → ρ 2 = .int .i64 m → ρ 3 = .int .i64 kk → ρ 4 = .pointer (some ⟨H.length, 0, none⟩) → ρ 9 = .bool true → Ok (done [.tmp 8] (E Tryd.prog hints s5 ρ G0)) := fun hl hkl ρ r1 r2 r3 r4 r9 => tail5 c hk l hl k hkl n m kk hn hm hkk G0 (hE.ext x2) (hps.ext x2) (hfs.ext x2) H.length k4 ρ r1 r2 r3 r4 r9
  obtain ⟨o1, o2, o3, o4⟩ := hk
  obtain ⟨d, b, s, p, h, cap, qmin, imax, trip, vmin, vdark, cmin, cmax, cgap, tmax, coil, ohm, sag, amp, drift, o, gen, bat, ext, eland, margin, f⟩ := c
  simp only at o1 o2 o3 o4 lo lf
  simp only [Cf.L] at hH1 k4
  rw [D_eq p5 _ _ (Nat.le_of_ble_eq_true rfl)]
  by_cases c1 : (70 : Int) < (l.length : Int)
  · simp (maxDischargeDepth := 8) only [r5, b5t, c5_0, c5_1, c5_2, c5_3, c5_4, c5_5, Cf.L, o1, o2, o3, o4, ← hH1, e0, k4, i4, lo, c1, RUN, Ed, knd, kndR, resV, binInt, mnmxV, mnmx2, fillL, unV, extractV, partV, loadAt, Nat.reduceAdd, Nat.reduceBEq, Nat.reduceEqDiff, Nat.reduceLT, Nat.reduceLeDiff, Nat.reduceMul, Nat.reduceSub, reduceIte, Int.reduceEq, Int.reduceNe, Int.reduceLT, Int.reduceLE, Int.reduceAdd, Int.reduceSub, Int.reduceMul, Int.reduceNeg, Int.reduceMod, Int.reduceDiv, Int.reduceTMod, Int.reduceTDiv, Int.reduceToNat, okChain_i, okLoads_nil, okLoads_in, okLoads_eq]
    exact Ok.mk _
  by_cases c2 : (20 : Int) < (k.length : Int)
  · simp (maxDischargeDepth := 8) only [r5, b5t, c5_0, c5_1, c5_2, c5_3, c5_4, c5_5, Cf.L, o1, o2, o3, o4, ← hH1, e0, k4, i4, lo, lf, c1, c2, RUN, Ed, knd, kndR, resV, binInt, mnmxV, mnmx2, fillL, unV, extractV, partV, loadAt, Nat.reduceAdd, Nat.reduceBEq, Nat.reduceEqDiff, Nat.reduceLT, Nat.reduceLeDiff, Nat.reduceMul, Nat.reduceSub, reduceIte, Int.reduceEq, Int.reduceNe, Int.reduceLT, Int.reduceLE, Int.reduceAdd, Int.reduceSub, Int.reduceMul, Int.reduceNeg, Int.reduceMod, Int.reduceDiv, Int.reduceTMod, Int.reduceTDiv, Int.reduceToNat, okChain_i, okLoads_nil, okLoads_in, okLoads_eq]
    exact Ok.mk _
  simp (maxDischargeDepth := 8) only [r5, b5t, c5_0, c5_1, c5_2, c5_3, c5_4, c5_5, Cf.L, o1, o2, o3, o4, ← hH1, e0, k4, i4, lo, lf, c1, c2, RUN, Ed, knd, kndR, resV, binInt, mnmxV, mnmx2, fillL, unV, extractV, partV, loadAt, Nat.reduceAdd, Nat.reduceBEq, Nat.reduceEqDiff, Nat.reduceLT, Nat.reduceLeDiff, Nat.reduceMul, Nat.reduceSub, reduceIte, Int.reduceEq, Int.reduceNe, Int.reduceLT, Int.reduceLE, Int.reduceAdd, Int.reduceSub, Int.reduceMul, Int.reduceNeg, Int.reduceMod, Int.reduceDiv, Int.reduceTMod, Int.reduceTDiv, Int.reduceToNat, okChain_i, okLoads_nil, okLoads_in, okLoads_eq]
  refine key (by omega) (by omega) _ ?_ ?_ ?_ ?_ ?_
  all_goals first | (simp (maxDischargeDepth := 8) only [RUN, Ed, knd, kndR, resV, binInt, mnmxV, mnmx2, fillL, unV, lenV, extractV, partV, loadAt, Nat.reduceAdd, Nat.reduceBEq, Nat.reduceEqDiff, Nat.reduceLT, Nat.reduceLeDiff, Nat.reduceMul, Nat.reduceSub, reduceIte, Int.reduceEq, Int.reduceNe, Int.reduceLT, Int.reduceLE, Int.reduceAdd, Int.reduceSub, Int.reduceMul, Int.reduceNeg, Int.reduceMod, Int.reduceDiv, Int.reduceTMod, Int.reduceTDiv, Int.reduceToNat, okChain_i, okLoads_nil, okLoads_in, okLoads_eq]; done) | (simp (maxDischargeDepth := 8) only [RUN, Ed, knd, kndR, resV, binInt, mnmxV, mnmx2, fillL, unV, lenV, extractV, partV, loadAt, Nat.reduceAdd, Nat.reduceBEq, Nat.reduceEqDiff, Nat.reduceLT, Nat.reduceLeDiff, Nat.reduceMul, Nat.reduceSub, reduceIte, Int.reduceEq, Int.reduceNe, Int.reduceLT, Int.reduceLE, Int.reduceAdd, Int.reduceSub, Int.reduceMul, Int.reduceNeg, Int.reduceMod, Int.reduceDiv, Int.reduceTMod, Int.reduceTDiv, Int.reduceToNat, okChain_i, okLoads_nil, okLoads_in, okLoads_eq]; rfl)
def ptC (l : List Pt) : List Value := (l.map fun p => [Value.int .i64 p.1, .int .i64 p.2]).flatten
theorem ptC_get : ∀ (l : List Pt) (j : Nat) (p : Pt), l[j]? = some p → j * 2 + 2 ≤ (ptC l).length ∧ ((ptC l).drop (j * 2)).take 2 = [Value.int .i64 p.1, .int .i64 p.2] := by
  intro l
  induction l with
  | nil => intro j p h; simp at h
  | cons a l ih =>
    intro j p h
    have hc : ptC (a :: l) = [Value.int .i64 a.1, .int .i64 a.2] ++ ptC l := by simp [ptC]
    cases j with
    | zero =>
      rw [List.getElem?_cons_zero] at h
      injection h with h
      subst h
      rw [hc]
      exact ⟨by simp, rfl⟩
    | succ j =>
      rw [List.getElem?_cons_succ] at h
      obtain ⟨h1, h2⟩ := ih j p h
      rw [hc]
      refine ⟨by simp; omega, ?_⟩
      rw [show (j + 1) * 2 = 2 + j * 2 by omega, ← List.drop_drop]
      exact h2
theorem Opn_pts {H : Heap} {l : List Value} (h : Opn H (.slice (.agg ((.cons (.int .i64) (.cons (.int .i64) .nil))))) l) : ∃ (v : Value) (L : List Pt), l = [v] ∧ PS H v L := by
  simp only [Opn, OpnL] at h
  obtain ⟨i, x, ty, L, rfl, hl, hc, hm⟩ := h
  obtain ⟨M, rfl, hM⟩ := rows_map (fun p : Pt => [Value.int .i64 p.1, .int .i64 p.2]) (fun a => True) L (fun c hc' => by
    obtain ⟨a, b, rfl, ⟨x, rfl, _⟩, c', d, rfl, ⟨y, rfl, hy⟩, rfl⟩ := hc c hc'
    exact ⟨(x, y), rfl, trivial⟩)
  rw [List.length_map] at hm ⊢
  refine ⟨_, M, rfl, ?_⟩
  unfold argV
  by_cases h0 : M.length = 0
  · rw [if_pos h0]
    exact .inl ⟨List.eq_nil_of_length_eq_zero h0, x, rfl⟩
  · rw [if_neg h0]
    exact .inr ⟨i, 0, false, ty, _, rfl, hm (by omega), ptC_get M⟩
theorem Opn_fds {H : Heap} {l : List Value} (h : Opn H (.slice (.agg ((.cons (.int .i64) (.cons (.int .i64) (.cons (.int .i64) .nil)))))) l) : ∃ (v : Value) (L : List Fd), l = [v] ∧ FS H v L := by
  simp only [Opn, OpnL] at h
  obtain ⟨i, x, ty, L, rfl, hl, hc, hm⟩ := h
  obtain ⟨M, rfl, hM⟩ := rows_map bdL (fun a => True) L (fun c hc' => by
    obtain ⟨a, b, rfl, ⟨x, rfl, _⟩, c', d, rfl, ⟨y, rfl, hy⟩, c'', d', rfl, ⟨z, rfl, hz⟩, rfl⟩ := hc c hc'
    exact ⟨(x, y, z), rfl, trivial⟩)
  rw [List.length_map] at hm ⊢
  refine ⟨_, M, rfl, ?_⟩
  unfold argV
  by_cases h0 : M.length = 0
  · rw [if_pos h0]
    exact .inl ⟨List.eq_nil_of_length_eq_zero h0, x, rfl⟩
  · rw [if_neg h0]
    exact .inr ⟨i, 0, false, ty, rfl, hm (by omega)⟩
set_option maxRecDepth 100000 in
theorem Opn_cfg {H : Heap} {l : List Value} (h : Opn H (.agg ((.cons (.int .i64) (.cons (.int .i64) (.cons (.int .i64) (.cons (.int .i64) (.cons (.int .i64) (.cons (.int .i64) (.cons (.int .i64) (.cons (.int .i64) (.cons (.int .i64) (.cons (.int .i64) (.cons (.int .i64) (.cons (.int .i64) (.cons (.int .i64) (.cons (.int .i64) (.cons (.int .i64) (.cons (.int .i64) (.cons (.int .i64) (.cons (.int .i64) (.cons (.int .i64) (.cons (.int .i64) (.cons (.slice (.agg ((.cons (.int .i64) (.cons (.int .i64) .nil))))) (.cons (.int .i64) (.cons (.int .i64) (.cons (.int .i64) (.cons (.int .i64) (.cons (.int .i64) (.cons (.slice (.agg ((.cons (.int .i64) (.cons (.int .i64) (.cons (.int .i64) .nil)))))) .nil))))))))))))))))))))))))))))) l) : ∃ (c : Cf) (L : List Pt) (K : List Fd), l = c.L ∧ PS H c.o L ∧ FS H c.f K := by
  simp only [Opn.eq_4, OpnL] at h
  obtain ⟨_, _, rfl, h_d, _, _, rfl, h_b, _, _, rfl, h_s, _, _, rfl, h_p, _, _, rfl, h_h, _, _, rfl, h_cap, _, _, rfl, h_qmin, _, _, rfl, h_imax, _, _, rfl, h_trip, _, _, rfl, h_vmin, _, _, rfl, h_vdark, _, _, rfl, h_cmin, _, _, rfl, h_cmax, _, _, rfl, h_cgap, _, _, rfl, h_tmax, _, _, rfl, h_coil, _, _, rfl, h_ohm, _, _, rfl, h_sag, _, _, rfl, h_amp, _, _, rfl, h_drift, _, _, rfl, h_o, _, _, rfl, h_gen, _, _, rfl, h_bat, _, _, rfl, h_ext, _, _, rfl, h_eland, _, _, rfl, h_margin, _, _, rfl, h_f, rfl⟩ := h
  simp only [Opn.eq_1] at h_d h_b h_s h_p h_h h_cap h_qmin h_imax h_trip h_vmin h_vdark h_cmin h_cmax h_cgap h_tmax h_coil h_ohm h_sag h_amp h_drift h_gen h_bat h_ext h_eland h_margin
  obtain ⟨vo, L, rfl, ho⟩ := Opn_pts h_o
  obtain ⟨vf, K, rfl, hf⟩ := Opn_fds h_f
  obtain ⟨i_d, rfl, _⟩ := h_d
  obtain ⟨i_b, rfl, _⟩ := h_b
  obtain ⟨i_s, rfl, _⟩ := h_s
  obtain ⟨i_p, rfl, _⟩ := h_p
  obtain ⟨i_h, rfl, _⟩ := h_h
  obtain ⟨i_cap, rfl, _⟩ := h_cap
  obtain ⟨i_qmin, rfl, _⟩ := h_qmin
  obtain ⟨i_imax, rfl, _⟩ := h_imax
  obtain ⟨i_trip, rfl, _⟩ := h_trip
  obtain ⟨i_vmin, rfl, _⟩ := h_vmin
  obtain ⟨i_vdark, rfl, _⟩ := h_vdark
  obtain ⟨i_cmin, rfl, _⟩ := h_cmin
  obtain ⟨i_cmax, rfl, _⟩ := h_cmax
  obtain ⟨i_cgap, rfl, _⟩ := h_cgap
  obtain ⟨i_tmax, rfl, _⟩ := h_tmax
  obtain ⟨i_coil, rfl, _⟩ := h_coil
  obtain ⟨i_ohm, rfl, _⟩ := h_ohm
  obtain ⟨i_sag, rfl, _⟩ := h_sag
  obtain ⟨i_amp, rfl, _⟩ := h_amp
  obtain ⟨i_drift, rfl, _⟩ := h_drift
  obtain ⟨i_gen, rfl, _⟩ := h_gen
  obtain ⟨i_bat, rfl, _⟩ := h_bat
  obtain ⟨i_ext, rfl, _⟩ := h_ext
  obtain ⟨i_eland, rfl, _⟩ := h_eland
  obtain ⟨i_margin, rfl, _⟩ := h_margin
  exact ⟨⟨i_d, i_b, i_s, i_p, i_h, i_cap, i_qmin, i_imax, i_trip, i_vmin, i_vdark, i_cmin, i_cmax, i_cgap, i_tmax, i_coil, i_ohm, i_sag, i_amp, i_drift, vo, i_gen, i_bat, i_ext, i_eland, i_margin, vf⟩, L, K, rfl, ho, hf⟩
def sh5 : List Sh := [.agg ((.cons (.int .i64) (.cons (.int .i64) (.cons (.int .i64) (.cons (.int .i64) (.cons (.int .i64) (.cons (.int .i64) (.cons (.int .i64) (.cons (.int .i64) (.cons (.int .i64) (.cons (.int .i64) (.cons (.int .i64) (.cons (.int .i64) (.cons (.int .i64) (.cons (.int .i64) (.cons (.int .i64) (.cons (.int .i64) (.cons (.int .i64) (.cons (.int .i64) (.cons (.int .i64) (.cons (.int .i64) (.cons (.slice (.agg ((.cons (.int .i64) (.cons (.int .i64) .nil))))) (.cons (.int .i64) (.cons (.int .i64) (.cons (.int .i64) (.cons (.int .i64) (.cons (.int .i64) (.cons (.slice (.agg ((.cons (.int .i64) (.cons (.int .i64) (.cons (.int .i64) .nil)))))) .nil)))))))))))))))))))))))))))), .int .i64, .int .i64, .int .i64]
theorem csays_law (H : Heap) (h : EH all7 H) (ls : List (List Value)) (o : OpnAll H sh5 ls) : Ok (D Tryd.prog hints 5 (argsS sh5 ls) H) := by
  obtain ⟨l0, _, rfl, h0, o⟩ := o.uncons
  obtain ⟨l1, _, rfl, h1, o⟩ := o.uncons
  obtain ⟨l2, _, rfl, h2, o⟩ := o.uncons
  obtain ⟨l3, _, rfl, h3, o⟩ := o.uncons
  cases o.unnil
  obtain ⟨c, L, K, rfl, hps, hfs⟩ := Opn_cfg h0
  simp only [Opn.eq_1] at h1 h2 h3
  obtain ⟨a, rfl, ha⟩ := h1
  obtain ⟨b, rfl, hb⟩ := h2
  obtain ⟨d, rfl, hd⟩ := h3
  exact csays c ⟨hps.one.1, hps.one.2, hfs.one.1, hfs.one.2⟩ L K a b d (wfi64 ha) (wfi64 hb) (wfi64 hd) H h hps hfs
end Go.Proofs.YtceildmghmigaaaDoor.Sim
