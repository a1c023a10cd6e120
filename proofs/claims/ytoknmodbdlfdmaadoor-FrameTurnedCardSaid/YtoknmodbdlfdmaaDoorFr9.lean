/- The laws of chapter 6: bodies that are as long as may be. -/
import Derived.Test.YtoknmodbdlfdmaaDoorFr8
import Derived.Test.YtoknmodbdlfdmaaDoorSim21
namespace Go.Proofs.YtoknmodbdlfdmaaDoor.Sim
open Go Go.Proofs.YtoknmodbdlfdmaaDoor.CrcMath
set_option linter.unusedSimpArgs false
set_option linter.unusedVariables false
/-- A slice of bytes that was made here. -/
def BO (H G : Heap) (w : Value) (m : List B8) : Prop := SM 5 1 H G w m.length (bL (m.map w8))
theorem BO.BS {H G : Heap} {w : Value} {m : List B8} (h : BO H G w m) : Sim.BS G w (m.map w8) := by
  unfold BO at h
  rw [show m.length = (m.map w8).length by rw [List.length_map]] at h
  exact SM.BS h
theorem BO.len {H G : Heap} {w : Value} {m : List B8} (h : BO H G w m) : lenV false w = some (.int .i64 m.length) := SM.len h
theorem BO.ext {H G F : Heap} {w : Value} {m : List B8} (h : BO H G w m) (e : Ext G F) : BO H F w m := SM.ext h e
theorem BO.nil (H G : Heap) : BO H G (.slice none 0 0) [] := SM.nil _ _ _ _
theorem BO.app {H G F : Heap} {w : Value} {m k : List B8} (h : BO H G w m) (hG : Ext H G) (hF : Ext G F) {x : Value} (hx : Sim.BS F x (k.map w8)) (hl : m.length + k.length ≤ 1000000) :
    ∃ w' F', appendV 5 1 1 F w x = some (w', F') ∧ BO H F' w' (m ++ k) ∧ Ext H F' ∧ (∀ i b, ¬ owns w i → live F i = some b → live F' i = some b) ∧ (∀ i, i < F.length → ¬ owns w i → ¬ owns w' i) ∧ F.length ≤ F'.length := by
  obtain ⟨c1, c2⟩ := hx.cells
  rw [List.length_map] at c2
  obtain ⟨w', F', h1, h2, h3⟩ := SM.appendX (bytes := 1) h hG hF c1 c2 (by rw [bL_len, List.length_map]; omega) (by omega) (bL_one _)
  refine ⟨w', F', h1, ?_, h3⟩
  unfold BO
  rw [List.map_append, bL_app, List.length_append]
  exact h2
theorem BO.noown {H G : Heap} {w : Value} {m : List B8} (h : BO H G w m) {p : Nat} {ow : Bool} {ty : TypeId} {cs : List Value} (hp : live G p = some ⟨ow, ty, cs⟩) (ht : ty ≠ 5) : ¬ owns w p := by
  rintro ⟨n, e, he⟩
  rcases h with ⟨_, rfl, _⟩ | ⟨c, _, rfl, h3, _⟩
  · cases he
  · injection he with he; injection he with he; injection he with he
    subst he
    rw [h3] at hp
    injection hp with hp
    injection hp with _ hp
    exact ht hp.symm
def on1 : Nat → Bool := fun i => [1].contains i
theorem frame_long' (on : Nat → Bool) (h1 : on 1 = true) (f : Fra) (v : Value) (hl : 32 < f.2.2.length) (H : Heap) (hB : BS H v (f.2.2.map w8)) (hE : EH on H) :
    ∃ X, D Tryd.prog hints 9 [.agg ⟨frL f v⟩] H = some (.tuple ⟨[.slice none 0 0, Err 1]⟩, H ++ X) := by
  have l1 := hB.len
  rw [List.length_map] at l1
  obtain ⟨o1, o2⟩ := hB.one
  have hlt : (32 : Int) < (f.2.2.length : Int) := by omega
  obtain ⟨ty, e1⟩ := hE 1 (by omega) h1
  have i1 := live_ltG e1
  refine ⟨?X, ?run⟩
  case run =>
    rw [D_eq p9 _ _ (Nat.le_of_ble_eq_true rfl)]
    simp (maxDischargeDepth := 8) only [r9, b9, c9_0, c9_1, c9_2, c9_3, c9_4, c9_5, c9_6, frL, l1, hlt, o1, o2, e1, i1, g0, RUN, Ed, knd, kndR, resV, binInt, mnmxV, mnmx2, fillL, unV, extractV, partV, loadAt, Nat.reduceAdd, Nat.reduceBEq, Nat.reduceEqDiff, Nat.reduceLT, Nat.reduceLeDiff, Nat.reduceMul, Nat.reduceSub, reduceIte, Int.reduceEq, Int.reduceNe, Int.reduceLT, Int.reduceLE, Int.reduceAdd, Int.reduceSub, Int.reduceMul, Int.reduceNeg, Int.reduceMod, Int.reduceDiv, Int.reduceTMod, Int.reduceTDiv, Int.reduceToNat, okChain_i, okLoads_nil, okLoads_in, okLoads_eq]
    rfl
structure S7 (id seq fl : B8) (n p k : Nat) (ρ : Fr) : Prop where
  q2 : ρ 2 = .int .u8 (w8 fl)
  q3 : ρ 3 = .int .i64 n
  q9 : ρ 9 = .bool true
  q10 : ρ 10 = .pointer (some ⟨p, 0, none⟩)
  q11 : ρ 11 = .int .i64 k
def M7 (H : Heap) (id seq fl : B8) (p k : Nat) (G : Heap) : Prop := Ext H G ∧ H.length ≤ p ∧ ∃ w, live G p = some ⟨true, 24, frL (id, seq, List.replicate k fl) w⟩ ∧ BO H G w (List.replicate k fl)
theorem loop7 (H : Heap) (id seq fl : B8) (n p : Nat) (hn : n ≤ 1000) (ρ : Fr) (G : Heap) (hs : S7 id seq fl n p 0 ρ) (hm : M7 H id seq fl p 0 G) :
    ∃ ρ' G', E Tryd.prog hints (.loop l7_0) ρ G = some (.exit 0, ρ', G') ∧ S7 id seq fl n p n ρ' ∧ M7 H id seq fl p n G' := by
  refine loop_inv (fun k ρ G => S7 id seq fl n p k ρ ∧ M7 H id seq fl p k G) (fun ρ G => S7 id seq fl n p n ρ ∧ M7 H id seq fl p n G) n ?_ ?_ ρ G ⟨hs, hm⟩
  · rintro k ρ G hk ⟨⟨q2, q3, q9, q10, q11⟩, hE, hp, w, kp, hb⟩
    have ip := live_ltG kp
    have hlt : (k : Int) < (n : Int) := by omega
    have wk := wrap64 ((k : Int) + 1) (by omega) (by omega)
    have hx : BS (G ++ [some ⟨true, 5, bL [w8 fl]⟩]) (.slice (some ⟨G.length, 0, none⟩) 1 1) ([fl].map w8) := BS.of (A := [w8 fl]) ((live_app_len _ _).trans rfl)
    obtain ⟨w', F', ea, hb', hE', hk', ho', hl'⟩ := hb.app hE (Ext.more G _) hx (by simp; omega)
    have hno := hb.noown kp (by decide)
    have kp' := hk' p _ hno ((Ext.more G _).live kp)
    have hno' := ho' p (by simp; omega) hno
    have ip' := live_ltG kp'
    have hone := (hb'.BS).one
    rw [show List.replicate k fl ++ [fl] = List.replicate (k + 1) fl by rw [List.replicate_succ']] at hb'
    simp only [bL, List.map_cons, List.map_nil] at ea
    simp only [frL] at kp kp'
    have hset : frL (id, seq, List.replicate (k + 1) fl) w' = [Value.int .u8 (w8 id), .int .u8 (w8 seq), w'] := rfl
    refine ⟨?ρ1, ?G1, ?run1, ⟨?_, ?_, ?_, ?_, ?_⟩, ?inv1⟩
    case run1 =>
      simp (maxDischargeDepth := 8) only [l7_0, c7_0, c7_1, c7_2, c7_3, c7_4, c7_5, c7_6, c7_7, c7_8, c7_9, c7_10, c7_11, c7_12, c7_13, c7_14, q2, q3, q9, q10, q11, hlt, wk, kp, ip, ea, kp', ip', hone, RUN, Ed, knd, kndR, resV, binInt, mnmxV, mnmx2, fillL, unV, lenV, extractV, partV, loadAt, Nat.reduceAdd, Nat.reduceBEq, Nat.reduceEqDiff, Nat.reduceLT, Nat.reduceLeDiff, Nat.reduceMul, Nat.reduceSub, reduceIte, Int.reduceEq, Int.reduceNe, Int.reduceLT, Int.reduceLE, Int.reduceAdd, Int.reduceSub, Int.reduceMul, Int.reduceNeg, Int.reduceMod, Int.reduceDiv, Int.reduceTMod, Int.reduceTDiv, Int.reduceToNat, okChain_i, okLoads_nil, okLoads_in, okLoads_eq]
      rfl
    case inv1 =>
      refine ⟨hE'.set hp _, hp, w', ?_, SM.put hb' hno' _⟩
      rw [hset]
      exact live_set_eq _ _ _ ip'
    all_goals first | (simp (maxDischargeDepth := 8) only [q2, q3, q9, q10, q11, RUN, Ed, knd, kndR, resV, binInt, mnmxV, mnmx2, fillL, unV, lenV, extractV, partV, loadAt, Nat.reduceAdd, Nat.reduceBEq, Nat.reduceEqDiff, Nat.reduceLT, Nat.reduceLeDiff, Nat.reduceMul, Nat.reduceSub, reduceIte, Int.reduceEq, Int.reduceNe, Int.reduceLT, Int.reduceLE, Int.reduceAdd, Int.reduceSub, Int.reduceMul, Int.reduceNeg, Int.reduceMod, Int.reduceDiv, Int.reduceTMod, Int.reduceTDiv, Int.reduceToNat, okChain_i, okLoads_nil, okLoads_in, okLoads_eq]; done) | (simp (maxDischargeDepth := 8) only [q2, q3, q9, q10, q11, RUN, Ed, knd, kndR, resV, binInt, mnmxV, mnmx2, fillL, unV, lenV, extractV, partV, loadAt, Nat.reduceAdd, Nat.reduceBEq, Nat.reduceEqDiff, Nat.reduceLT, Nat.reduceLeDiff, Nat.reduceMul, Nat.reduceSub, reduceIte, Int.reduceEq, Int.reduceNe, Int.reduceLT, Int.reduceLE, Int.reduceAdd, Int.reduceSub, Int.reduceMul, Int.reduceNeg, Int.reduceMod, Int.reduceDiv, Int.reduceTMod, Int.reduceTDiv, Int.reduceToNat, okChain_i, okLoads_nil, okLoads_in, okLoads_eq]; rfl)
  · rintro ρ G ⟨⟨q2, q3, q9, q10, q11⟩, hm⟩
    have hlt : ¬ (n : Int) < (n : Int) := by omega
    refine ⟨?ρ2, G, ?run2, ⟨?_, ?_, ?_, ?_, ?_⟩, hm⟩
    case run2 =>
      simp (maxDischargeDepth := 8) only [l7_0, c7_7, q3, q11, hlt, RUN, Ed, knd, kndR, resV, binInt, mnmxV, mnmx2, fillL, unV, lenV, extractV, partV, loadAt, Nat.reduceAdd, Nat.reduceBEq, Nat.reduceEqDiff, Nat.reduceLT, Nat.reduceLeDiff, Nat.reduceMul, Nat.reduceSub, reduceIte, Int.reduceEq, Int.reduceNe, Int.reduceLT, Int.reduceLE, Int.reduceAdd, Int.reduceSub, Int.reduceMul, Int.reduceNeg, Int.reduceMod, Int.reduceDiv, Int.reduceTMod, Int.reduceTDiv, Int.reduceToNat, okChain_i, okLoads_nil, okLoads_in, okLoads_eq]
      rfl
    all_goals simp (maxDischargeDepth := 8) only [q2, q3, q9, q10, q11, RUN, Ed, knd, kndR, resV, binInt, mnmxV, mnmx2, fillL, unV, lenV, extractV, partV, loadAt, Nat.reduceAdd, Nat.reduceBEq, Nat.reduceEqDiff, Nat.reduceLT, Nat.reduceLeDiff, Nat.reduceMul, Nat.reduceSub, reduceIte, Int.reduceEq, Int.reduceNe, Int.reduceLT, Int.reduceLE, Int.reduceAdd, Int.reduceSub, Int.reduceMul, Int.reduceNeg, Int.reduceMod, Int.reduceDiv, Int.reduceTMod, Int.reduceTDiv, Int.reduceToNat, okChain_i, okLoads_nil, okLoads_in, okLoads_eq]
def t7 : RCode := (.seq (.region c7_10) (.seq (.region c7_11) (.seq (.seq (.region c7_12) (.cond (.tmp 46) (.seq (.region c7_13) .ret) .skip)) (.seq (.draw c7_14) .ret))))
theorem b7t : b7 = (.seq (.region c7_0) (.seq (.region c7_1) (.seq (.seq (.region c7_2) (.cond (.tmp 18) (.seq (.region c7_3) .ret) .skip)) (.seq (.region c7_4) (.seq (.region c7_5) (.seq (.seq (.region c7_6) (.block 0 (.loop l7_0))) t7)))))) := (rfl)
theorem tail7 (H : Heap) (hEH : EH on1 H) (id seq fl : B8) (n p : Nat) (hn : n ≤ 1000) (ρ : Fr) (G : Heap) (hs : S7 id seq fl n p n ρ) (hm : M7 H id seq fl p n G) : Ok (done [.tmp 8] (E Tryd.prog hints t7 ρ G)) := by
  obtain ⟨q2, q3, q9, q10, q11⟩ := hs
  obtain ⟨hE, hp, w, kp, hb⟩ := hm
  have ip := live_ltG kp
  have hB := hb.BS
  have hl : (List.replicate n fl).length = n := List.length_replicate
  by_cases h : (32 : Int) < (n : Int)
  · obtain ⟨X1, e1⟩ := frame_long' on1 rfl (id, seq, List.replicate n fl) w (by simp only [hl]; omega) G hB (hEH.ext hE)
    obtain ⟨w2, F2, e2, y2, m2⟩ := split_f (G ++ X1) (.slice none 0 0) [] (by simp) (BS.nil _ _)
    have lz : lenV false (.slice none 0 0) = some (.int .i64 0) := rfl
    simp only [frL] at e1 kp
    simp (maxDischargeDepth := 8) only [t7, c7_10, c7_11, c7_12, c7_13, q2, q3, q9, q10, q11, kp, ip, e1, e2, h, lz, same_En, RUN, Ed, knd, kndR, resV, binInt, mnmxV, mnmx2, fillL, unV, extractV, partV, loadAt, Nat.reduceAdd, Nat.reduceBEq, Nat.reduceEqDiff, Nat.reduceLT, Nat.reduceLeDiff, Nat.reduceMul, Nat.reduceSub, reduceIte, Int.reduceEq, Int.reduceNe, Int.reduceLT, Int.reduceLE, Int.reduceAdd, Int.reduceSub, Int.reduceMul, Int.reduceNeg, Int.reduceMod, Int.reduceDiv, Int.reduceTMod, Int.reduceTDiv, Int.reduceToNat, okChain_i, okLoads_nil, okLoads_in, okLoads_eq]
    exact Ok.mk _
  · obtain ⟨w1, F1, e1, y1, m1⟩ := frame_f (id, seq, List.replicate n fl) w (by simp only [hl]; omega) G hB
    have hb1 : BS F1 w1 ((frB (id, seq, List.replicate n fl)).map w8) := by
      have := m1
      rw [show (frB (id, seq, List.replicate n fl)).length = ((frB (id, seq, List.replicate n fl)).map w8).length by rw [List.length_map]] at this
      exact this.BS
    obtain ⟨w2, F2, e2, y2, m2⟩ := split_f F1 w1 _ (by rw [frB_len]; simp only [hl]; omega) hb1
    have hsp := splitP_frame (id, seq, List.replicate n fl) [] (by simp only [hl]; omega)
    rw [List.append_nil, splitP_nil] at hsp
    rw [hsp] at e2 m2
    have l1 := (hb1.ext y2).len
    rw [List.length_map, frB_len] at l1
    simp only [hl] at l1
    have l2 := m2.FS.len
    obtain ⟨i, u, x1, x2, ow, ty, cells, x3, x4, x5, _⟩ := m2.FS.idx (show [(id, seq, List.replicate n fl)][0]? = some (id, seq, List.replicate n fl) from rfl)
    have x1' : idxSV 3 w2 (.int .i64 0) = some (.pointer (some ⟨i, 0, none⟩)) := by simpa using x1
    have x5' : cells.take 3 = frL (id, seq, List.replicate n fl) u := by simpa using x5
    have x4' : 3 ≤ cells.length := by omega
    have i3 := live_ltG x3
    have kp2 := (y1.trans y2).live kp
    have ip2 := live_ltG kp2
    have es := sameFr_f (id, seq, List.replicate n fl) (id, seq, List.replicate n fl) u w F2 x2.BS (hB.ext (y1.trans y2)) (by simp only [hl]; omega)
    rw [decide_eq_true rfl] at es
    have wn := wrap64 ((n : Int) + 6) (by omega) (by omega)
    have hd : decide (((n + 6 : Nat) : Int) = (n : Int) + 6) = true := by rw [decide_eq_true_iff]; omega
    have l2' : lenV false w2 = some (.int .i64 1) := l2
    have e2' : D Tryd.prog hints 10 [w1] F1 = some (.tuple ⟨[w2, .int .i64 0]⟩, F2) := e2
    simp only [frL] at e1 kp kp2 es x5'
    simp (maxDischargeDepth := 8) only [t7, c7_0, c7_1, c7_2, c7_3, c7_4, c7_5, c7_6, c7_7, c7_8, c7_9, c7_10, c7_11, c7_12, c7_13, c7_14, q2, q3, q9, q10, q11, kp, ip, e1, e2', h, l1, l2', x1', x3, x4', x5', i3, kp2, ip2, es, wn, hd, RUN, Ed, knd, kndR, resV, binInt, mnmxV, mnmx2, fillL, unV, extractV, partV, loadAt, Nat.reduceAdd, Nat.reduceBEq, Nat.reduceEqDiff, Nat.reduceLT, Nat.reduceLeDiff, Nat.reduceMul, Nat.reduceSub, reduceIte, Int.reduceEq, Int.reduceNe, Int.reduceLT, Int.reduceLE, Int.reduceAdd, Int.reduceSub, Int.reduceMul, Int.reduceNeg, Int.reduceMod, Int.reduceDiv, Int.reduceTMod, Int.reduceTDiv, Int.reduceToNat, okChain_i, okLoads_nil, okLoads_in, okLoads_eq]
    exact Ok.mk _
theorem long (id seq fl : B8) (n : Int) (h1 : -9223372036854775808 ≤ n) (h2 : n ≤ 9223372036854775807) (H : Heap) (hEH : EH on1 H) : Ok (D Tryd.prog hints 7 [.int .u8 (w8 id), .int .u8 (w8 seq), .int .u8 (w8 fl), .int .i64 n] H) := by
  obtain ⟨F0, e0, x0⟩ := first_f H
  have en := number_f n 35 F0 h1 h2 (by omega) (by omega)
  have hn0 := Int.emod_nonneg n (show (35 : Int) ≠ 0 by omega)
  have hn1 := Int.emod_lt_of_pos n (show (0 : Int) < 35 by omega)
  obtain ⟨k, hk⟩ : ∃ k : Nat, n % 35 = k := ⟨(n % 35).toNat, by omega⟩
  rw [hk] at en
  rw [D_eq p7 _ _ (Nat.le_of_ble_eq_true rfl)]
  simp (maxDischargeDepth := 8) only [r7, b7t, c7_0, c7_1, c7_2, c7_3, c7_4, c7_5, c7_6, e0, en, RUN, Ed, knd, kndR, resV, binInt, mnmxV, mnmx2, fillL, unV, lenV, extractV, partV, loadAt, Nat.reduceAdd, Nat.reduceBEq, Nat.reduceEqDiff, Nat.reduceLT, Nat.reduceLeDiff, Nat.reduceMul, Nat.reduceSub, reduceIte, Int.reduceEq, Int.reduceNe, Int.reduceLT, Int.reduceLE, Int.reduceAdd, Int.reduceSub, Int.reduceMul, Int.reduceNeg, Int.reduceMod, Int.reduceDiv, Int.reduceTMod, Int.reduceTDiv, Int.reduceToNat, okChain_i, okLoads_nil, okLoads_in, okLoads_eq]
  refine cut_loop (fun ρ F => S7 id seq fl k F0.length 0 ρ ∧ M7 F0 id seq fl F0.length 0 F) (fun ρ F => S7 id seq fl k F0.length k ρ ∧ M7 F0 id seq fl F0.length k F) ⟨⟨?_, ?_, ?_, ?_, ?_⟩, ⟨_, rfl⟩, Nat.le_refl _, .slice none 0 0, (live_app_len _ _).trans rfl, BO.nil _ _⟩ ?_ ?_
  all_goals first | (simp (maxDischargeDepth := 8) only [RUN, Ed, knd, kndR, resV, binInt, mnmxV, mnmx2, fillL, unV, lenV, extractV, partV, loadAt, Nat.reduceAdd, Nat.reduceBEq, Nat.reduceEqDiff, Nat.reduceLT, Nat.reduceLeDiff, Nat.reduceMul, Nat.reduceSub, reduceIte, Int.reduceEq, Int.reduceNe, Int.reduceLT, Int.reduceLE, Int.reduceAdd, Int.reduceSub, Int.reduceMul, Int.reduceNeg, Int.reduceMod, Int.reduceDiv, Int.reduceTMod, Int.reduceTDiv, Int.reduceToNat, okChain_i, okLoads_nil, okLoads_in, okLoads_eq]; done) | (simp (maxDischargeDepth := 8) only [RUN, Ed, knd, kndR, resV, binInt, mnmxV, mnmx2, fillL, unV, lenV, extractV, partV, loadAt, Nat.reduceAdd, Nat.reduceBEq, Nat.reduceEqDiff, Nat.reduceLT, Nat.reduceLeDiff, Nat.reduceMul, Nat.reduceSub, reduceIte, Int.reduceEq, Int.reduceNe, Int.reduceLT, Int.reduceLE, Int.reduceAdd, Int.reduceSub, Int.reduceMul, Int.reduceNeg, Int.reduceMod, Int.reduceDiv, Int.reduceTMod, Int.reduceTDiv, Int.reduceToNat, okChain_i, okLoads_nil, okLoads_in, okLoads_eq]; rfl) | skip
  · rintro ρ F ⟨hs, hm⟩
    exact loop7 F0 id seq fl k F0.length (by omega) ρ F hs hm
  · rintro ρ F ⟨hs, hm⟩
    exact tail7 F0 (hEH.ext x0) id seq fl k F0.length (by omega) ρ F hs hm
def sh7 : List Sh := [.int .u8, .int .u8, .int .u8, .int .i64]
theorem long_law (H : Heap) (h : EH on1 H) (ls : List (List Value)) (o : OpnAll H sh7 ls) : Ok (D Tryd.prog hints 7 (argsS sh7 ls) H) := by
  obtain ⟨l0, _, rfl, h0, o⟩ := o.uncons
  obtain ⟨l1, _, rfl, h1, o⟩ := o.uncons
  obtain ⟨l2, _, rfl, h2, o⟩ := o.uncons
  obtain ⟨l3, _, rfl, h3, o⟩ := o.uncons
  cases o.unnil
  simp only [Opn.eq_1] at h0 h1 h2 h3
  obtain ⟨a, rfl, ha⟩ := h0
  obtain ⟨b, rfl, hb⟩ := h1
  obtain ⟨c, rfl, hc⟩ := h2
  obtain ⟨n, rfl, hn⟩ := h3
  obtain ⟨x, rfl⟩ := wf8 a ha
  obtain ⟨y, rfl⟩ := wf8 b hb
  obtain ⟨z, rfl⟩ := wf8 c hc
  simp [Lit.wf, IntKind.min, IntKind.max, IntKind.bits, IntKind.signed] at hn
  exact long x y z n (by omega) (by omega) H h
end Go.Proofs.YtoknmodbdlfdmaaDoor.Sim
