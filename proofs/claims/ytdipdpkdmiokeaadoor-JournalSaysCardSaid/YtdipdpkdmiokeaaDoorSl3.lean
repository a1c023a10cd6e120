/- Records' bytes, and bytes as a record, over the plain heap. -/
import Derived.Test.YtdipdpkdmiokeaaDoorSl2
import Derived.Test.YtdipdpkdmiokeaaDoorSim21
namespace Go.Proofs.YtdipdpkdmiokeaaDoor.Sim
open Go Go.Proofs.YtdipdpkdmiokeaaDoor.CrcMath
set_option linter.unusedSimpArgs false
set_option linter.unusedVariables false
def i64b (x : Int) : B64 := BitVec.ofInt 64 x
def i8b (x : Int) : B8 := BitVec.ofInt 8 x
theorem e_b64 (x : Int) : IntKind.u64.wrap x = w64 (i64b x) := by
  unfold w64 i64b
  rw [BitVec.toNat_ofInt]
  simp [IntKind.wrap, IntKind.bits, IntKind.signed]
  omega
theorem e_bw16 (x : BitVec 16) : i64b (w16 x) = x.setWidth 64 := w64_inj.1 ((e_b64 _).symm.trans (e64_16 x))
theorem e_b8 (x : Int) : IntKind.u8.wrap x = w8 (i8b x) := by
  unfold w8 i8b
  rw [BitVec.toNat_ofInt]
  simp [IntKind.wrap, IntKind.bits, IntKind.signed]
  omega
def recH (r : Rec) : List B8 := be (i64b r.s) 4 ++ [i8b r.m] ++ be (i64b r.l) 4 ++ be (i64b r.a) 8 ++ be (i64b r.b) 8 ++ be (i64b r.c) 8 ++ be (i64b r.d) 8
/-- A record's bytes. -/
def recB (r : Rec) : List B8 := 0xa5#8 :: recH r ++ be ((crc (recH r)).setWidth 64) 2
theorem recH_len (r : Rec) : (recH r).length = 41 := by simp [recH, be_len]
theorem recB_len (r : Rec) : (recB r).length = 44 := by simp [recB, recH_len, be_len]
theorem recB_eq (r : Rec) : recB r = [0xa5#8] ++ be (i64b r.s) 4 ++ [i8b r.m] ++ be (i64b r.l) 4 ++ be (i64b r.a) 8 ++ be (i64b r.b) 8 ++ be (i64b r.c) 8 ++ be (i64b r.d) 8 ++ be ((crc (recH r)).setWidth 64) 2 := by
  simp [recB, recH]
theorem one_BS (F : Heap) (x : B8) : BS (F ++ [some ⟨true, 5, [.int .u8 (w8 x)]⟩]) (.slice (some ⟨F.length, 0, none⟩) 1 1) ([x].map w8) := BS.of (A := [w8 x]) ((live_app_len _ _).trans rfl)
theorem step14 (H : Heap) (w : Value) (m : List B8) (hl : m.length ≤ 500) (ls : List Value) (x : Int) (i : Nat) (hi : i < 4) (hx : idxVV false 4 1 (.agg ⟨ls⟩) (.int .i64 i) = some (.int .i64 x)) (ρ : Fr) (G : Heap) (hE : Ext H G) (hb : BO H G w m)
    (q5 : ρ 5 = w) (q41 : ρ 41 = .agg ⟨ls⟩) (q42 : ρ 42 = .int .i64 i) :
    ∃ ρ' w' F, E Tryd.prog hints l14_0 ρ G = some (.normal, ρ', F) ∧ ρ' 5 = w' ∧ ρ' 41 = .agg ⟨ls⟩ ∧ ρ' 42 = .int .i64 (i + 1 : Nat) ∧ Ext H F ∧ BO H F w' (m ++ be (i64b x) 8) ∧ Kw w G w' F := by
  obtain ⟨w', F, e, hE', hb', hk'⟩ := put_f H G w m (i64b x) 8 (by omega) hE hb (by omega)
  have hlt : (i : Int) < 4 := by omega
  have wi := wrap64 ((i : Int) + 1) (by omega) (by omega)
  have e' : D Tryd.prog hints 40 [w, .int .u64 (w64 (i64b x)), .int .i64 8] G = some (w', F) := e
  refine ⟨?ρ1, w', F, ?run1, ?_, ?_, ?_, hE', hb', hk'⟩
  case run1 =>
    simp (maxDischargeDepth := 8) only [l14_0, c14_0, c14_1, c14_2, c14_3, c14_4, c14_5, c14_6, c14_7, c14_8, c14_9, c14_10, c14_11, c14_12, q5, q41, q42, hlt, hx, e_b64, e', wi, RUN, Ed, knd, kndR, resV, binInt, mnmxV, mnmx2, fillL, unV, lenV, extractV, partV, loadAt, Nat.reduceAdd, Nat.reduceBEq, Nat.reduceEqDiff, Nat.reduceLT, Nat.reduceLeDiff, Nat.reduceMul, Nat.reduceSub, reduceIte, Int.reduceEq, Int.reduceNe, Int.reduceLT, Int.reduceLE, Int.reduceAdd, Int.reduceSub, Int.reduceMul, Int.reduceNeg, Int.reduceMod, Int.reduceDiv, Int.reduceTMod, Int.reduceTDiv, Int.reduceToNat, okChain_i, okLoads_nil, okLoads_in, okLoads_eq]
    rfl
  all_goals first | (simp (maxDischargeDepth := 8) only [q5, q41, q42, RUN, Ed, knd, kndR, resV, binInt, mnmxV, mnmx2, fillL, unV, lenV, extractV, partV, loadAt, Nat.reduceAdd, Nat.reduceBEq, Nat.reduceEqDiff, Nat.reduceLT, Nat.reduceLeDiff, Nat.reduceMul, Nat.reduceSub, reduceIte, Int.reduceEq, Int.reduceNe, Int.reduceLT, Int.reduceLE, Int.reduceAdd, Int.reduceSub, Int.reduceMul, Int.reduceNeg, Int.reduceMod, Int.reduceDiv, Int.reduceTMod, Int.reduceTDiv, Int.reduceToNat, okChain_i, okLoads_nil, okLoads_in, okLoads_eq]; done) | (simp (maxDischargeDepth := 8) only [q5, q41, q42, RUN, Ed, knd, kndR, resV, binInt, mnmxV, mnmx2, fillL, unV, lenV, extractV, partV, loadAt, Nat.reduceAdd, Nat.reduceBEq, Nat.reduceEqDiff, Nat.reduceLT, Nat.reduceLeDiff, Nat.reduceMul, Nat.reduceSub, reduceIte, Int.reduceEq, Int.reduceNe, Int.reduceLT, Int.reduceLE, Int.reduceAdd, Int.reduceSub, Int.reduceMul, Int.reduceNeg, Int.reduceMod, Int.reduceDiv, Int.reduceTMod, Int.reduceTDiv, Int.reduceToNat, okChain_i, okLoads_nil, okLoads_in, okLoads_eq]; rfl)
theorem loop14 (H : Heap) (w : Value) (m : List B8) (hl : m.length ≤ 100) (a b c d : Int) (ρ : Fr) (G : Heap) (hE : Ext H G) (hb : BO H G w m)
    (q5 : ρ 5 = w) (q41 : ρ 41 = .agg ⟨[.int .i64 a, .int .i64 b, .int .i64 c, .int .i64 d]⟩) (q42 : ρ 42 = .int .i64 (0 : Nat)) :
    ∃ ρ' w' F, E Tryd.prog hints (.loop l14_0) ρ G = some (.exit 0, ρ', F) ∧ ρ' 5 = w' ∧ Ext H F ∧ BO H F w' (m ++ be (i64b a) 8 ++ be (i64b b) 8 ++ be (i64b c) 8 ++ be (i64b d) 8) ∧ Kw w G w' F := by
  obtain ⟨ρ1, w1, F1, e1, a5, a41, a42, hE1, hb1, hk1⟩ := step14 H w m (by omega) _ a 0 (by omega) rfl ρ G hE hb q5 q41 q42
  obtain ⟨ρ2, w2, F2, e2, b5, b41, b42, hE2, hb2, hk2⟩ := step14 H w1 _ (by simp [be_len]; omega) _ b 1 (by omega) rfl ρ1 F1 hE1 hb1 a5 a41 a42
  obtain ⟨ρ3, w3, F3, e3, c5, c41, c42, hE3, hb3, hk3⟩ := step14 H w2 _ (by simp [be_len]; omega) _ c 2 (by omega) rfl ρ2 F2 hE2 hb2 b5 b41 b42
  obtain ⟨ρ4, w4, F4, e4, d5, d41, d42, hE4, hb4, hk4⟩ := step14 H w3 _ (by simp [be_len]; omega) _ d 3 (by omega) rfl ρ3 F3 hE3 hb3 c5 c41 c42
  have d42' : ρ4 42 = .int .i64 4 := d42
  rw [El, e1, andThen_n, El, e2, andThen_n, El, e3, andThen_n, El, e4, andThen_n, El]
  refine ⟨?ρ5, w4, F4, ?run5, ?_, hE4, hb4, ((hk1.trans hk2).trans hk3).trans hk4⟩
  case run5 =>
    simp (maxDischargeDepth := 8) only [l14_0, c14_8, d42', RUN, Ed, knd, kndR, resV, binInt, mnmxV, mnmx2, fillL, unV, lenV, extractV, partV, loadAt, Nat.reduceAdd, Nat.reduceBEq, Nat.reduceEqDiff, Nat.reduceLT, Nat.reduceLeDiff, Nat.reduceMul, Nat.reduceSub, reduceIte, Int.reduceEq, Int.reduceNe, Int.reduceLT, Int.reduceLE, Int.reduceAdd, Int.reduceSub, Int.reduceMul, Int.reduceNeg, Int.reduceMod, Int.reduceDiv, Int.reduceTMod, Int.reduceTDiv, Int.reduceToNat, okChain_i, okLoads_nil, okLoads_in, okLoads_eq]
    rfl
  simp (maxDischargeDepth := 8) only [d5, RUN, Ed, knd, kndR, resV, binInt, mnmxV, mnmx2, fillL, unV, lenV, extractV, partV, loadAt, Nat.reduceAdd, Nat.reduceBEq, Nat.reduceEqDiff, Nat.reduceLT, Nat.reduceLeDiff, Nat.reduceMul, Nat.reduceSub, reduceIte, Int.reduceEq, Int.reduceNe, Int.reduceLT, Int.reduceLE, Int.reduceAdd, Int.reduceSub, Int.reduceMul, Int.reduceNeg, Int.reduceMod, Int.reduceDiv, Int.reduceTMod, Int.reduceTDiv, Int.reduceToNat, okChain_i, okLoads_nil, okLoads_in, okLoads_eq]
theorem recBytes_f (r : Rec) (hg : good r = true) (H : Heap) (hE : EH all7 H) : ∃ w F, D Tryd.prog hints 14 [.agg ⟨r.L⟩] H = some (.tuple ⟨[w, .nilIface]⟩, F) ∧ Ext H F ∧ BO H F w (recB r) := by
  have hbe := recB_eq r
  have hhe : recH r = be (i64b r.s) 4 ++ [i8b r.m] ++ be (i64b r.l) 4 ++ be (i64b r.a) 8 ++ be (i64b r.b) 8 ++ be (i64b r.c) 8 ++ be (i64b r.d) 8 := rfl
  have hhl := recH_len r
  have ham : amiss r = none := if_pos hg
  generalize hH : recH r = hd at *
  generalize hR : recB r = rb at *
  obtain ⟨H1, hH1⟩ : ∃ H1, H1 = H ++ [some ⟨true, 26, r.L⟩] := ⟨_, rfl⟩
  have x1 : Ext H H1 := ⟨_, hH1⟩
  have k1 : live H1 H.length = some ⟨true, 26, r.L⟩ := by rw [hH1]; exact (live_app_len _ _).trans rfl
  have i1 := live_ltG k1
  obtain ⟨X2, e2⟩ := check_f r H1 (hE.ext x1)
  rw [ham] at e2
  simp only [EV] at e2
  obtain ⟨H2, hH2⟩ : ∃ H2, H2 = H1 ++ X2 := ⟨_, rfl⟩
  have x2 : Ext H1 H2 := ⟨_, hH2⟩
  rw [← hH2] at e2
  have k2 := x2.live k1
  have i2 := live_ltG k2
  have hb0 : BO H (H2 ++ [some ⟨true, 5, [.int .u8 165]⟩]) (.slice (some ⟨H2.length, 0, none⟩) 1 1) [0xa5#8] := .inr ⟨H2.length, (x1.trans x2).le, rfl, (live_app_len _ _).trans rfl, rfl⟩
  have y0 : Ext H (H2 ++ [some ⟨true, 5, [.int .u8 165]⟩]) := (x1.trans x2).app _
  obtain ⟨w1, F1, e3, y1, b1, z1⟩ := put_f H _ _ _ (i64b r.s) 4 (by omega) y0 hb0 (by simp)
  have e3' : D Tryd.prog hints 40 [.slice (some ⟨H2.length, 0, none⟩) 1 1, .int .u64 (w64 (i64b r.s)), .int .i64 4] (H2 ++ [some ⟨true, 5, [.int .u8 165]⟩]) = some (w1, F1) := e3
  have k3 := (z1 H.length _ (hb0.noown ((Ext.more _ _).live k2) (by decide)) ((Ext.more _ _).live k2)).1
  have i3 := live_ltG k3
  obtain ⟨w2, F2, e4, b2, y2, z2⟩ := b1.app y1 (Ext.more F1 _) (one_BS F1 (i8b r.m)) (by simp [be_len])
  have k4 := (z2 H.length _ (b1.noown k3 (by decide)) ((Ext.more _ _).live k3)).1
  have i4 := live_ltG k4
  obtain ⟨w3, F3, e5, y3, b3, z3⟩ := put_f H F2 w2 _ (i64b r.l) 4 (by omega) y2 b2 (by simp [be_len])
  have e5' : D Tryd.prog hints 40 [w2, .int .u64 (w64 (i64b r.l)), .int .i64 4] F2 = some (w3, F3) := e5
  have k5 := (z3 H.length _ (b2.noown k4 (by decide)) k4).1
  have i5 := live_ltG k5
  simp only [Rec.L] at k1 k2 k3 k4 k5 hH1 e2
  have fin : ∀ ρ, ρ 5 = w3 → ρ 41 = .agg ⟨[.int .i64 r.a, .int .i64 r.b, .int .i64 r.c, .int .i64 r.d]⟩ → ρ 42 = .int .i64 (0 : Nat) → ∃ w F, done [.tmp 2, .tmp 3] (andThen (blk 0 (E Tryd.prog hints (.loop l14_0) ρ F3)) (E Tryd.prog hints (.seq (.region c14_12) .ret))) = some (.tuple ⟨[w, .nilIface]⟩, F) ∧ Ext H F ∧ BO H F w rb := by
    intro ρ q5 q41 q42
    obtain ⟨ρ1, w4, F4, e6, a5, y4, b4, z4⟩ := loop14 H w3 _ (by simp [be_len]) r.a r.b r.c r.d ρ F3 y3 b3 q5 q41 q42
    have hm : [0xa5#8] ++ be (i64b r.s) 4 ++ [i8b r.m] ++ be (i64b r.l) 4 ++ be (i64b r.a) 8 ++ be (i64b r.b) 8 ++ be (i64b r.c) 8 ++ be (i64b r.d) 8 = 0xa5#8 :: hd := by rw [hhe]; simp
    rw [hm] at b4
    obtain ⟨w5, es, hb5⟩ := b4.BS.cut (lo := some (.int .i64 1)) (hi := none) (l := 1) (r := ((0xa5#8 :: hd).map w8).length) rfl rfl (by simp) (Nat.le_refl _)
    rw [List.take_length, List.map_cons, List.drop_one, List.tail_cons] at hb5
    have ecrc := sum_f w5 hd (by omega) F4 hb5
    obtain ⟨w6, F6, e7, y6, b6, z6⟩ := put_f H F4 w4 _ ((crc hd).setWidth 64) 2 (by omega) y4 b4 (by simp; omega)
    have e7' : D Tryd.prog hints 40 [w4, .int .u64 (w64 ((crc hd).setWidth 64)), .int .i64 2] F4 = some (w6, F6) := e7
    refine ⟨w6, F6, ?_, y6, ?_⟩
    · rw [e6]
      simp (maxDischargeDepth := 8) only [c14_12, a5, es, ecrc, e64_16, e7', RUN, Ed, knd, kndR, resV, binInt, mnmxV, mnmx2, fillL, unV, lenV, extractV, partV, loadAt, Nat.reduceAdd, Nat.reduceBEq, Nat.reduceEqDiff, Nat.reduceLT, Nat.reduceLeDiff, Nat.reduceMul, Nat.reduceSub, reduceIte, Int.reduceEq, Int.reduceNe, Int.reduceLT, Int.reduceLE, Int.reduceAdd, Int.reduceSub, Int.reduceMul, Int.reduceNeg, Int.reduceMod, Int.reduceDiv, Int.reduceTMod, Int.reduceTDiv, Int.reduceToNat, okChain_i, okLoads_nil, okLoads_in, okLoads_eq]
    · rw [hbe, hm]; exact b6
  rw [D_eq p14 _ _ (Nat.le_of_ble_eq_true rfl)]
  simp (maxDischargeDepth := 8) only [r14, b14, c14_0, c14_1, c14_2, c14_3, c14_4, c14_5, c14_6, c14_7, Rec.L, ← hH1, k1, i1, e2, k2, i2, e_b64, e_b8, e3', k3, i3, e4, k4, i4, e5', k5, i5, RUN, Ed, knd, kndR, resV, binInt, mnmxV, mnmx2, fillL, unV, lenV, extractV, partV, loadAt, Nat.reduceAdd, Nat.reduceBEq, Nat.reduceEqDiff, Nat.reduceLT, Nat.reduceLeDiff, Nat.reduceMul, Nat.reduceSub, reduceIte, Int.reduceEq, Int.reduceNe, Int.reduceLT, Int.reduceLE, Int.reduceAdd, Int.reduceSub, Int.reduceMul, Int.reduceNeg, Int.reduceMod, Int.reduceDiv, Int.reduceTMod, Int.reduceTDiv, Int.reduceToNat, okChain_i, okLoads_nil, okLoads_in, okLoads_eq]
  refine fin _ ?_ ?_ ?_
  all_goals first | (simp (maxDischargeDepth := 8) only [RUN, Ed, knd, kndR, resV, binInt, mnmxV, mnmx2, fillL, unV, lenV, extractV, partV, loadAt, Nat.reduceAdd, Nat.reduceBEq, Nat.reduceEqDiff, Nat.reduceLT, Nat.reduceLeDiff, Nat.reduceMul, Nat.reduceSub, reduceIte, Int.reduceEq, Int.reduceNe, Int.reduceLT, Int.reduceLE, Int.reduceAdd, Int.reduceSub, Int.reduceMul, Int.reduceNeg, Int.reduceMod, Int.reduceDiv, Int.reduceTMod, Int.reduceTDiv, Int.reduceToNat, okChain_i, okLoads_nil, okLoads_in, okLoads_eq]; done) | (simp (maxDischargeDepth := 8) only [RUN, Ed, knd, kndR, resV, binInt, mnmxV, mnmx2, fillL, unV, lenV, extractV, partV, loadAt, Nat.reduceAdd, Nat.reduceBEq, Nat.reduceEqDiff, Nat.reduceLT, Nat.reduceLeDiff, Nat.reduceMul, Nat.reduceSub, reduceIte, Int.reduceEq, Int.reduceNe, Int.reduceLT, Int.reduceLE, Int.reduceAdd, Int.reduceSub, Int.reduceMul, Int.reduceNeg, Int.reduceMod, Int.reduceDiv, Int.reduceTMod, Int.reduceTDiv, Int.reduceToNat, okChain_i, okLoads_nil, okLoads_in, okLoads_eq]; rfl)
theorem recBytes_bad (r : Rec) (hg : good r = false) (H : Heap) (hE : EH all7 H) : ∃ X, D Tryd.prog hints 14 [.agg ⟨r.L⟩] H = some (.tuple ⟨[.slice none 0 0, Err 0]⟩, H ++ X) := by
  have ham : amiss r = some 0 := if_neg (by rw [hg]; decide)
  obtain ⟨H1, hH1⟩ : ∃ H1, H1 = H ++ [some ⟨true, 26, r.L⟩] := ⟨_, rfl⟩
  have x1 : Ext H H1 := ⟨_, hH1⟩
  have k1 : live H1 H.length = some ⟨true, 26, r.L⟩ := by rw [hH1]; exact (live_app_len _ _).trans rfl
  have i1 := live_ltG k1
  obtain ⟨X2, e2⟩ := check_f r H1 (hE.ext x1)
  rw [ham] at e2
  simp only [EV] at e2
  obtain ⟨H2, hH2⟩ : ∃ H2, H2 = H1 ++ X2 := ⟨_, rfl⟩
  rw [← hH2] at e2
  have hfin : D Tryd.prog hints 14 [.agg ⟨r.L⟩] H = some (.tuple ⟨[.slice none 0 0, Err 0]⟩, H2) := by
    simp only [Rec.L] at k1 hH1 e2
    rw [D_eq p14 _ _ (Nat.le_of_ble_eq_true rfl)]
    simp (maxDischargeDepth := 8) only [r14, b14, c14_0, c14_1, c14_2, c14_3, c14_4, c14_5, c14_6, c14_7, c14_8, c14_9, c14_10, c14_11, c14_12, Rec.L, ← hH1, k1, i1, e2, same_En, RUN, Ed, knd, kndR, resV, binInt, mnmxV, mnmx2, fillL, unV, lenV, extractV, partV, loadAt, Nat.reduceAdd, Nat.reduceBEq, Nat.reduceEqDiff, Nat.reduceLT, Nat.reduceLeDiff, Nat.reduceMul, Nat.reduceSub, reduceIte, Int.reduceEq, Int.reduceNe, Int.reduceLT, Int.reduceLE, Int.reduceAdd, Int.reduceSub, Int.reduceMul, Int.reduceNeg, Int.reduceMod, Int.reduceDiv, Int.reduceTMod, Int.reduceTDiv, Int.reduceToNat, okChain_i, okLoads_nil, okLoads_in, okLoads_eq]
  exact ⟨[some ⟨true, 26, r.L⟩] ++ X2, by rw [hfin, hH2, hH1, List.append_assoc]⟩
theorem recBytes2_f (r : Rec) (H : Heap) : ∃ w F, D Tryd.prog hints 21 [.agg ⟨r.L⟩] H = some (w, F) ∧ Ext H F ∧ BO H F w (recB r) := by
  have hbe := recB_eq r
  have hhe : recH r = be (i64b r.s) 4 ++ [i8b r.m] ++ be (i64b r.l) 4 ++ be (i64b r.a) 8 ++ be (i64b r.b) 8 ++ be (i64b r.c) 8 ++ be (i64b r.d) 8 := rfl
  have hhl := recH_len r
  generalize hH : recH r = hd at *
  generalize hR : recB r = rb at *
  obtain ⟨H1, hH1⟩ : ∃ H1, H1 = H ++ [some ⟨true, 26, r.L⟩] := ⟨_, rfl⟩
  have x1 : Ext H H1 := ⟨_, hH1⟩
  have k1 : live H1 H.length = some ⟨true, 26, r.L⟩ := by rw [hH1]; exact (live_app_len _ _).trans rfl
  have hb0 : BO H (H1 ++ [some ⟨true, 5, [.int .u8 165]⟩]) (.slice (some ⟨H1.length, 0, none⟩) 1 1) [0xa5#8] := .inr ⟨H1.length, x1.le, rfl, (live_app_len _ _).trans rfl, rfl⟩
  have y0 : Ext H (H1 ++ [some ⟨true, 5, [.int .u8 165]⟩]) := x1.app _
  have i1 := live_ltG k1
  have k2 := (Ext.more H1 [some ⟨true, 5, [.int .u8 165]⟩]).live k1
  have i2 := live_ltG k2
  obtain ⟨w1, F1, e3, y1, b1, z1⟩ := big_f H _ _ _ (i64b r.s) 4 (by omega) y0 hb0 (by simp)
  have e3' : D Tryd.prog hints 49 [.slice (some ⟨H1.length, 0, none⟩) 1 1, .int .u64 (w64 (i64b r.s)), .int .i64 4] (H1 ++ [some ⟨true, 5, [.int .u8 165]⟩]) = some (w1, F1) := e3
  have k3 := (z1 H.length _ (hb0.noown k2 (by decide)) k2).1
  have i3 := live_ltG k3
  obtain ⟨w2, F2, e4, b2, y2, z2⟩ := b1.app y1 (Ext.more F1 _) (one_BS F1 (i8b r.m)) (by simp [be_len])
  have k4 := (z2 H.length _ (b1.noown k3 (by decide)) ((Ext.more _ _).live k3)).1
  have i4 := live_ltG k4
  obtain ⟨w3, F3, e5, y3, b3, z3⟩ := big_f H F2 w2 _ (i64b r.l) 4 (by omega) y2 b2 (by simp [be_len])
  have e5' : D Tryd.prog hints 49 [w2, .int .u64 (w64 (i64b r.l)), .int .i64 4] F2 = some (w3, F3) := e5
  have k5 := (z3 H.length _ (b2.noown k4 (by decide)) k4).1
  have i5 := live_ltG k5
  obtain ⟨w4, F4, e6, y4, b4, z4⟩ := big_f H F3 w3 _ (i64b r.a) 8 (by omega) y3 b3 (by simp [be_len])
  have e6' : D Tryd.prog hints 49 [w3, .int .u64 (w64 (i64b r.a)), .int .i64 8] F3 = some (w4, F4) := e6
  have k6 := (z4 H.length _ (b3.noown k5 (by decide)) k5).1
  have i6 := live_ltG k6
  obtain ⟨w5, F5, e7, y5, b5, z5⟩ := big_f H F4 w4 _ (i64b r.b) 8 (by omega) y4 b4 (by simp [be_len])
  have e7' : D Tryd.prog hints 49 [w4, .int .u64 (w64 (i64b r.b)), .int .i64 8] F4 = some (w5, F5) := e7
  have k7 := (z5 H.length _ (b4.noown k6 (by decide)) k6).1
  have i7 := live_ltG k7
  obtain ⟨w6, F6, e8, y6, b6, z6⟩ := big_f H F5 w5 _ (i64b r.c) 8 (by omega) y5 b5 (by simp [be_len])
  have e8' : D Tryd.prog hints 49 [w5, .int .u64 (w64 (i64b r.c)), .int .i64 8] F5 = some (w6, F6) := e8
  have k8 := (z6 H.length _ (b5.noown k7 (by decide)) k7).1
  have i8 := live_ltG k8
  obtain ⟨w7, F7, e9, y7, b7, z7⟩ := big_f H F6 w6 _ (i64b r.d) 8 (by omega) y6 b6 (by simp [be_len])
  have e9' : D Tryd.prog hints 49 [w6, .int .u64 (w64 (i64b r.d)), .int .i64 8] F6 = some (w7, F7) := e9
  have hm : [0xa5#8] ++ be (i64b r.s) 4 ++ [i8b r.m] ++ be (i64b r.l) 4 ++ be (i64b r.a) 8 ++ be (i64b r.b) 8 ++ be (i64b r.c) 8 ++ be (i64b r.d) 8 = 0xa5#8 :: hd := by rw [hhe]; simp
  rw [hm] at b7
  obtain ⟨u, es, hu⟩ := b7.BS.cut (lo := some (.int .i64 1)) (hi := none) (l := 1) (r := ((0xa5#8 :: hd).map w8).length) rfl rfl (by simp) (Nat.le_refl _)
  rw [List.take_length, List.map_cons, List.drop_one, List.tail_cons] at hu
  have ecrc := sum2_f u hd (by omega) F7 hu
  obtain ⟨w8', F8, e10, y8, b8', z8⟩ := big_f H F7 w7 _ ((crc hd).setWidth 64) 2 (by omega) y7 b7 (by simp; omega)
  have e10' : D Tryd.prog hints 49 [w7, .int .u64 (w64 ((crc hd).setWidth 64)), .int .i64 2] F7 = some (w8', F8) := e10
  refine ⟨w8', F8, ?_, y8, by rw [hbe, hm]; exact b8'⟩
  simp only [Rec.L] at k1 k2 k3 k4 k5 k6 k7 k8 hH1
  rw [D_eq p21 _ _ (Nat.le_of_ble_eq_true rfl)]
  simp (maxDischargeDepth := 8) only [r21, b21, c21_0, c21_1, c21_2, c21_3, c21_4, c21_5, c21_6, c21_7, c21_8, Rec.L, ← hH1, k1, i1, k2, i2, e_b64, e_b8, e3', k3, i3, e4, k4, i4, e5', k5, i5, e6', k6, i6, e7', k7, i7, e8', k8, i8, e9', es, ecrc, e_bw16, e10', RUN, Ed, knd, kndR, resV, binInt, mnmxV, mnmx2, fillL, unV, lenV, extractV, partV, loadAt, Nat.reduceAdd, Nat.reduceBEq, Nat.reduceEqDiff, Nat.reduceLT, Nat.reduceLeDiff, Nat.reduceMul, Nat.reduceSub, reduceIte, Int.reduceEq, Int.reduceNe, Int.reduceLT, Int.reduceLE, Int.reduceAdd, Int.reduceSub, Int.reduceMul, Int.reduceNeg, Int.reduceMod, Int.reduceDiv, Int.reduceTMod, Int.reduceTDiv, Int.reduceToNat, okChain_i, okLoads_nil, okLoads_in, okLoads_eq]
end Go.Proofs.YtdipdpkdmiokeaaDoor.Sim
