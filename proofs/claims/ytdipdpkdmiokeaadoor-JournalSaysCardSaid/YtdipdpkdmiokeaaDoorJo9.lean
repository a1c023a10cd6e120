/- The law of spoilt slots. -/
import Derived.Test.YtdipdpkdmiokeaaDoorJo8
import Derived.Test.YtdipdpkdmiokeaaDoorSim21
namespace Go.Proofs.YtdipdpkdmiokeaaDoor.Sim
open Go Go.Proofs.YtdipdpkdmiokeaaDoor.CrcMath
set_option linter.unusedSimpArgs false
set_option linter.unusedVariables false
theorem e_and7 (x : Int) : ∃ j : Nat, j < 8 ∧ IntKind.i64.wrap ((BitVec.ofInt IntKind.i64.bits x &&& BitVec.ofInt IntKind.i64.bits 7).toNat : Int) = (j : Int) := by
  refine ⟨(BitVec.ofInt IntKind.i64.bits x &&& BitVec.ofInt IntKind.i64.bits 7).toNat, ?_, ?_⟩
  · rw [BitVec.toNat_and]
    have : (BitVec.ofInt IntKind.i64.bits 7).toNat = 7 := rfl
    rw [this]
    have := Nat.and_le_right (n := (BitVec.ofInt IntKind.i64.bits x).toNat) (m := 7)
    omega
  · rw [BitVec.toNat_and]
    have : (BitVec.ofInt IntKind.i64.bits 7).toNat = 7 := rfl
    rw [this]
    have := Nat.and_le_right (n := (BitVec.ofInt IntKind.i64.bits x).toNat) (m := 7)
    exact wrap64 _ (by omega) (by omega)
def t11 : RCode := (.seq (.region c11_18) (.seq (.seq (.region c11_19) (.cond (.tmp 75) (.seq (.region c11_20) .ret) .skip)) (.seq (.region c11_21) (.seq (.region c11_22) (.seq (.region c11_23) (.seq (.seq (.region c11_24) (.cond (.tmp 95) (.region c11_25) .skip)) (.seq (.region c11_26) (.seq (.seq (.region c11_27) (.cond (.tmp 106) (.seq (.region c11_28) .ret) .skip)) (.seq (.draw c11_29) .ret)))))))))
theorem b11t : b11 = (.seq (.region c11_0) (.seq (.region c11_1) (.seq (.seq (.region c11_2) (.cond (.tmp 26) (.seq (.region c11_3) .ret) .skip)) (.seq (.region c11_4) (.seq (.region c11_5) (.seq (.region c11_6) (.seq (.seq (.region c11_7) (.block 0 (.loop l11_0))) t11))))))) := (rfl)
theorem put_ld (m : List B8) (i : Nat) (h : i < m.length) : (bL (m.map w8))[i]? = some (.int .u8 (w8 (ix m i))) := by
  unfold bL; rw [List.getElem?_map, map_get (ix_get (m := m) (i := i) h)]; rfl
theorem tail11 (H0 : Heap) (hE0 : EH all7 H0) (n : Nat) (hn2 : 2 ≤ n) (hn6 : n ≤ 6) (w lw : Value) (m : List B8) (L : List Rec) (ρ : Fr) (G : Heap) (hI : I11 H0 n w lw m L ρ G) (p2 p3 : Int) (b : Bool) (g1' : -9223372036854775808 ≤ p2) (g2' : p2 ≤ 9223372036854775807) (q0 : ρ 0 = .int .i64 (n : Nat)) (q2 : ρ 2 = .int .i64 p2) (q3 : ρ 3 = .int .i64 p3) (q4 : ρ 4 = .bool b) (q11 : ρ 11 = .bool true) : Ok (done [.tmp 10] (E Tryd.prog hints t11 ρ G)) := by
  obtain ⟨q14, q12, q13, ex, hb, ho, hm, hn, hs, hL, h1, h2⟩ := hI
  obtain ⟨a1, a2⟩ := h1 (by omega)
  obtain ⟨a3, a4, a5⟩ := h2 hn2
  have hE := hE0.ext ex
  obtain ⟨X1, e1⟩ := newestI_f w m (by omega) G hE hb.BS
  obtain ⟨G1, hG1⟩ : ∃ G1, G1 = G ++ X1 := ⟨_, rfl⟩
  rw [← hG1] at e1
  have y1 : Ext G G1 := ⟨_, hG1⟩
  obtain ⟨cv, X2, e2, hbc⟩ := bytes_BO G1 w m (by omega) (hb.BS.ext y1)
  obtain ⟨G2, hG2⟩ : ∃ G2, G2 = G1 ++ X2 := ⟨_, rfl⟩
  rw [← hG2] at e2 hbc
  have y2 : Ext G1 G2 := ⟨_, hG2⟩
  have nf := number_f p2 44 G2 g1' g2' (by omega) (by omega)
  obtain ⟨y, hy⟩ : ∃ y : Nat, p2 % 44 = y := ⟨(p2 % 44).toNat, by omega⟩
  rw [hy] at nf
  have hy44 : y < 44 := by omega
  obtain ⟨j, hj, he7⟩ := e_and7 p3
  obtain ⟨fl0, fl1⟩ := flip_nw m hm (nr m) a2 a3 y j hy44 hj
  have hu : IntKind.u64.wrap (j : Int) = (j : Int) := by rw [wrapu64]; omega
  have hng : ¬ ((j : Int) < 0) := by omega
  have hbit := e_bit j hj
  have ld2 := fun F => later2_f (nr m).s (rdR (oslot m)).s F
  have hlt : later (nr m).s (rdR (oslot m)).s = true := by
    rw [hs, a5]
    unfold later
    simp only [wrapu32, Bool.and_eq_true, decide_eq_true_eq]
    omega
  rw [hlt] at ld2
  have wn1 : IntKind.i64.wrap ((n : Int) - 2) = ((n - 2 : Nat) : Int) := by rw [wrap64 _ (by omega) (by omega)]; omega
  have wn2 : IntKind.i64.wrap ((n : Int) - 1) = ((n - 1 : Nat) : Int) := by rw [wrap64 _ (by omega) (by omega)]; omega
  obtain ⟨Y2, f2⟩ := ex_rule (P := Tryd.prog) (hs := hints) (f := 19) (args := [.agg ⟨(rdR (oslot m)).L⟩, .agg ⟨(rdR (oslot m)).L⟩]) (v := .bool true) (Q := fun _ => True) (fun F _ => by
    have := sameRec_f (rdR (oslot m)) (rdR (oslot m)) F
    rw [decide_eq_true rfl] at this
    exact this)
  have f2' := fun F => f2 F trivial
  obtain ⟨Y3, f3⟩ := ex_rule (P := Tryd.prog) (hs := hints) (f := 18) (args := [EV (some 6), .int .i64 107]) (v := .bool true) (Q := fun F => EH all7 F) (fun F hF => by
    have := is_f (some 6) (by intro i h; cases h; omega) 107 F hF
    rw [show decide (cd (some 6) = 107) = true from rfl] at this
    exact this)
  simp only [EV] at f3
  have hor := Jn_ge n (by omega)
  rw [← hn] at hor
  -- what remains once the bytes are turned
  have fin : ∀ (idx K : Nat) (m1 : List B8), idx < 88 → K < 88 → m1 = m.set idx (ix m idx ^^^ 1#8 <<< j) → (0 ≤ nw m1 ∧ nr m1 = rdR (oslot m)) → nw (m1.set K 0#8) = -1 → IntKind.i64.wrap (44 * nw m + (y : Int)) = (idx : Int) → IntKind.i64.wrap (44 * (IntKind.i64.wrap (1 - nw m))) = (K : Int) → IntKind.i64.wrap (44 * nw m) = 44 * nw m → ¬ nw m < 0 → Ok (done [.tmp 10] (E Tryd.prog hints t11 ρ G)) := by
    intro idx K m1 hi hK hm1 hnw1 hnw2 w1 w2 w3 hneg
    obtain ⟨c, x1, x2, x3, x4, x5, x6⟩ := hbc.put (i := idx) (by omega) (ix m idx ^^^ 1#8 <<< j)
    have x7 := put_ld m idx (by omega)
    have hxo := e_xor8 (ix m idx) (1#8 <<< j)
    have ic := live_ltG x2
    rw [← hm1] at x5 x6
    generalize ix m idx = bx at *
    obtain ⟨G3, hG3⟩ : ∃ G3, G3 = G2.set c (some ⟨true, 5, bL (m1.map w8)⟩) := ⟨_, rfl⟩
    rw [← hG3] at x6
    have y3 : Ext G1 G3 := by rw [hG3]; exact y2.set x3 _
    have hml : m1.length = 88 := by rw [hm1, List.length_set, hm]
    have z3 : Ext G G3 := y1.trans y3
    cases b with
    | false =>
      obtain ⟨X6, e6⟩ := recover_f cv m1 (by omega) G3 (hE.ext z3) x6.BS
      obtain ⟨r1, r2⟩ := rc_of m1 hml
      rw [if_neg (by omega)] at r1 r2
      rw [hnw1.2] at r2
      rw [r1, r2] at e6
      simp only [EV] at e6
      obtain ⟨G6, hG6⟩ : ∃ G6, G6 = G3 ++ X6 := ⟨_, rfl⟩
      rw [← hG6] at e6
      have z6 : Ext G3 G6 := ⟨_, hG6⟩
      obtain ⟨G7, hG7⟩ : ∃ G7, G7 = G6 ++ [some ⟨true, 26, (rdR (oslot m)).L⟩] := ⟨_, rfl⟩
      have z7 : Ext G6 G7 := ⟨_, hG7⟩
      have k22 : live G7 G6.length = some ⟨true, 26, (rdR (oslot m)).L⟩ := by rw [hG7]; exact (live_app_len _ _).trans rfl
      have i22 := live_ltG k22
      have ho7 := ho.ext ((z3.trans z6).trans z7)
      obtain ⟨cA, u1, cells1, u2, u3, u4, u5⟩ := ho7.idx a4
      obtain ⟨cB, v1, cells2, v2, v3, v4, v5⟩ := ho7.idx a1
      have iA := live_ltG u2
      have iB := live_ltG v2
      generalize rdR (oslot m) = Q at *
      generalize (nr m).s = S at *
      generalize n - 2 = j1 at *
      generalize n - 1 = j2 at *
      obtain ⟨s1, m1', l1', a1', b1', c1', d1'⟩ := Q
      simp only [Rec.L] at e6 hG7 k22 f2' u4
      simp only at ld2
      simp (maxDischargeDepth := 8) only [t11, c11_0, c11_1, c11_2, c11_3, c11_4, c11_5, c11_6, c11_7, c11_8, c11_9, c11_10, c11_11, c11_12, c11_13, c11_14, c11_15, c11_16, c11_17, c11_18, c11_19, c11_20, c11_21, c11_22, c11_23, c11_24, c11_25, c11_26, c11_27, c11_28, c11_29, q0, q2, q3, q4, q11, q12, q13, e1, hneg, e2, nf, w1, w3, x1, x2, x4, x5, x7, ic, he7, hu, hng, hbit, hxo, Int.toNat_natCast, ← hG3, e6, ← hG7, k22, i22, wn1, wn2, u1, u2, u3, u4, v1, v2, v3, v5, iA, iB, f2', ld2, fullOf_appG, fullOf_mapG, List.length_map, RUN, Ed, knd, kndR, resV, binInt, mnmxV, mnmx2, fillL, unV, lenV, extractV, partV, loadAt, Nat.reduceAdd, Nat.reduceBEq, Nat.reduceEqDiff, Nat.reduceLT, Nat.reduceLeDiff, Nat.reduceMul, Nat.reduceSub, reduceIte, Int.reduceEq, Int.reduceNe, Int.reduceLT, Int.reduceLE, Int.reduceAdd, Int.reduceSub, Int.reduceMul, Int.reduceNeg, Int.reduceMod, Int.reduceDiv, Int.reduceTMod, Int.reduceTDiv, Int.reduceToNat, okChain_i, okLoads_nil, okLoads_in, okLoads_eq]
      exact Ok.mk _
    | true =>
      obtain ⟨c', x1', x2', x3', x4', x5', x6'⟩ := x6.put (i := K) (by omega) 0#8
      have x5'' : (bL (m1.map w8)).set K (.int .u8 0) = bL ((m1.set K 0#8).map w8) := x5'
      have ic' := live_ltG x2'
      obtain ⟨G4, hG4⟩ : ∃ G4, G4 = G3.set c' (some ⟨true, 5, bL ((m1.set K 0#8).map w8)⟩) := ⟨_, rfl⟩
      rw [← hG4] at x6'
      have y4 : Ext G1 G4 := by rw [hG4]; exact y3.set x3' _
      have z4 : Ext G G4 := y1.trans y4
      have hml' : (m1.set K 0#8).length = 88 := by rw [List.length_set, hml]
      obtain ⟨X6, e6⟩ := recover_f cv (m1.set K 0#8) (by omega) G4 (hE.ext z4) x6'.BS
      obtain ⟨r1, r2⟩ := rc_of _ hml'
      rw [if_pos (by omega)] at r1 r2
      rw [r1, r2] at e6
      simp only [EV] at e6
      obtain ⟨G6, hG6⟩ : ∃ G6, G6 = G4 ++ (X6 ++ [some ⟨true, 26, Rec.z.L⟩]) := ⟨_, rfl⟩
      have z6 : Ext G4 G6 := ⟨_, hG6⟩
      obtain ⟨v4, u4⟩ := put_same hG6
      have t4 := live_ltG v4
      have E6 := hE.ext (z4.trans z6)
      have e7 : ∀ Z, ∃ X, D Tryd.prog hints 31 [cv] (G6 ++ Z) = some (.int .i64 (-1), (G6 ++ Z) ++ X) := fun Z => by
        have := newestI_f cv (m1.set K 0#8) (by omega) (G6 ++ Z) (E6.more Z) ((x6'.BS.ext z6).ext (Ext.more _ _))
        rw [hnw2] at this
        exact this
      obtain ⟨X7, e7'⟩ := e7 (Y3 G6)
      simp only [zL] at e6 hG6 v4 u4
      simp (maxDischargeDepth := 8) only [t11, c11_0, c11_1, c11_2, c11_3, c11_4, c11_5, c11_6, c11_7, c11_8, c11_9, c11_10, c11_11, c11_12, c11_13, c11_14, c11_15, c11_16, c11_17, c11_18, c11_19, c11_20, c11_21, c11_22, c11_23, c11_24, c11_25, c11_26, c11_27, c11_28, c11_29, q0, q2, q3, q4, q11, q12, q13, e1, hneg, e2, nf, w1, w2, w3, x1, x2, x4, x5, x7, ic, he7, hu, hng, hbit, hxo, Int.toNat_natCast, ← hG3, x1', x2', x4', x5'', ic', ← hG4, e6, ← hG6, v4, u4, t4, f3, E6, e7', RUN, Ed, knd, kndR, resV, binInt, mnmxV, mnmx2, fillL, unV, lenV, extractV, partV, loadAt, Nat.reduceAdd, Nat.reduceBEq, Nat.reduceEqDiff, Nat.reduceLT, Nat.reduceLeDiff, Nat.reduceMul, Nat.reduceSub, reduceIte, Int.reduceEq, Int.reduceNe, Int.reduceLT, Int.reduceLE, Int.reduceAdd, Int.reduceSub, Int.reduceMul, Int.reduceNeg, Int.reduceMod, Int.reduceDiv, Int.reduceTMod, Int.reduceTDiv, Int.reduceToNat, okChain_i, okLoads_nil, okLoads_in, okLoads_eq]
      exact Ok.mk _
  rcases hor with h | h
  · obtain ⟨g1, g2, g3⟩ := fl0 h
    exact fin y 44 _ (by omega) (by omega) rfl ⟨by omega, g2⟩ g3 (by rw [h, wrap64 _ (by omega) (by omega)]; omega) (by rw [h]; rfl) (by rw [h]; rfl) (by omega)
  · obtain ⟨g1, g2, g3⟩ := fl1 h
    exact fin (44 + y) 0 _ (by omega) (by omega) rfl ⟨by omega, g2⟩ g3 (by rw [h, wrap64 _ (by omega) (by omega)]; omega) (by rw [h]; rfl) (by rw [h]; rfl) (by omega)
theorem spoilt (p0 p1 p2 p3 : Int) (b : Bool) (h1 : -9223372036854775808 ≤ p0) (h2 : p0 ≤ 9223372036854775807) (g1' : -9223372036854775808 ≤ p2) (g2' : p2 ≤ 9223372036854775807) (H : Heap) (hE : EH all7 H) : Ok (D Tryd.prog hints 11 [.int .i64 p0, .int .i64 p1, .int .i64 p2, .int .i64 p3, .bool b] H) := by
  obtain ⟨X0, e0⟩ := first2_f H hE
  obtain ⟨G0, hG0⟩ : ∃ G0, G0 = H ++ X0 := ⟨_, rfl⟩
  rw [← hG0] at e0
  have y0 : Ext H G0 := ⟨_, hG0⟩
  have E0 := hE.ext y0
  obtain ⟨G1, hG1⟩ : ∃ G1, G1 = G0 ++ [some ⟨true, 5, fillZ [.int .u8 0] 88⟩] := ⟨_, rfl⟩
  have y1 : Ext G0 G1 := ⟨_, hG1⟩
  have k1 : live G1 G0.length = some ⟨true, 5, fillZ [.int .u8 0] 88⟩ := by rw [hG1]; exact (live_app_len _ _).trans rfl
  have hb : BO G0 G1 (.slice (some ⟨G0.length, 0, none⟩) 88 1) zz := .inr ⟨G0.length, Nat.le_refl _, rfl, k1.trans (by rw [zz_cells]), by rw [bL_len, List.length_map, Nat.mul_one]⟩
  have n1 := fun F => number_f p0 5 F h1 h2 (by omega) (by omega)
  obtain ⟨n, hn⟩ : ∃ n : Nat, p0 % 5 + 2 = n := ⟨(p0 % 5 + 2).toNat, by omega⟩
  have wn : IntKind.i64.wrap (p0 % 5 + 2) = (n : Int) := by rw [wrap64 _ (by omega) (by omega), hn]
  have hn2 : 2 ≤ n := by omega
  have hn6 : n ≤ 6 := by omega
  have key : ∀ ρ0, ρ0 0 = .int .i64 (n : Nat) → ρ0 1 = .int .i64 p1 → ρ0 2 = .int .i64 p2 → ρ0 3 = .int .i64 p3 → ρ0 4 = .bool b → ρ0 11 = .bool true → ρ0 12 = .slice (some ⟨G0.length, 0, none⟩) 88 1 → ρ0 13 = .slice none 0 0 → ρ0 14 = .int .i64 (0 : Nat) → Ok (done [.tmp 10] (andThen (blk 0 (E Tryd.prog hints (.loop l11_0) ρ0 G1)) (E Tryd.prog hints t11))) := by
    intro ρ0 q0 q1 q2 q3 q4 q11 q12 q13 q14
    obtain ⟨ρ', G', e, hf, w, lw, m, L, hI⟩ := loop_keep (P := Tryd.prog) (hs := hints) (b := l11_0) (id := 0) ρ0 (fun i ρ G => ∃ w lw m L, I11 G0 i w lw m L ρ G) (fun ρ G => ∃ w lw m L, I11 G0 n w lw m L ρ G) n
      (by
        rintro i ρ G hi hf ⟨w, lw, m, L, hI⟩
        obtain ⟨ρ', F, w', lw', m', L', e, h⟩ := step11 G0 E0 p1 n i hi hn6 w lw m L ρ G hI ((hf 0 rfl).trans q0) ((hf 1 rfl).trans q1)
        exact ⟨ρ', F, e, w', lw', m', L', h⟩)
      (by
        rintro ρ G hf ⟨w, lw, m, L, hI⟩
        have r0 := (hf 0 rfl).trans q0
        have r14 := hI.q14
        have hlt : ¬ (n : Int) < (n : Int) := by omega
        obtain ⟨i14, i12, i13, i3, i4, i5, i6, i7, i8, i9, i10, i11⟩ := hI
        refine ⟨?ρ2, G, ?run2, w, lw, m, L, ⟨?_, ?_, ?_, i3, i4, i5, i6, i7, i8, i9, i10, i11⟩⟩
        case run2 =>
          simp (maxDischargeDepth := 8) only [l11_0, c11_8, r0, r14, hlt, RUN, Ed, knd, kndR, resV, binInt, mnmxV, mnmx2, fillL, unV, lenV, extractV, partV, loadAt, Nat.reduceAdd, Nat.reduceBEq, Nat.reduceEqDiff, Nat.reduceLT, Nat.reduceLeDiff, Nat.reduceMul, Nat.reduceSub, reduceIte, Int.reduceEq, Int.reduceNe, Int.reduceLT, Int.reduceLE, Int.reduceAdd, Int.reduceSub, Int.reduceMul, Int.reduceNeg, Int.reduceMod, Int.reduceDiv, Int.reduceTMod, Int.reduceTDiv, Int.reduceToNat, okChain_i, okLoads_nil, okLoads_in, okLoads_eq]
          rfl
        all_goals first | (simp (maxDischargeDepth := 8) only [i14, i12, i13, RUN, Ed, knd, kndR, resV, binInt, mnmxV, mnmx2, fillL, unV, lenV, extractV, partV, loadAt, Nat.reduceAdd, Nat.reduceBEq, Nat.reduceEqDiff, Nat.reduceLT, Nat.reduceLeDiff, Nat.reduceMul, Nat.reduceSub, reduceIte, Int.reduceEq, Int.reduceNe, Int.reduceLT, Int.reduceLE, Int.reduceAdd, Int.reduceSub, Int.reduceMul, Int.reduceNeg, Int.reduceMod, Int.reduceDiv, Int.reduceTMod, Int.reduceTDiv, Int.reduceToNat, okChain_i, okLoads_nil, okLoads_in, okLoads_eq]; done) | (simp (maxDischargeDepth := 8) only [i14, i12, i13, RUN, Ed, knd, kndR, resV, binInt, mnmxV, mnmx2, fillL, unV, lenV, extractV, partV, loadAt, Nat.reduceAdd, Nat.reduceBEq, Nat.reduceEqDiff, Nat.reduceLT, Nat.reduceLeDiff, Nat.reduceMul, Nat.reduceSub, reduceIte, Int.reduceEq, Int.reduceNe, Int.reduceLT, Int.reduceLE, Int.reduceAdd, Int.reduceSub, Int.reduceMul, Int.reduceNeg, Int.reduceMod, Int.reduceDiv, Int.reduceTMod, Int.reduceTDiv, Int.reduceToNat, okChain_i, okLoads_nil, okLoads_in, okLoads_eq]; rfl))
      G1 ⟨_, _, zz, [], q14, q12, q13, y1, hb, SM.nil _ _ _ _, zz_len, zz_nw, by unfold nr; rw [zz_nw]; rfl, rfl, fun h => by omega, fun h => by omega⟩
    rw [e]
    exact tail11 G0 E0 n hn2 hn6 w lw m L ρ' G' hI p2 p3 b g1' g2' ((hf 0 rfl).trans q0) ((hf 2 rfl).trans q2) ((hf 3 rfl).trans q3) ((hf 4 rfl).trans q4) ((hf 11 rfl).trans q11)
  rw [D_eq p11 _ _ (Nat.le_of_ble_eq_true rfl)]
  simp (maxDischargeDepth := 8) only [r11, b11t, c11_0, c11_1, c11_2, c11_3, c11_4, c11_5, c11_6, c11_7, e0, mk88, ← hG1, n1, wn, RUN, Ed, knd, kndR, resV, binInt, mnmxV, mnmx2, fillL, unV, lenV, extractV, partV, loadAt, Nat.reduceAdd, Nat.reduceBEq, Nat.reduceEqDiff, Nat.reduceLT, Nat.reduceLeDiff, Nat.reduceMul, Nat.reduceSub, reduceIte, Int.reduceEq, Int.reduceNe, Int.reduceLT, Int.reduceLE, Int.reduceAdd, Int.reduceSub, Int.reduceMul, Int.reduceNeg, Int.reduceMod, Int.reduceDiv, Int.reduceTMod, Int.reduceTDiv, Int.reduceToNat, okChain_i, okLoads_nil, okLoads_in, okLoads_eq]
  refine key _ ?_ ?_ ?_ ?_ ?_ ?_ ?_ ?_ ?_
  all_goals first | (simp (maxDischargeDepth := 8) only [RUN, Ed, knd, kndR, resV, binInt, mnmxV, mnmx2, fillL, unV, lenV, extractV, partV, loadAt, Nat.reduceAdd, Nat.reduceBEq, Nat.reduceEqDiff, Nat.reduceLT, Nat.reduceLeDiff, Nat.reduceMul, Nat.reduceSub, reduceIte, Int.reduceEq, Int.reduceNe, Int.reduceLT, Int.reduceLE, Int.reduceAdd, Int.reduceSub, Int.reduceMul, Int.reduceNeg, Int.reduceMod, Int.reduceDiv, Int.reduceTMod, Int.reduceTDiv, Int.reduceToNat, okChain_i, okLoads_nil, okLoads_in, okLoads_eq]; done) | (simp (maxDischargeDepth := 8) only [RUN, Ed, knd, kndR, resV, binInt, mnmxV, mnmx2, fillL, unV, lenV, extractV, partV, loadAt, Nat.reduceAdd, Nat.reduceBEq, Nat.reduceEqDiff, Nat.reduceLT, Nat.reduceLeDiff, Nat.reduceMul, Nat.reduceSub, reduceIte, Int.reduceEq, Int.reduceNe, Int.reduceLT, Int.reduceLE, Int.reduceAdd, Int.reduceSub, Int.reduceMul, Int.reduceNeg, Int.reduceMod, Int.reduceDiv, Int.reduceTMod, Int.reduceTDiv, Int.reduceToNat, okChain_i, okLoads_nil, okLoads_in, okLoads_eq]; rfl)
def sh11 : List Sh := [.int .i64, .int .i64, .int .i64, .int .i64, .bool]
theorem spoilt_law (H : Heap) (h : EH all7 H) (ls : List (List Value)) (o : OpnAll H sh11 ls) : Ok (D Tryd.prog hints 11 (argsS sh11 ls) H) := by
  obtain ⟨l0, _, rfl, h0, o⟩ := o.uncons
  obtain ⟨l1, _, rfl, h1, o⟩ := o.uncons
  obtain ⟨l2, _, rfl, h2, o⟩ := o.uncons
  obtain ⟨l3, _, rfl, h3, o⟩ := o.uncons
  obtain ⟨l4, _, rfl, h4, o⟩ := o.uncons
  cases o.unnil
  simp only [Opn] at h0 h1 h2 h3 h4
  obtain ⟨a, rfl, ha⟩ := h0
  obtain ⟨b, rfl, hb⟩ := h1
  obtain ⟨c, rfl, hc⟩ := h2
  obtain ⟨d, rfl, hd⟩ := h3
  obtain ⟨e, rfl⟩ := h4
  exact spoilt a b c d e (wfi64 ha).1 (wfi64 ha).2 (wfi64 hc).1 (wfi64 hc).2 H h
end Go.Proofs.YtdipdpkdmiokeaaDoor.Sim
