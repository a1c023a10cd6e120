/- The laws of chapter 6: one bit turned, and no end. -/
import Derived.Test.YtoknmodbdlfdmaaDoorFr11
import Derived.Test.YtoknmodbdlfdmaaDoorSim21
namespace Go.Proofs.YtoknmodbdlfdmaaDoor.Sim
open Go Go.Proofs.YtoknmodbdlfdmaaDoor.CrcMath
set_option linter.unusedSimpArgs false
set_option linter.unusedVariables false
theorem hi_word (a b : B8) : hi (word a b) = a := by
  unfold word hi up
  apply BitVec.eq_of_getElem_eq
  intro i hi
  have h1 : 8 + i < 16 := by omega
  have h2 : ¬ 8 + i < 8 := by omega
  simp [h1, h2, BitVec.getLsbD_eq_getElem hi]
theorem lo_word (a b : B8) : lo (word a b) = b := by
  unfold word lo up
  apply BitVec.eq_of_getElem_eq
  intro i hi
  have h1 : i < 16 := by omega
  simp [h1, hi, BitVec.getLsbD_eq_getElem hi]
theorem flip_ne (a : B8) (j : Nat) (h : j < 8) : a ^^^ 1#8 <<< j ≠ a := by
  intro e
  have e2 := congrArg (a ^^^ ·) e
  simp only [← BitVec.xor_assoc, BitVec.xor_self, BitVec.zero_xor] at e2
  have : ∀ j : Fin 8, (1#8 <<< j.val) ≠ 0#8 := by decide
  exact this ⟨j, h⟩ e2
theorem ix_set_ne (m : List B8) (i j : Nat) (x : B8) (h : i ≠ j) : ix (m.set i x) j = ix m j := by
  unfold ix
  rw [List.getD_eq_getElem?_getD, List.getD_eq_getElem?_getD, List.getElem?_set_ne h]
theorem ix_set_eq (m : List B8) (i : Nat) (x : B8) (h : i < m.length) : ix (m.set i x) i = x := by
  unfold ix
  rw [List.getD_eq_getElem?_getD, List.getElem?_set_self h]; rfl
theorem frB_ix (f : Fra) (hl : f.2.2.length ≤ 32) : bodyN (frB f) = f.2.2.length ∧ ((frB f).take (4 + f.2.2.length)).drop 1 = hdr f ∧ ix (frB f) (4 + f.2.2.length) = hi (crc (hdr f)) ∧ ix (frB f) (5 + f.2.2.length) = lo (crc (hdr f)) := by
  have h := (beg_app f [] hl).2.1
  rw [List.append_nil] at h
  have hb : ((frB f).take (4 + f.2.2.length)).drop 1 = hdr f := by
    have := frB_app f []
    rw [List.append_nil] at this
    rw [this, show 4 + f.2.2.length = f.2.2.length + 4 by omega]
    simp only [List.take_succ_cons, List.drop_succ_cons, List.drop_zero]
    rw [List.take_left' rfl]; rfl
  have hfr := frB_app f []
  rw [List.append_nil] at hfr
  refine ⟨h, hb, ?_, ?_⟩
  · rw [hfr, show 4 + f.2.2.length = f.2.2.length + 0 + 1 + 1 + 1 + 1 by omega, ix_cons, ix_cons, ix_cons, ix_cons]; exact ix_app _ _ 0
  · rw [hfr, show 5 + f.2.2.length = f.2.2.length + 1 + 1 + 1 + 1 + 1 by omega, ix_cons, ix_cons, ix_cons, ix_cons, ix_app]; rfl
/-- With one bit turned it is no frame. -/
theorem turned_none (f : Fra) (hl : f.2.2.length ≤ 32) (k : Nat) (h8 : 8 ≤ k) (hk : k < 8 * (frB f).length) (h3 : k / 8 ≠ 3) : ¬ begC (bitTurned (frB f) k) := by
  intro hb
  obtain ⟨g1, g2, g3, g4⟩ := frB_ix f hl
  have hlen := frB_len f
  have hN : bodyN (bitTurned (frB f) k) = f.2.2.length := by
    rw [← g1]; unfold bodyN bitTurned; rw [ix_set_ne _ _ _ _ h3]
  have hc := hb.2.2.2.2
  rw [hN] at hc
  have hhdr : (hdr f).length = f.2.2.length + 3 := by simp [hdr]
  by_cases hlow : k / 8 < 4 + f.2.2.length
  · have e1 : ((bitTurned (frB f) k).take (4 + f.2.2.length)).drop 1 = bitTurned (hdr f) (k - 8) := by
      unfold bitTurned
      rw [List.take_set, List.drop_set, if_neg (by omega), g2, show (k - 8) / 8 = k / 8 - 1 by omega, show (k - 8) % 8 = k % 8 by omega]
      congr 2
      rw [← g2, List.getD_eq_getElem?_getD, List.getD_eq_getElem?_getD, List.getElem?_drop, List.getElem?_take, if_pos (by omega), show 1 + (k / 8 - 1) = k / 8 by omega]
    have e2 : ix (bitTurned (frB f) k) (4 + f.2.2.length) = hi (crc (hdr f)) := by unfold bitTurned; rw [ix_set_ne _ _ _ _ (by omega)]; exact g3
    have e3 : ix (bitTurned (frB f) k) (5 + f.2.2.length) = lo (crc (hdr f)) := by unfold bitTurned; rw [ix_set_ne _ _ _ _ (by omega)]; exact g4
    rw [e1, e2, e3, word_hi_lo] at hc
    exact one_bit _ (hdr f) (k - 8) (by omega) hc
  · have e1 : ((bitTurned (frB f) k).take (4 + f.2.2.length)).drop 1 = hdr f := by
      unfold bitTurned
      rw [List.take_set, List.set_eq_of_length_le (by rw [List.length_take]; omega)]
      exact g2
    rw [e1] at hc
    by_cases h4 : k / 8 = 4 + f.2.2.length
    · have := congrArg hi hc
      rw [hi_word] at this
      have e2 : ix (bitTurned (frB f) k) (4 + f.2.2.length) = ix (frB f) (4 + f.2.2.length) ^^^ 1#8 <<< (k % 8) := by unfold bitTurned; rw [← h4, ix_set_eq _ _ _ (by omega)]; rfl
      rw [e2, g3] at this
      exact flip_ne _ _ (by omega) this.symm
    · have h5 : k / 8 = 5 + f.2.2.length := by omega
      have := congrArg lo hc
      rw [lo_word] at this
      have e2 : ix (bitTurned (frB f) k) (5 + f.2.2.length) = ix (frB f) (5 + f.2.2.length) ^^^ 1#8 <<< (k % 8) := by unfold bitTurned; rw [← h5, ix_set_eq _ _ _ (by omega)]; rfl
      rw [e2, g4] at this
      exact flip_ne _ _ (by omega) this.symm
theorem turned_small (f : Fra) (hl : f.2.2.length ≤ 32) (k : Nat) (h8 : 8 ≤ k) (hk : k < 8 * (frB f).length) (h3 : k / 8 ≠ 3) : ∀ g ∈ (splitP (bitTurned (frB f) k)).1, g.2.2.length + 6 < (frB f).length := by
  intro g hg
  have hlen := frB_len f
  have hbl := bitTurned_length (frB f) k
  rw [splitP_not (turned_none f hl k h8 hk h3) (by intro e; rw [e] at hbl; simp at hbl; omega)] at hg
  have h1 : g.2.2.length + 6 ≤ sizes (splitP ((bitTurned (frB f) k).drop 1)).1 := sizes_mem hg
  have h2 := (splitP_all ((bitTurned (frB f) k).drop 1)).1
  rw [List.length_drop, hbl] at h2
  omega
theorem e_xor8 (a b : B8) : IntKind.u8.wrap ((BitVec.ofInt IntKind.u8.bits (w8 a) ^^^ BitVec.ofInt IntKind.u8.bits (w8 b)).toNat : Int) = w8 (a ^^^ b) := xor8 a b
theorem e_bit (j : Nat) (h : j < 8) : IntKind.u8.wrap (1 * 2 ^ min j IntKind.u8.bits) = w8 (1#8 <<< j) := by
  have : ∀ j : Fin 8, IntKind.u8.wrap (1 * 2 ^ min j.val IntKind.u8.bits) = w8 (1#8 <<< j.val) := by decide
  exact this ⟨j, h⟩
theorem bL_set (A : List Int) (i : Nat) (x : Int) : (bL A).set i (.int .u8 x) = bL (A.set i x) := by
  unfold bL; rw [List.map_set]
theorem map_turn (m : List B8) (k : Nat) : (m.map w8).set (k / 8) (w8 (ix m (k / 8) ^^^ 1#8 <<< (k % 8))) = (bitTurned m k).map w8 := by
  unfold bitTurned; rw [List.map_set]; rfl
structure S5 (w6 fr : Value) (k : Nat) (ρ : Fr) : Prop where
  q5 : ρ 5 = .bool true
  q6 : ρ 6 = w6
  q10 : ρ 10 = fr
  q12 : ρ 12 = .int .i64 k
theorem loop5 (G : Heap) (w6 fr : Value) (N : Nat) (hN : N ≤ 1000) (l6 : lenV false w6 = some (.int .i64 N)) (M : List Fra) (hM : FS G fr M) (hl : M.length ≤ 1000) (hs : ∀ g ∈ M, g.2.2.length + 6 < N) (ρ : Fr) (hS : S5 w6 fr 0 ρ) :
    ∃ ρ', E Tryd.prog hints (.loop l5_0) ρ G = some (.exit 0, ρ', G) ∧ S5 w6 fr M.length ρ' := by
  obtain ⟨ρ', G', e, h, rfl⟩ := loop_inv (P := Tryd.prog) (hs := hints) (b := l5_0) (id := 0) (fun k ρ G' => S5 w6 fr k ρ ∧ G' = G) (fun ρ G' => S5 w6 fr M.length ρ ∧ G' = G) M.length
    (by
      rintro k ρ G' hk ⟨⟨q5, q6, q10, q12⟩, rfl⟩
      have hf : M[k]? = some M[k] := List.getElem?_eq_getElem hk
      have l2 := hM.len
      have hlt : (k : Int) < (M.length : Int) := by omega
      obtain ⟨a, y, x1, x2, ow, ty, cells, x3, x4, x5, x6⟩ := hM.idx hf
      have i3 := live_ltG x3
      have ly := x2.BS.len
      rw [List.length_map] at ly
      have hsz := hs _ (List.getElem_mem hk)
      generalize M[k] = g at *
      have w1 := wrap64 ((g.2.2.length : Int) + 6) (by omega) (by omega)
      have wk := wrap64 ((k : Int) + 1) (by omega) (by omega)
      have hge : ¬ ((N : Int) ≤ (g.2.2.length : Int) + 6) := by omega
      refine ⟨?ρ1, G', ?run1, ⟨?_, ?_, ?_, ?_⟩, rfl⟩
      case run1 =>
        simp (maxDischargeDepth := 8) only [l5_0, c5_0, c5_1, c5_2, c5_3, c5_4, c5_5, c5_6, c5_7, c5_8, c5_9, c5_10, c5_11, c5_12, c5_13, c5_14, c5_15, c5_16, c5_17, c5_18, c5_19, c5_20, c5_21, c5_22, c5_23, c5_24, c5_25, c5_26, q5, q6, q10, q12, l2, hlt, x1, x3, x4, x6, i3, ly, l6, w1, wk, hge, RUN, Ed, knd, kndR, resV, binInt, mnmxV, mnmx2, fillL, unV, extractV, partV, loadAt, Nat.reduceAdd, Nat.reduceBEq, Nat.reduceEqDiff, Nat.reduceLT, Nat.reduceLeDiff, Nat.reduceMul, Nat.reduceSub, reduceIte, Int.reduceEq, Int.reduceNe, Int.reduceLT, Int.reduceLE, Int.reduceAdd, Int.reduceSub, Int.reduceMul, Int.reduceNeg, Int.reduceMod, Int.reduceDiv, Int.reduceTMod, Int.reduceTDiv, Int.reduceToNat, okChain_i, okLoads_nil, okLoads_in, okLoads_eq]
        rfl
      all_goals first | (simp (maxDischargeDepth := 8) only [q5, q6, q10, q12, RUN, Ed, knd, kndR, resV, binInt, mnmxV, mnmx2, fillL, unV, lenV, extractV, partV, loadAt, Nat.reduceAdd, Nat.reduceBEq, Nat.reduceEqDiff, Nat.reduceLT, Nat.reduceLeDiff, Nat.reduceMul, Nat.reduceSub, reduceIte, Int.reduceEq, Int.reduceNe, Int.reduceLT, Int.reduceLE, Int.reduceAdd, Int.reduceSub, Int.reduceMul, Int.reduceNeg, Int.reduceMod, Int.reduceDiv, Int.reduceTMod, Int.reduceTDiv, Int.reduceToNat, okChain_i, okLoads_nil, okLoads_in, okLoads_eq]; done) | (simp (maxDischargeDepth := 8) only [q5, q6, q10, q12, RUN, Ed, knd, kndR, resV, binInt, mnmxV, mnmx2, fillL, unV, lenV, extractV, partV, loadAt, Nat.reduceAdd, Nat.reduceBEq, Nat.reduceEqDiff, Nat.reduceLT, Nat.reduceLeDiff, Nat.reduceMul, Nat.reduceSub, reduceIte, Int.reduceEq, Int.reduceNe, Int.reduceLT, Int.reduceLE, Int.reduceAdd, Int.reduceSub, Int.reduceMul, Int.reduceNeg, Int.reduceMod, Int.reduceDiv, Int.reduceTMod, Int.reduceTDiv, Int.reduceToNat, okChain_i, okLoads_nil, okLoads_in, okLoads_eq]; rfl))
    (by
      rintro ρ G' ⟨⟨q5, q6, q10, q12⟩, rfl⟩
      have l2 := hM.len
      have hlt : ¬ (M.length : Int) < (M.length : Int) := by omega
      refine ⟨?ρ2, G', ?run2, ⟨?_, ?_, ?_, ?_⟩, rfl⟩
      case run2 =>
        simp (maxDischargeDepth := 8) only [l5_0, c5_16, q10, q12, l2, hlt, RUN, Ed, knd, kndR, resV, binInt, mnmxV, mnmx2, fillL, unV, extractV, partV, loadAt, Nat.reduceAdd, Nat.reduceBEq, Nat.reduceEqDiff, Nat.reduceLT, Nat.reduceLeDiff, Nat.reduceMul, Nat.reduceSub, reduceIte, Int.reduceEq, Int.reduceNe, Int.reduceLT, Int.reduceLE, Int.reduceAdd, Int.reduceSub, Int.reduceMul, Int.reduceNeg, Int.reduceMod, Int.reduceDiv, Int.reduceTMod, Int.reduceTDiv, Int.reduceToNat, okChain_i, okLoads_nil, okLoads_in, okLoads_eq]
        rfl
      all_goals simp (maxDischargeDepth := 8) only [q5, q6, q10, q12, RUN, Ed, knd, kndR, resV, binInt, mnmxV, mnmx2, fillL, unV, lenV, extractV, partV, loadAt, Nat.reduceAdd, Nat.reduceBEq, Nat.reduceEqDiff, Nat.reduceLT, Nat.reduceLeDiff, Nat.reduceMul, Nat.reduceSub, reduceIte, Int.reduceEq, Int.reduceNe, Int.reduceLT, Int.reduceLE, Int.reduceAdd, Int.reduceSub, Int.reduceMul, Int.reduceNeg, Int.reduceMod, Int.reduceDiv, Int.reduceTMod, Int.reduceTDiv, Int.reduceToNat, okChain_i, okLoads_nil, okLoads_in, okLoads_eq])
    ρ G ⟨hS, rfl⟩
  exact ⟨ρ', e, h⟩
structure R5 (w6 fr : Value) (p k : Nat) (ρ : Fr) : Prop where
  q5 : ρ 5 = .bool true
  q6 : ρ 6 = w6
  q13 : ρ 13 = fr
  q14 : ρ 14 = .int .i64 p
  q15 : ρ 15 = .int .i64 k
theorem loop5b (G : Heap) (w6 fr : Value) (N p : Nat) (hN : N ≤ 1000) (l6 : lenV false w6 = some (.int .i64 N)) (M : List Fra) (hM : FS G fr M) (hl : M.length ≤ 1000) (hs : ∀ g ∈ M, g.2.2.length + 6 < N) (ρ : Fr) (hS : R5 w6 fr p 0 ρ) :
    ∃ ρ', E Tryd.prog hints (.loop l5_1) ρ G = some (.exit 2, ρ', G) ∧ R5 w6 fr p M.length ρ' := by
  obtain ⟨ρ', G', e, h, rfl⟩ := loop_inv (P := Tryd.prog) (hs := hints) (b := l5_1) (id := 2) (fun k ρ G' => R5 w6 fr p k ρ ∧ G' = G) (fun ρ G' => R5 w6 fr p M.length ρ ∧ G' = G) M.length
    (by
      rintro k ρ G' hk ⟨⟨q5, q6, q10, q14, q12⟩, rfl⟩
      have hf : M[k]? = some M[k] := List.getElem?_eq_getElem hk
      have l2 := hM.len
      have hlt : (k : Int) < (M.length : Int) := by omega
      obtain ⟨a, y, x1, x2, ow, ty, cells, x3, x4, x5, x6⟩ := hM.idx hf
      have i3 := live_ltG x3
      have ly := x2.BS.len
      rw [List.length_map] at ly
      have hsz := hs _ (List.getElem_mem hk)
      generalize M[k] = g at *
      have w1 := wrap64 ((g.2.2.length : Int) + 6) (by omega) (by omega)
      have wk := wrap64 ((k : Int) + 1) (by omega) (by omega)
      have hge : ¬ ((N : Int) ≤ (g.2.2.length : Int) + 6) := by omega
      refine ⟨?ρ1, G', ?run1, ⟨?_, ?_, ?_, ?_, ?_⟩, rfl⟩
      case run1 =>
        simp (maxDischargeDepth := 8) only [l5_1, c5_0, c5_1, c5_2, c5_3, c5_4, c5_5, c5_6, c5_7, c5_8, c5_9, c5_10, c5_11, c5_12, c5_13, c5_14, c5_15, c5_16, c5_17, c5_18, c5_19, c5_20, c5_21, c5_22, c5_23, c5_24, c5_25, c5_26, q5, q6, q10, q12, l2, hlt, x1, x3, x4, x6, i3, ly, l6, w1, wk, hge, RUN, Ed, knd, kndR, resV, binInt, mnmxV, mnmx2, fillL, unV, extractV, partV, loadAt, Nat.reduceAdd, Nat.reduceBEq, Nat.reduceEqDiff, Nat.reduceLT, Nat.reduceLeDiff, Nat.reduceMul, Nat.reduceSub, reduceIte, Int.reduceEq, Int.reduceNe, Int.reduceLT, Int.reduceLE, Int.reduceAdd, Int.reduceSub, Int.reduceMul, Int.reduceNeg, Int.reduceMod, Int.reduceDiv, Int.reduceTMod, Int.reduceTDiv, Int.reduceToNat, okChain_i, okLoads_nil, okLoads_in, okLoads_eq]
        rfl
      all_goals first | (simp (maxDischargeDepth := 8) only [q5, q6, q10, q14, q12, RUN, Ed, knd, kndR, resV, binInt, mnmxV, mnmx2, fillL, unV, lenV, extractV, partV, loadAt, Nat.reduceAdd, Nat.reduceBEq, Nat.reduceEqDiff, Nat.reduceLT, Nat.reduceLeDiff, Nat.reduceMul, Nat.reduceSub, reduceIte, Int.reduceEq, Int.reduceNe, Int.reduceLT, Int.reduceLE, Int.reduceAdd, Int.reduceSub, Int.reduceMul, Int.reduceNeg, Int.reduceMod, Int.reduceDiv, Int.reduceTMod, Int.reduceTDiv, Int.reduceToNat, okChain_i, okLoads_nil, okLoads_in, okLoads_eq]; done) | (simp (maxDischargeDepth := 8) only [q5, q6, q10, q14, q12, RUN, Ed, knd, kndR, resV, binInt, mnmxV, mnmx2, fillL, unV, lenV, extractV, partV, loadAt, Nat.reduceAdd, Nat.reduceBEq, Nat.reduceEqDiff, Nat.reduceLT, Nat.reduceLeDiff, Nat.reduceMul, Nat.reduceSub, reduceIte, Int.reduceEq, Int.reduceNe, Int.reduceLT, Int.reduceLE, Int.reduceAdd, Int.reduceSub, Int.reduceMul, Int.reduceNeg, Int.reduceMod, Int.reduceDiv, Int.reduceTMod, Int.reduceTDiv, Int.reduceToNat, okChain_i, okLoads_nil, okLoads_in, okLoads_eq]; rfl))
    (by
      rintro ρ G' ⟨⟨q5, q6, q10, q14, q12⟩, rfl⟩
      have l2 := hM.len
      have hlt : ¬ (M.length : Int) < (M.length : Int) := by omega
      refine ⟨?ρ2, G', ?run2, ⟨?_, ?_, ?_, ?_, ?_⟩, rfl⟩
      case run2 =>
        simp (maxDischargeDepth := 8) only [l5_1, c5_22, q10, q12, l2, hlt, RUN, Ed, knd, kndR, resV, binInt, mnmxV, mnmx2, fillL, unV, extractV, partV, loadAt, Nat.reduceAdd, Nat.reduceBEq, Nat.reduceEqDiff, Nat.reduceLT, Nat.reduceLeDiff, Nat.reduceMul, Nat.reduceSub, reduceIte, Int.reduceEq, Int.reduceNe, Int.reduceLT, Int.reduceLE, Int.reduceAdd, Int.reduceSub, Int.reduceMul, Int.reduceNeg, Int.reduceMod, Int.reduceDiv, Int.reduceTMod, Int.reduceTDiv, Int.reduceToNat, okChain_i, okLoads_nil, okLoads_in, okLoads_eq]
        rfl
      all_goals simp (maxDischargeDepth := 8) only [q5, q6, q10, q14, q12, RUN, Ed, knd, kndR, resV, binInt, mnmxV, mnmx2, fillL, unV, lenV, extractV, partV, loadAt, Nat.reduceAdd, Nat.reduceBEq, Nat.reduceEqDiff, Nat.reduceLT, Nat.reduceLeDiff, Nat.reduceMul, Nat.reduceSub, reduceIte, Int.reduceEq, Int.reduceNe, Int.reduceLT, Int.reduceLE, Int.reduceAdd, Int.reduceSub, Int.reduceMul, Int.reduceNeg, Int.reduceMod, Int.reduceDiv, Int.reduceTMod, Int.reduceTDiv, Int.reduceToNat, okChain_i, okLoads_nil, okLoads_in, okLoads_eq])
    ρ G ⟨hS, rfl⟩
  exact ⟨ρ', e, h⟩
def z5 : RCode := .seq (.region c5_26) .ret
def y5 : RCode := (.seq (.region c5_20) (.seq (.seq (.region c5_21) (.block 2 (.loop l5_1))) z5))
def x5 : RCode := (.seq (.region c5_12) (.seq (.region c5_13) (.seq (.region c5_14) (.seq (.seq (.region c5_15) (.block 0 (.loop l5_0))) y5))))
theorem rest5 (f : Fra) (hl : f.2.2.length ≤ 32) (k : Nat) (h8 : 8 ≤ k) (hk : k < 8 * (frB f).length) (h3 : k / 8 ≠ 3) (H : Heap) (w : Value) (ρ : Fr) (G : Heap) (hb : BO H G w (frB f)) (q5 : ρ 5 = .bool true) (q6 : ρ 6 = w) (q8 : ρ 8 = .int .i64 k) : Ok (done [.tmp 4] (E Tryd.prog hints x5 ρ G)) := by
  have hlen := frB_len f
  obtain ⟨X, c, e1, hc, hlv⟩ := bytes_f G w ((frB f).map w8) hb.BS (by rw [List.length_map]; omega)
  have ic := live_ltG hlv
  have hx := idxS_s 1 c 0 ((frB f).map w8).length 1 .i64 ((k / 8 : Nat) : Int) (by omega) (by rw [List.length_map]; omega)
  rw [show 0 + (((k / 8 : Nat) : Int)).toNat * 1 = k / 8 by omega] at hx
  have hg : (bL ((frB f).map w8))[k / 8]? = some (.int .u8 (w8 (ix (frB f) (k / 8)))) := by
    unfold bL; rw [List.getElem?_map, map_get (ix_get (m := frB f) (i := k / 8) (by omega))]; rfl
  have hkl : k / 8 < (bL ((frB f).map w8)).length := by rw [bL_len, List.length_map]; omega
  have hset : (bL ((frB f).map w8)).set (k / 8) (.int .u8 (w8 (ix (frB f) (k / 8) ^^^ 1#8 <<< (k % 8)))) = bL ((bitTurned (frB f) k).map w8) := by rw [bL_set, map_turn]
  have hnn : (0 : Int) ≤ (k : Int) := by omega
  have hq : IntKind.i64.wrap ((k : Int) / 8) = ((k / 8 : Nat) : Int) := by rw [wrap64 _ (by omega) (by omega)]; omega
  have hq' : IntKind.i64.wrap ((k : Int).tdiv 8) = ((k / 8 : Nat) : Int) := by rw [tdivL _ _ hnn]; exact hq
  have hr : (k : Int) % 8 = ((k % 8 : Nat) : Int) := by omega
  have hr' : (k : Int).tmod 8 = ((k % 8 : Nat) : Int) := by rw [tmodL _ _ hnn]; exact hr
  have hu : IntKind.u64.wrap ((k % 8 : Nat) : Int) = ((k % 8 : Nat) : Int) := by simp [IntKind.wrap, IntKind.bits, IntKind.signed]; omega
  have hng : ¬ (((k % 8 : Nat) : Int) < 0) := by omega
  have htn : (((k % 8 : Nat) : Int)).toNat = k % 8 := Int.toNat_natCast _
  have hbit := e_bit (k % 8) (by omega)
  have hxo := e_xor8 (ix (frB f) (k / 8)) (1#8 <<< (k % 8))
  generalize hcv : Value.slice (some ⟨c, 0, none⟩) ((frB f).map w8).length 1 = cv at *
  obtain ⟨G2, hG2⟩ : ∃ G2, G2 = (G ++ X).set c (some ⟨true, 5, bL ((bitTurned (frB f) k).map w8)⟩) := ⟨_, rfl⟩
  have hE2 : Ext G G2 := by rw [hG2]; exact (Ext.more G X).set hc _
  have hb2 : BS G2 cv ((bitTurned (frB f) k).map w8) := by
    rw [← hcv, show ((frB f).map w8).length = ((bitTurned (frB f) k).map w8).length by rw [List.length_map, List.length_map, bitTurned_length]]
    exact BS.of (by rw [hG2]; exact live_set_eq _ _ _ ic)
  obtain ⟨fr, F, e2, y2, m2⟩ := split_f G2 cv _ (by rw [bitTurned_length]; omega) hb2
  have hsm := turned_small f hl k h8 hk h3
  have hall := (splitP_all (bitTurned (frB f) k)).2.2
  rw [bitTurned_length] at hall
  have l6 := (hb.ext (hE2.trans y2)).len
  obtain ⟨u, es, hu6⟩ := (hb.BS.ext (hE2.trans y2)).cut (lo := none) (hi := some (.int .i64 (((frB f).length - 1 : Nat) : Int))) (l := 0) (r := (frB f).length - 1) rfl (bound_nat _ _ _) (by omega) (by rw [List.length_map]; omega)
  rw [List.drop_zero, ← List.map_take] at hu6
  obtain ⟨fr2, F2, e3, y3, m3⟩ := split_f F u _ (by rw [List.length_take]; omega) hu6
  obtain ⟨a1, a2, a3⟩ := splitP_all ((frB f).take ((frB f).length - 1))
  rw [List.length_take] at a1 a3
  have l6b := (hb.ext ((hE2.trans y2).trans y3)).len
  have wN : IntKind.i64.wrap (((frB f).length : Int) - 1) = (((frB f).length - 1 : Nat) : Int) := by rw [wrap64 _ (by omega) (by omega)]; omega
  have key2 : ∀ ρ1, R5 w fr2 (splitP ((frB f).take ((frB f).length - 1))).2 0 ρ1 → Ok (done [.tmp 4] (andThen (blk 2 (E Tryd.prog hints (.loop l5_1) ρ1 F2)) (E Tryd.prog hints z5))) := by
    intro ρ1 hs1
    obtain ⟨ρ2, e, ⟨z5', z6, z13, z14, z15⟩⟩ := loop5b F2 w fr2 (frB f).length _ (by omega) l6b _ m3.FS (by omega) (fun g hg => by have := sizes_mem hg; omega) ρ1 hs1
    have hle : (((splitP ((frB f).take ((frB f).length - 1))).2 : Nat) : Int) ≤ (((frB f).length - 1 : Nat) : Int) := by omega
    rw [e]
    simp (maxDischargeDepth := 8) only [z5, c5_26, z5', z6, z14, l6b, wN, hle, RUN, Ed, knd, kndR, resV, binInt, mnmxV, mnmx2, fillL, unV, extractV, partV, loadAt, Nat.reduceAdd, Nat.reduceBEq, Nat.reduceEqDiff, Nat.reduceLT, Nat.reduceLeDiff, Nat.reduceMul, Nat.reduceSub, reduceIte, Int.reduceEq, Int.reduceNe, Int.reduceLT, Int.reduceLE, Int.reduceAdd, Int.reduceSub, Int.reduceMul, Int.reduceNeg, Int.reduceMod, Int.reduceDiv, Int.reduceTMod, Int.reduceTDiv, Int.reduceToNat, okChain_i, okLoads_nil, okLoads_in, okLoads_eq]
    exact Ok.mk _
  have key1 : ∀ ρ1, S5 w fr 0 ρ1 → Ok (done [.tmp 4] (andThen (blk 0 (E Tryd.prog hints (.loop l5_0) ρ1 F)) (E Tryd.prog hints y5))) := by
    intro ρ1 hs1
    obtain ⟨ρ2, e, ⟨z5', z6, z10, z12⟩⟩ := loop5 F w fr (frB f).length (by omega) l6 _ m2.FS (by omega) hsm ρ1 hs1
    rw [e]
    simp (maxDischargeDepth := 8) only [y5, c5_20, c5_21, z5', z6, l6, wN, es, e3, RUN, Ed, knd, kndR, resV, binInt, mnmxV, mnmx2, fillL, unV, extractV, partV, loadAt, Nat.reduceAdd, Nat.reduceBEq, Nat.reduceEqDiff, Nat.reduceLT, Nat.reduceLeDiff, Nat.reduceMul, Nat.reduceSub, reduceIte, Int.reduceEq, Int.reduceNe, Int.reduceLT, Int.reduceLE, Int.reduceAdd, Int.reduceSub, Int.reduceMul, Int.reduceNeg, Int.reduceMod, Int.reduceDiv, Int.reduceTMod, Int.reduceTDiv, Int.reduceToNat, okChain_i, okLoads_nil, okLoads_in, okLoads_eq]
    refine key2 _ ⟨?_, ?_, ?_, ?_, ?_⟩
    all_goals first | (simp (maxDischargeDepth := 8) only [z5', z6, RUN, Ed, knd, kndR, resV, binInt, mnmxV, mnmx2, fillL, unV, lenV, extractV, partV, loadAt, Nat.reduceAdd, Nat.reduceBEq, Nat.reduceEqDiff, Nat.reduceLT, Nat.reduceLeDiff, Nat.reduceMul, Nat.reduceSub, reduceIte, Int.reduceEq, Int.reduceNe, Int.reduceLT, Int.reduceLE, Int.reduceAdd, Int.reduceSub, Int.reduceMul, Int.reduceNeg, Int.reduceMod, Int.reduceDiv, Int.reduceTMod, Int.reduceTDiv, Int.reduceToNat, okChain_i, okLoads_nil, okLoads_in, okLoads_eq]; done) | (simp (maxDischargeDepth := 8) only [z5', z6, RUN, Ed, knd, kndR, resV, binInt, mnmxV, mnmx2, fillL, unV, lenV, extractV, partV, loadAt, Nat.reduceAdd, Nat.reduceBEq, Nat.reduceEqDiff, Nat.reduceLT, Nat.reduceLeDiff, Nat.reduceMul, Nat.reduceSub, reduceIte, Int.reduceEq, Int.reduceNe, Int.reduceLT, Int.reduceLE, Int.reduceAdd, Int.reduceSub, Int.reduceMul, Int.reduceNeg, Int.reduceMod, Int.reduceDiv, Int.reduceTMod, Int.reduceTDiv, Int.reduceToNat, okChain_i, okLoads_nil, okLoads_in, okLoads_eq]; rfl)
  simp (maxDischargeDepth := 8) only [x5, c5_12, c5_13, c5_14, c5_15, q5, q6, q8, e1, hx, hlv, ic, hg, hkl, hnn, hq, hq', hr, hr', hu, hng, htn, hbit, hxo, hset, ← hG2, e2, RUN, Ed, knd, kndR, resV, binInt, mnmxV, mnmx2, fillL, unV, lenV, extractV, partV, loadAt, Nat.reduceAdd, Nat.reduceBEq, Nat.reduceEqDiff, Nat.reduceLT, Nat.reduceLeDiff, Nat.reduceMul, Nat.reduceSub, reduceIte, Int.reduceEq, Int.reduceNe, Int.reduceLT, Int.reduceLE, Int.reduceAdd, Int.reduceSub, Int.reduceMul, Int.reduceNeg, Int.reduceMod, Int.reduceDiv, Int.reduceTMod, Int.reduceTDiv, Int.reduceToNat, okChain_i, okLoads_nil, okLoads_in, okLoads_eq]
  refine key1 _ ⟨?_, ?_, ?_, ?_⟩
  all_goals first | (simp (maxDischargeDepth := 8) only [q5, q6, RUN, Ed, knd, kndR, resV, binInt, mnmxV, mnmx2, fillL, unV, lenV, extractV, partV, loadAt, Nat.reduceAdd, Nat.reduceBEq, Nat.reduceEqDiff, Nat.reduceLT, Nat.reduceLeDiff, Nat.reduceMul, Nat.reduceSub, reduceIte, Int.reduceEq, Int.reduceNe, Int.reduceLT, Int.reduceLE, Int.reduceAdd, Int.reduceSub, Int.reduceMul, Int.reduceNeg, Int.reduceMod, Int.reduceDiv, Int.reduceTMod, Int.reduceTDiv, Int.reduceToNat, okChain_i, okLoads_nil, okLoads_in, okLoads_eq]; done) | (simp (maxDischargeDepth := 8) only [q5, q6, RUN, Ed, knd, kndR, resV, binInt, mnmxV, mnmx2, fillL, unV, lenV, extractV, partV, loadAt, Nat.reduceAdd, Nat.reduceBEq, Nat.reduceEqDiff, Nat.reduceLT, Nat.reduceLeDiff, Nat.reduceMul, Nat.reduceSub, reduceIte, Int.reduceEq, Int.reduceNe, Int.reduceLT, Int.reduceLE, Int.reduceAdd, Int.reduceSub, Int.reduceMul, Int.reduceNeg, Int.reduceMod, Int.reduceDiv, Int.reduceTMod, Int.reduceTDiv, Int.reduceToNat, okChain_i, okLoads_nil, okLoads_in, okLoads_eq]; rfl)
theorem b5t : b5 = (.seq (.region c5_0) (.seq (.region c5_1) (.seq (.seq (.region c5_2) (.cond (.tmp 18) (.seq (.region c5_3) .ret) .skip)) (.seq (.seq (.region c5_4) (.cond (.tmp 22) (.seq (.region c5_5) .ret) .skip)) (.seq (.region c5_6) (.seq (.seq (.region c5_7) (.cond (.tmp 35) (.seq (.region c5_8) .ret) .skip)) (.seq (.region c5_9) (.seq (.seq (.region c5_10) (.cond (.tmp 45) (.region c5_11) .skip)) x5)))))))) := (rfl)
theorem turned (f : Fra) (v : Value) (n : Int) (h1 : -9223372036854775808 ≤ n) (h2 : n ≤ 9223372036854775807) (H : Heap) (hv : BS H v (f.2.2.map w8)) : Ok (D Tryd.prog hints 5 [.agg ⟨frL f v⟩, .int .i64 n] H) := by
  obtain ⟨H1, hH1⟩ : ∃ H1, H1 = H ++ [some ⟨true, 24, frL f v⟩] := ⟨_, rfl⟩
  have x1 : Ext H H1 := ⟨_, hH1⟩
  have k1 : live H1 H.length = some ⟨true, 24, frL f v⟩ := by rw [hH1]; exact (live_app_len _ _).trans rfl
  obtain ⟨F0, e0, x0⟩ := first_f H1
  have k2 := x0.live k1
  have i2 := live_ltG k2
  have hv0 := (hv.ext x1).ext x0
  have l1 := hv0.len
  rw [List.length_map] at l1
  obtain ⟨o1, o2⟩ := hv0.one
  simp only [frL] at k1 k2 hH1
  rw [D_eq p5 _ _ (Nat.le_of_ble_eq_true rfl)]
  by_cases hb : (32 : Int) < (f.2.2.length : Int)
  · simp (maxDischargeDepth := 8) only [r5, b5, c5_0, c5_1, c5_2, c5_3, c5_4, c5_5, c5_6, c5_7, c5_8, c5_9, c5_10, c5_11, c5_12, c5_13, c5_14, c5_15, c5_16, c5_17, c5_18, c5_19, c5_20, c5_21, c5_22, c5_23, c5_24, c5_25, c5_26, frL, o1, o2, ← hH1, e0, k2, i2, l1, hb, RUN, Ed, knd, kndR, resV, binInt, mnmxV, mnmx2, fillL, unV, extractV, partV, loadAt, Nat.reduceAdd, Nat.reduceBEq, Nat.reduceEqDiff, Nat.reduceLT, Nat.reduceLeDiff, Nat.reduceMul, Nat.reduceSub, reduceIte, Int.reduceEq, Int.reduceNe, Int.reduceLT, Int.reduceLE, Int.reduceAdd, Int.reduceSub, Int.reduceMul, Int.reduceNeg, Int.reduceMod, Int.reduceDiv, Int.reduceTMod, Int.reduceTDiv, Int.reduceToNat, okChain_i, okLoads_nil, okLoads_in, okLoads_eq]
    exact Ok.mk _
  have hl : f.2.2.length ≤ 32 := by omega
  obtain ⟨w, F1, e1, y1, m1⟩ := frame_f f v hl F0 hv0
  have hbo : BO F0 F1 w (frB f) := m1
  have lw := hbo.len
  have hlen := frB_len f
  have n6 : ¬ (((frB f).length : Int) < 6) := by omega
  have w1 : IntKind.i64.wrap (((frB f).length : Int) - 1) = (((frB f).length - 1 : Nat) : Int) := by rw [wrap64 _ (by omega) (by omega)]; omega
  have w2 : IntKind.i64.wrap (8 * (((frB f).length - 1 : Nat) : Int)) = ((8 * ((frB f).length - 1) : Nat) : Int) := by rw [wrap64 _ (by omega) (by omega)]; omega
  have en := number_f n ((8 * ((frB f).length - 1) : Nat) : Int) F1 h1 h2 (by omega) (by omega)
  have hn0 := Int.emod_nonneg n (show (((8 * ((frB f).length - 1) : Nat) : Int)) ≠ 0 by omega)
  have hn1 := Int.emod_lt_of_pos n (show (0 : Int) < ((8 * ((frB f).length - 1) : Nat) : Int) by omega)
  obtain ⟨k, hk⟩ : ∃ k : Nat, n % ((8 * ((frB f).length - 1) : Nat) : Int) = k := ⟨(n % ((8 * ((frB f).length - 1) : Nat) : Int)).toNat, by omega⟩
  rw [hk] at en hn1
  have w3 : IntKind.i64.wrap ((k : Int) + 8) = ((k + 8 : Nat) : Int) := by rw [wrap64 _ (by omega) (by omega)]; omega
  have hnn : (0 : Int) ≤ ((k + 8 : Nat) : Int) := by omega
  have hq : IntKind.i64.wrap (((k + 8 : Nat) : Int) / 8) = (((k + 8) / 8 : Nat) : Int) := by rw [wrap64 _ (by omega) (by omega)]; omega
  have hq' : IntKind.i64.wrap (((k + 8 : Nat) : Int).tdiv 8) = (((k + 8) / 8 : Nat) : Int) := by rw [tdivL _ _ hnn]; exact hq
  by_cases hd3 : (k + 8) / 8 = 3
  · have hd : decide ((((k + 8) / 8 : Nat) : Int) = 3) = true := by rw [decide_eq_true_iff]; omega
    simp (maxDischargeDepth := 8) only [r5, b5t, c5_0, c5_1, c5_2, c5_3, c5_4, c5_5, c5_6, c5_7, c5_8, c5_9, c5_10, c5_11, frL, o1, o2, ← hH1, e0, k2, i2, l1, hb, e1, lw, n6, w1, w2, w3, en, hnn, hq, hq', hd, RUN, Ed, knd, kndR, resV, binInt, mnmxV, mnmx2, fillL, unV, extractV, partV, loadAt, Nat.reduceAdd, Nat.reduceBEq, Nat.reduceEqDiff, Nat.reduceLT, Nat.reduceLeDiff, Nat.reduceMul, Nat.reduceSub, reduceIte, Int.reduceEq, Int.reduceNe, Int.reduceLT, Int.reduceLE, Int.reduceAdd, Int.reduceSub, Int.reduceMul, Int.reduceNeg, Int.reduceMod, Int.reduceDiv, Int.reduceTMod, Int.reduceTDiv, Int.reduceToNat, okChain_i, okLoads_nil, okLoads_in, okLoads_eq]
    refine rest5 f hl 8 (by omega) (by omega) (by decide) F0 w _ F1 hbo ?_ ?_ ?_
    all_goals first | (simp (maxDischargeDepth := 8) only [RUN, Ed, knd, kndR, resV, binInt, mnmxV, mnmx2, fillL, unV, lenV, extractV, partV, loadAt, Nat.reduceAdd, Nat.reduceBEq, Nat.reduceEqDiff, Nat.reduceLT, Nat.reduceLeDiff, Nat.reduceMul, Nat.reduceSub, reduceIte, Int.reduceEq, Int.reduceNe, Int.reduceLT, Int.reduceLE, Int.reduceAdd, Int.reduceSub, Int.reduceMul, Int.reduceNeg, Int.reduceMod, Int.reduceDiv, Int.reduceTMod, Int.reduceTDiv, Int.reduceToNat, okChain_i, okLoads_nil, okLoads_in, okLoads_eq]; done) | (simp (maxDischargeDepth := 8) only [RUN, Ed, knd, kndR, resV, binInt, mnmxV, mnmx2, fillL, unV, lenV, extractV, partV, loadAt, Nat.reduceAdd, Nat.reduceBEq, Nat.reduceEqDiff, Nat.reduceLT, Nat.reduceLeDiff, Nat.reduceMul, Nat.reduceSub, reduceIte, Int.reduceEq, Int.reduceNe, Int.reduceLT, Int.reduceLE, Int.reduceAdd, Int.reduceSub, Int.reduceMul, Int.reduceNeg, Int.reduceMod, Int.reduceDiv, Int.reduceTMod, Int.reduceTDiv, Int.reduceToNat, okChain_i, okLoads_nil, okLoads_in, okLoads_eq]; rfl)
  · have hd : decide ((((k + 8) / 8 : Nat) : Int) = 3) = false := by rw [decide_eq_false_iff_not]; omega
    simp (maxDischargeDepth := 8) only [r5, b5t, c5_0, c5_1, c5_2, c5_3, c5_4, c5_5, c5_6, c5_7, c5_8, c5_9, c5_10, c5_11, frL, o1, o2, ← hH1, e0, k2, i2, l1, hb, e1, lw, n6, w1, w2, w3, en, hnn, hq, hq', hd, RUN, Ed, knd, kndR, resV, binInt, mnmxV, mnmx2, fillL, unV, extractV, partV, loadAt, Nat.reduceAdd, Nat.reduceBEq, Nat.reduceEqDiff, Nat.reduceLT, Nat.reduceLeDiff, Nat.reduceMul, Nat.reduceSub, reduceIte, Int.reduceEq, Int.reduceNe, Int.reduceLT, Int.reduceLE, Int.reduceAdd, Int.reduceSub, Int.reduceMul, Int.reduceNeg, Int.reduceMod, Int.reduceDiv, Int.reduceTMod, Int.reduceTDiv, Int.reduceToNat, okChain_i, okLoads_nil, okLoads_in, okLoads_eq]
    refine rest5 f hl (k + 8) (by omega) (by omega) hd3 F0 w _ F1 hbo ?_ ?_ ?_
    all_goals first | (simp (maxDischargeDepth := 8) only [RUN, Ed, knd, kndR, resV, binInt, mnmxV, mnmx2, fillL, unV, lenV, extractV, partV, loadAt, Nat.reduceAdd, Nat.reduceBEq, Nat.reduceEqDiff, Nat.reduceLT, Nat.reduceLeDiff, Nat.reduceMul, Nat.reduceSub, reduceIte, Int.reduceEq, Int.reduceNe, Int.reduceLT, Int.reduceLE, Int.reduceAdd, Int.reduceSub, Int.reduceMul, Int.reduceNeg, Int.reduceMod, Int.reduceDiv, Int.reduceTMod, Int.reduceTDiv, Int.reduceToNat, okChain_i, okLoads_nil, okLoads_in, okLoads_eq]; done) | (simp (maxDischargeDepth := 8) only [RUN, Ed, knd, kndR, resV, binInt, mnmxV, mnmx2, fillL, unV, lenV, extractV, partV, loadAt, Nat.reduceAdd, Nat.reduceBEq, Nat.reduceEqDiff, Nat.reduceLT, Nat.reduceLeDiff, Nat.reduceMul, Nat.reduceSub, reduceIte, Int.reduceEq, Int.reduceNe, Int.reduceLT, Int.reduceLE, Int.reduceAdd, Int.reduceSub, Int.reduceMul, Int.reduceNeg, Int.reduceMod, Int.reduceDiv, Int.reduceTMod, Int.reduceTDiv, Int.reduceToNat, okChain_i, okLoads_nil, okLoads_in, okLoads_eq]; rfl)
def sh5 : List Sh := [.agg ((.cons (.int .u8) (.cons (.int .u8) (.cons (.slice (.int .u8)) .nil)))), .int .i64]
theorem turned_law (H : Heap) (h : EH on1 H) (ls : List (List Value)) (o : OpnAll H sh5 ls) : Ok (D Tryd.prog hints 5 (argsS sh5 ls) H) := by
  obtain ⟨l0, _, rfl, h0, o⟩ := o.uncons
  obtain ⟨l1, _, rfl, h1, o⟩ := o.uncons
  cases o.unnil
  obtain ⟨f, v, rfl, hv⟩ := Opn_frame h0
  simp only [Opn.eq_1] at h1
  obtain ⟨n, rfl, hn⟩ := h1
  simp [Lit.wf, IntKind.min, IntKind.max, IntKind.bits, IntKind.signed] at hn
  exact turned f v n (by omega) (by omega) H hv.BS
end Go.Proofs.YtoknmodbdlfdmaaDoor.Sim
