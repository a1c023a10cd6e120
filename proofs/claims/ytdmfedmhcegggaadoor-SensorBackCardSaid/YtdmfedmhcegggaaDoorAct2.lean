/- Chapter 9 over the plain heap: frames of what is put out; ActBounds. -/
import Derived.Test.YtdmfedmhcegggaaDoorAct1
import Derived.Test.YtdmfedmhcegggaaDoorSim21
namespace Go.Proofs.YtdmfedmhcegggaaDoor.Sim
open Go
set_option linter.unusedSimpArgs false
set_option linter.unusedVariables false
theorem wrapu8 (n : Int) : IntKind.u8.wrap n = n % 256 := by
  simp only [IntKind.wrap, IntKind.bits, IntKind.signed]
  simp
theorem shr8 (a : Int) : a.fdiv (2 ^ (min 8 IntKind.i64.bits)) = a / 256 := by
  show a.fdiv 256 = a / 256
  exact Int.fdiv_eq_ediv_of_nonneg _ (by decide)
/-- The bytes of what is put out. -/
def pb (c f g m n : Int) : List Int := [c % 256, f / 256 % 256, f % 256, g % 256, m % 256, n / 256 % 256, n % 256]
def bL (l : List Int) : List Value := l.map (Value.int .u8)
def zeroF : List Value := [.int .u8 0, .int .u8 0, .slice none 0 0]
theorem putBad_f (on : Nat → Bool) (c f g m n s : Int) (H : Heap) (h : EH on H) (ho : on 0 = true) (hg : ¬ GoodP c f g m n) :
    K 14 [.agg ⟨outL c f g m n⟩, .int .u8 s] H = some (.tuple ⟨[.agg ⟨zeroF⟩, Err 0]⟩, H ++ [some ⟨true, 24, outL c f g m n⟩, some ⟨true, 27, zeroF⟩, some ⟨true, 24, outL c f g m n⟩]) := by
  have e := fun X => check_f on c f g m n (H ++ X) (h.more X) ho
  rw [if_neg hg] at e
  simp only [K, outL] at e
  rw [K, D_eq p14 _ _ (Nat.le_of_ble_eq_true rfl)]
  simp (maxDischargeDepth := 8) only [r14, b14, c14_0, c14_1, c14_2, c14_3, outL, zeroF, e, same_En, RUN, Ed, knd, kndR, resV, binInt, mnmxV, mnmx2, fillL, unV, lenV, extractV, partV, loadAt, Nat.reduceAdd, Nat.reduceBEq, Nat.reduceEqDiff, Nat.reduceLT, Nat.reduceLeDiff, Nat.reduceMul, Nat.reduceSub, reduceIte, Int.reduceEq, Int.reduceNe, Int.reduceLT, Int.reduceLE, Int.reduceAdd, Int.reduceSub, Int.reduceMul, Int.reduceNeg, Int.reduceMod, Int.reduceDiv, Int.reduceTMod, Int.reduceTDiv, Int.reduceToNat, okChain_i, okLoads_nil, okLoads_in, okLoads_eq]
theorem putGood_f (on : Nat → Bool) (c f g m n s : Int) (H : Heap) (h : EH on H) (ho : on 0 = true) (hg : GoodP c f g m n) :
    K 14 [.agg ⟨outL c f g m n⟩, .int .u8 s] H = some (.tuple ⟨[.agg ⟨[.int .u8 96, .int .u8 s, .slice (some ⟨H.length + 3, 0, none⟩) 7 1]⟩, .nilIface]⟩,
      H ++ [some ⟨true, 24, outL c f g m n⟩, some ⟨true, 27, [.int .u8 96, .int .u8 s, .slice (some ⟨H.length + 3, 0, none⟩) 7 1]⟩, some ⟨true, 24, outL c f g m n⟩, some ⟨true, 5, bL (pb c f g m n)⟩]) := by
  have e := fun X => check_f on c f g m n (H ++ X) (h.more X) ho
  rw [if_pos hg] at e
  simp only [K, outL] at e
  rw [K, D_eq p14 _ _ (Nat.le_of_ble_eq_true rfl)]
  simp (maxDischargeDepth := 8) only [r14, b14, c14_0, c14_1, c14_2, c14_3, c14_4, c14_5, outL, e, wrapu8, shr8, bL, pb, RUN, Ed, knd, kndR, resV, binInt, mnmxV, mnmx2, fillL, unV, lenV, extractV, partV, loadAt, Nat.reduceAdd, Nat.reduceBEq, Nat.reduceEqDiff, Nat.reduceLT, Nat.reduceLeDiff, Nat.reduceMul, Nat.reduceSub, reduceIte, Int.reduceEq, Int.reduceNe, Int.reduceLT, Int.reduceLE, Int.reduceAdd, Int.reduceSub, Int.reduceMul, Int.reduceNeg, Int.reduceMod, Int.reduceDiv, Int.reduceTMod, Int.reduceTDiv, Int.reduceToNat, okChain_i, okLoads_nil, okLoads_in, okLoads_eq]
theorem firstA_f (on : Nat → Bool) (H : Heap) (h : EH on H) (ho : on 0 = true) : ∃ X, K 13 [] H = some (.bool true, H ++ X) := by
  have e := fun c f g m n X => check_f on c f g m n (H ++ X) (h.more X) ho
  have e0 := fun c f g m n => check_f on c f g m n H h ho
  simp only [K, outL] at e e0
  have hg0 : ¬ GoodP 0 0 0 0 0 := by decide
  have hg1 : GoodP 0 0 0 1 0 := by decide
  refine ⟨?X, ?run⟩
  case run =>
    rw [K, D_eq p13 _ _ (Nat.le_of_ble_eq_true rfl)]
    simp (maxDischargeDepth := 8) only [r13, b13, c13_0, c13_1, e, e0, hg0, hg1, same_En, RUN, Ed, knd, kndR, resV, binInt, mnmxV, mnmx2, fillL, unV, lenV, extractV, partV, loadAt, Nat.reduceAdd, Nat.reduceBEq, Nat.reduceEqDiff, Nat.reduceLT, Nat.reduceLeDiff, Nat.reduceMul, Nat.reduceSub, reduceIte, Int.reduceEq, Int.reduceNe, Int.reduceLT, Int.reduceLE, Int.reduceAdd, Int.reduceSub, Int.reduceMul, Int.reduceNeg, Int.reduceMod, Int.reduceDiv, Int.reduceTMod, Int.reduceTDiv, Int.reduceToNat, okChain_i, okLoads_nil, okLoads_in, okLoads_eq]
    rfl
theorem mod5 (w : Int) : ∃ q : Int, IntKind.i64.wrap (w.tmod 5 + 5) = w.tmod 5 + 5 ∧ (w.tmod 5 + 5).tmod 5 = q ∧ (q = 0 ∨ q = 1 ∨ q = 2 ∨ q = 3 ∨ q = 4) := by
  have h1 : -5 < w.tmod 5 := by
    have := Int.lt_tmod_of_pos w (show (0 : Int) < 5 by decide); omega
  have h2 : w.tmod 5 < 5 := Int.tmod_lt_of_pos w (by decide)
  refine ⟨(w.tmod 5 + 5) % 5, wrap64 _ (by omega) (by omega), Int.tmod_eq_emod_of_nonneg (by omega), by omega⟩
theorem EH_more {on : Nat → Bool} {H X : Heap} (h : EH on H) : EH on (H ++ X) := h.more X
theorem bounds (w : Int) (over : Bool) (H : Heap) (h : EH all7 H) : Ok (K 4 [.int .i64 w, .bool over] H) := by
  obtain ⟨X0, e0⟩ := firstA_f all7 H h rfl
  obtain ⟨XI, eI⟩ := is_all
  have eI0 : ∀ G, EH all7 G → D Tryd.prog hints 17 [Err 0, .int .i64 101] G = some (.bool true, G ++ XI (some 0) 101 G) := fun G hG => eI (some 0) (fun i hi => by cases hi; omega) 101 G hG
  have ec : ∀ c f g m n G, EH all7 G → ¬ GoodP c f g m n → K 18 [.agg ⟨outL c f g m n⟩] G = some (Err 0, G ++ [some ⟨true, 24, outL c f g m n⟩]) := fun c f g m n G hG hg => by
    have := check_f all7 c f g m n G hG rfl
    rw [if_neg hg] at this
    exact this
  have ep : ∀ c f g m n s G, EH all7 G → ¬ GoodP c f g m n → K 14 [.agg ⟨outL c f g m n⟩, .int .u8 s] G = some (.tuple ⟨[.agg ⟨zeroF⟩, Err 0]⟩, G ++ [some ⟨true, 24, outL c f g m n⟩, some ⟨true, 27, zeroF⟩, some ⟨true, 24, outL c f g m n⟩]) := fun c f g m n s G hG hg => putBad_f all7 c f g m n s G hG rfl hg
  simp only [K, outL, zeroF] at e0 ec ep
  obtain ⟨q, m1, m2, hq⟩ := mod5 w
  rw [K, D_eq p4 _ _ (Nat.le_of_ble_eq_true rfl)]
  rcases hq with rfl | rfl | rfl | rfl | rfl <;> cases over
  · have hb : ¬ GoodP (-1) (9) (1) (2) (3) := by decide
    simp (maxDischargeDepth := 8) only [r4, b4, c4_0, c4_1, c4_2, c4_3, c4_4, c4_5, c4_6, c4_7, c4_8, c4_9, c4_10, c4_11, c4_12, c4_13, c4_14, c4_15, c4_16, c4_17, c4_18, c4_19, c4_20, c4_21, c4_22, c4_23, c4_24, c4_25, c4_26, c4_27, c4_28, h, EH_more, e0, eI0, ec, ep, hb, m1, m2, RUN, Ed, knd, kndR, resV, binInt, mnmxV, mnmx2, fillL, unV, lenV, extractV, partV, loadAt, Nat.reduceAdd, Nat.reduceBEq, Nat.reduceEqDiff, Nat.reduceLT, Nat.reduceLeDiff, Nat.reduceMul, Nat.reduceSub, reduceIte, Int.reduceEq, Int.reduceNe, Int.reduceLT, Int.reduceLE, Int.reduceAdd, Int.reduceSub, Int.reduceMul, Int.reduceNeg, Int.reduceMod, Int.reduceDiv, Int.reduceTMod, Int.reduceTDiv, Int.reduceToNat, okChain_i, okLoads_nil, okLoads_in, okLoads_eq]
    exact Ok.mk _
  · have hb : ¬ GoodP (128) (9) (1) (2) (3) := by decide
    simp (maxDischargeDepth := 8) only [r4, b4, c4_0, c4_1, c4_2, c4_3, c4_4, c4_5, c4_6, c4_7, c4_8, c4_9, c4_10, c4_11, c4_12, c4_13, c4_14, c4_15, c4_16, c4_17, c4_18, c4_19, c4_20, c4_21, c4_22, c4_23, c4_24, c4_25, c4_26, c4_27, c4_28, h, EH_more, e0, eI0, ec, ep, hb, m1, m2, RUN, Ed, knd, kndR, resV, binInt, mnmxV, mnmx2, fillL, unV, lenV, extractV, partV, loadAt, Nat.reduceAdd, Nat.reduceBEq, Nat.reduceEqDiff, Nat.reduceLT, Nat.reduceLeDiff, Nat.reduceMul, Nat.reduceSub, reduceIte, Int.reduceEq, Int.reduceNe, Int.reduceLT, Int.reduceLE, Int.reduceAdd, Int.reduceSub, Int.reduceMul, Int.reduceNeg, Int.reduceMod, Int.reduceDiv, Int.reduceTMod, Int.reduceTDiv, Int.reduceToNat, okChain_i, okLoads_nil, okLoads_in, okLoads_eq]
    exact Ok.mk _
  · have hb : ¬ GoodP (5) (-1) (1) (2) (3) := by decide
    simp (maxDischargeDepth := 8) only [r4, b4, c4_0, c4_1, c4_2, c4_3, c4_4, c4_5, c4_6, c4_7, c4_8, c4_9, c4_10, c4_11, c4_12, c4_13, c4_14, c4_15, c4_16, c4_17, c4_18, c4_19, c4_20, c4_21, c4_22, c4_23, c4_24, c4_25, c4_26, c4_27, c4_28, h, EH_more, e0, eI0, ec, ep, hb, m1, m2, RUN, Ed, knd, kndR, resV, binInt, mnmxV, mnmx2, fillL, unV, lenV, extractV, partV, loadAt, Nat.reduceAdd, Nat.reduceBEq, Nat.reduceEqDiff, Nat.reduceLT, Nat.reduceLeDiff, Nat.reduceMul, Nat.reduceSub, reduceIte, Int.reduceEq, Int.reduceNe, Int.reduceLT, Int.reduceLE, Int.reduceAdd, Int.reduceSub, Int.reduceMul, Int.reduceNeg, Int.reduceMod, Int.reduceDiv, Int.reduceTMod, Int.reduceTDiv, Int.reduceToNat, okChain_i, okLoads_nil, okLoads_in, okLoads_eq]
    exact Ok.mk _
  · have hb : ¬ GoodP (5) (65536) (1) (2) (3) := by decide
    simp (maxDischargeDepth := 8) only [r4, b4, c4_0, c4_1, c4_2, c4_3, c4_4, c4_5, c4_6, c4_7, c4_8, c4_9, c4_10, c4_11, c4_12, c4_13, c4_14, c4_15, c4_16, c4_17, c4_18, c4_19, c4_20, c4_21, c4_22, c4_23, c4_24, c4_25, c4_26, c4_27, c4_28, h, EH_more, e0, eI0, ec, ep, hb, m1, m2, RUN, Ed, knd, kndR, resV, binInt, mnmxV, mnmx2, fillL, unV, lenV, extractV, partV, loadAt, Nat.reduceAdd, Nat.reduceBEq, Nat.reduceEqDiff, Nat.reduceLT, Nat.reduceLeDiff, Nat.reduceMul, Nat.reduceSub, reduceIte, Int.reduceEq, Int.reduceNe, Int.reduceLT, Int.reduceLE, Int.reduceAdd, Int.reduceSub, Int.reduceMul, Int.reduceNeg, Int.reduceMod, Int.reduceDiv, Int.reduceTMod, Int.reduceTDiv, Int.reduceToNat, okChain_i, okLoads_nil, okLoads_in, okLoads_eq]
    exact Ok.mk _
  · have hb : ¬ GoodP (5) (9) (-1) (2) (3) := by decide
    simp (maxDischargeDepth := 8) only [r4, b4, c4_0, c4_1, c4_2, c4_3, c4_4, c4_5, c4_6, c4_7, c4_8, c4_9, c4_10, c4_11, c4_12, c4_13, c4_14, c4_15, c4_16, c4_17, c4_18, c4_19, c4_20, c4_21, c4_22, c4_23, c4_24, c4_25, c4_26, c4_27, c4_28, h, EH_more, e0, eI0, ec, ep, hb, m1, m2, RUN, Ed, knd, kndR, resV, binInt, mnmxV, mnmx2, fillL, unV, lenV, extractV, partV, loadAt, Nat.reduceAdd, Nat.reduceBEq, Nat.reduceEqDiff, Nat.reduceLT, Nat.reduceLeDiff, Nat.reduceMul, Nat.reduceSub, reduceIte, Int.reduceEq, Int.reduceNe, Int.reduceLT, Int.reduceLE, Int.reduceAdd, Int.reduceSub, Int.reduceMul, Int.reduceNeg, Int.reduceMod, Int.reduceDiv, Int.reduceTMod, Int.reduceTDiv, Int.reduceToNat, okChain_i, okLoads_nil, okLoads_in, okLoads_eq]
    exact Ok.mk _
  · have hb : ¬ GoodP (5) (9) (4) (2) (3) := by decide
    simp (maxDischargeDepth := 8) only [r4, b4, c4_0, c4_1, c4_2, c4_3, c4_4, c4_5, c4_6, c4_7, c4_8, c4_9, c4_10, c4_11, c4_12, c4_13, c4_14, c4_15, c4_16, c4_17, c4_18, c4_19, c4_20, c4_21, c4_22, c4_23, c4_24, c4_25, c4_26, c4_27, c4_28, h, EH_more, e0, eI0, ec, ep, hb, m1, m2, RUN, Ed, knd, kndR, resV, binInt, mnmxV, mnmx2, fillL, unV, lenV, extractV, partV, loadAt, Nat.reduceAdd, Nat.reduceBEq, Nat.reduceEqDiff, Nat.reduceLT, Nat.reduceLeDiff, Nat.reduceMul, Nat.reduceSub, reduceIte, Int.reduceEq, Int.reduceNe, Int.reduceLT, Int.reduceLE, Int.reduceAdd, Int.reduceSub, Int.reduceMul, Int.reduceNeg, Int.reduceMod, Int.reduceDiv, Int.reduceTMod, Int.reduceTDiv, Int.reduceToNat, okChain_i, okLoads_nil, okLoads_in, okLoads_eq]
    exact Ok.mk _
  · have hb : ¬ GoodP (5) (9) (1) (0) (3) := by decide
    simp (maxDischargeDepth := 8) only [r4, b4, c4_0, c4_1, c4_2, c4_3, c4_4, c4_5, c4_6, c4_7, c4_8, c4_9, c4_10, c4_11, c4_12, c4_13, c4_14, c4_15, c4_16, c4_17, c4_18, c4_19, c4_20, c4_21, c4_22, c4_23, c4_24, c4_25, c4_26, c4_27, c4_28, h, EH_more, e0, eI0, ec, ep, hb, m1, m2, RUN, Ed, knd, kndR, resV, binInt, mnmxV, mnmx2, fillL, unV, lenV, extractV, partV, loadAt, Nat.reduceAdd, Nat.reduceBEq, Nat.reduceEqDiff, Nat.reduceLT, Nat.reduceLeDiff, Nat.reduceMul, Nat.reduceSub, reduceIte, Int.reduceEq, Int.reduceNe, Int.reduceLT, Int.reduceLE, Int.reduceAdd, Int.reduceSub, Int.reduceMul, Int.reduceNeg, Int.reduceMod, Int.reduceDiv, Int.reduceTMod, Int.reduceTDiv, Int.reduceToNat, okChain_i, okLoads_nil, okLoads_in, okLoads_eq]
    exact Ok.mk _
  · have hb : ¬ GoodP (5) (9) (1) (6) (3) := by decide
    simp (maxDischargeDepth := 8) only [r4, b4, c4_0, c4_1, c4_2, c4_3, c4_4, c4_5, c4_6, c4_7, c4_8, c4_9, c4_10, c4_11, c4_12, c4_13, c4_14, c4_15, c4_16, c4_17, c4_18, c4_19, c4_20, c4_21, c4_22, c4_23, c4_24, c4_25, c4_26, c4_27, c4_28, h, EH_more, e0, eI0, ec, ep, hb, m1, m2, RUN, Ed, knd, kndR, resV, binInt, mnmxV, mnmx2, fillL, unV, lenV, extractV, partV, loadAt, Nat.reduceAdd, Nat.reduceBEq, Nat.reduceEqDiff, Nat.reduceLT, Nat.reduceLeDiff, Nat.reduceMul, Nat.reduceSub, reduceIte, Int.reduceEq, Int.reduceNe, Int.reduceLT, Int.reduceLE, Int.reduceAdd, Int.reduceSub, Int.reduceMul, Int.reduceNeg, Int.reduceMod, Int.reduceDiv, Int.reduceTMod, Int.reduceTDiv, Int.reduceToNat, okChain_i, okLoads_nil, okLoads_in, okLoads_eq]
    exact Ok.mk _
  · have hb : ¬ GoodP (5) (9) (1) (2) (-1) := by decide
    simp (maxDischargeDepth := 8) only [r4, b4, c4_0, c4_1, c4_2, c4_3, c4_4, c4_5, c4_6, c4_7, c4_8, c4_9, c4_10, c4_11, c4_12, c4_13, c4_14, c4_15, c4_16, c4_17, c4_18, c4_19, c4_20, c4_21, c4_22, c4_23, c4_24, c4_25, c4_26, c4_27, c4_28, h, EH_more, e0, eI0, ec, ep, hb, m1, m2, RUN, Ed, knd, kndR, resV, binInt, mnmxV, mnmx2, fillL, unV, lenV, extractV, partV, loadAt, Nat.reduceAdd, Nat.reduceBEq, Nat.reduceEqDiff, Nat.reduceLT, Nat.reduceLeDiff, Nat.reduceMul, Nat.reduceSub, reduceIte, Int.reduceEq, Int.reduceNe, Int.reduceLT, Int.reduceLE, Int.reduceAdd, Int.reduceSub, Int.reduceMul, Int.reduceNeg, Int.reduceMod, Int.reduceDiv, Int.reduceTMod, Int.reduceTDiv, Int.reduceToNat, okChain_i, okLoads_nil, okLoads_in, okLoads_eq]
    exact Ok.mk _
  · have hb : ¬ GoodP (5) (9) (1) (2) (512) := by decide
    simp (maxDischargeDepth := 8) only [r4, b4, c4_0, c4_1, c4_2, c4_3, c4_4, c4_5, c4_6, c4_7, c4_8, c4_9, c4_10, c4_11, c4_12, c4_13, c4_14, c4_15, c4_16, c4_17, c4_18, c4_19, c4_20, c4_21, c4_22, c4_23, c4_24, c4_25, c4_26, c4_27, c4_28, h, EH_more, e0, eI0, ec, ep, hb, m1, m2, RUN, Ed, knd, kndR, resV, binInt, mnmxV, mnmx2, fillL, unV, lenV, extractV, partV, loadAt, Nat.reduceAdd, Nat.reduceBEq, Nat.reduceEqDiff, Nat.reduceLT, Nat.reduceLeDiff, Nat.reduceMul, Nat.reduceSub, reduceIte, Int.reduceEq, Int.reduceNe, Int.reduceLT, Int.reduceLE, Int.reduceAdd, Int.reduceSub, Int.reduceMul, Int.reduceNeg, Int.reduceMod, Int.reduceDiv, Int.reduceTMod, Int.reduceTDiv, Int.reduceToNat, okChain_i, okLoads_nil, okLoads_in, okLoads_eq]
    exact Ok.mk _
def sh4 : List Sh := [.int .i64, .bool]
theorem bounds_law (H : Heap) (h : EH all7 H) (ls : List (List Value)) (o : OpnAll H sh4 ls) : Ok (K 4 (argsS sh4 ls) H) := by
  obtain ⟨l0, _, rfl, h0, o⟩ := o.uncons
  obtain ⟨l1, _, rfl, h1, o⟩ := o.uncons
  cases o.unnil
  simp only [Opn] at h0 h1
  obtain ⟨w, rfl, _⟩ := h0
  obtain ⟨b, rfl⟩ := h1
  exact bounds w b H h
end Go.Proofs.YtdmfedmhcegggaaDoor.Sim
