/- Chapter 9 over the plain heap: what a frame puts out; ActSays. -/
import Derived.Test.YtdmfedmhcegggaaDoorAct2
import Derived.Test.YtdmfedmhcegggaaDoorSim21
namespace Go.Proofs.YtdmfedmhcegggaaDoor.Sim
open Go
set_option linter.unusedSimpArgs false
set_option linter.unusedVariables false
theorem skol {f : Nat} {args : List Value} {v : Value} {C : Heap → Prop} (h : ∀ G, C G → ∃ X, D Tryd.prog hints f args G = some (v, G ++ X)) : ∃ X : Heap → Heap, ∀ G, C G → D Tryd.prog hints f args G = some (v, G ++ X G) := by
  have key : ∀ G, ∃ X : Heap, C G → D Tryd.prog hints f args G = some (v, G ++ X) := by
    intro G
    by_cases hc : C G
    · obtain ⟨X, hx⟩ := h G hc; exact ⟨X, fun _ => hx⟩
    · exact ⟨[], fun h => absurd h hc⟩
  exact ⟨fun G => Classical.choose (key G), fun G hG => Classical.choose_spec (key G) hG⟩
theorem BS_more {H X : Heap} {v : Value} {A : List Int} (h : BS H v A) : BS (H ++ X) v A := h.more X
theorem shl8 (a : Int) (h0 : 0 ≤ a) (h1 : a < 256) : IntKind.i64.wrap (a * 2 ^ (min 8 IntKind.i64.bits)) = a * 256 := by
  show IntKind.i64.wrap (a * 256) = a * 256
  exact wrap64 _ (by omega) (by omega)
theorem or8 (a b : Int) (h0 : 0 ≤ a) (h1 : a < 256) (h2 : 0 ≤ b) (h3 : b < 256) : IntKind.i64.wrap (BitVec.ofInt IntKind.i64.bits (a * 256) ||| BitVec.ofInt IntKind.i64.bits b).toNat = a * 256 + b := by
  obtain ⟨x, rfl⟩ := Int.eq_ofNat_of_zero_le h0
  obtain ⟨y, rfl⟩ := Int.eq_ofNat_of_zero_le h2
  have hx : x < 256 := by omega
  have hy : y < 256 := by omega
  have e : ((BitVec.ofInt IntKind.i64.bits ((x : Int) * 256) ||| BitVec.ofInt IntKind.i64.bits (y : Int)).toNat) = x * 256 + y := by
    show ((BitVec.ofInt 64 ((x : Int) * 256) ||| BitVec.ofInt 64 (y : Int)).toNat) = x * 256 + y
    rw [BitVec.toNat_or, BitVec.toNat_ofInt, BitVec.toNat_ofInt]
    have e1 : (((x : Int) * 256) % ((2 ^ 64 : Nat) : Int)).toNat = 2 ^ 8 * x := by omega
    have e2 : ((y : Int) % ((2 ^ 64 : Nat) : Int)).toNat = y := by omega
    rw [e1, e2, ← Nat.two_pow_add_eq_or_of_lt (by omega)]
    omega
  rw [e]
  rw [wrap64 _ (by omega) (by omega)]
  omega
def zeroO : List Value := outL 0 0 0 0 0
theorem putOutBad_f (c f g m n s : Int) (H : Heap) (hg : ¬ GoodP c f g m n) : K 19 [.agg ⟨outL c f g m n⟩, .int .u8 s] H = some (.tuple ⟨[.agg ⟨zeroF⟩, .int .i64 101]⟩, H ++ [some ⟨true, 24, outL c f g m n⟩, some ⟨true, 27, zeroF⟩, some ⟨true, 24, outL c f g m n⟩]) := by
  have e := fun G => goodOut_f c f g m n G
  have hd : decide (GoodP c f g m n) = false := by simpa using hg
  rw [hd] at e
  simp only [K, outL] at e
  rw [K, D_eq p19 _ _ (Nat.le_of_ble_eq_true rfl)]
  simp (maxDischargeDepth := 8) only [r19, b19, c19_0, c19_1, c19_2, c19_3, outL, zeroF, e, RUN, Ed, knd, kndR, resV, binInt, mnmxV, mnmx2, fillL, unV, lenV, extractV, partV, loadAt, Nat.reduceAdd, Nat.reduceBEq, Nat.reduceEqDiff, Nat.reduceLT, Nat.reduceLeDiff, Nat.reduceMul, Nat.reduceSub, reduceIte, Int.reduceEq, Int.reduceNe, Int.reduceLT, Int.reduceLE, Int.reduceAdd, Int.reduceSub, Int.reduceMul, Int.reduceNeg, Int.reduceMod, Int.reduceDiv, Int.reduceTMod, Int.reduceTDiv, Int.reduceToNat, okChain_i, okLoads_nil, okLoads_in, okLoads_eq]
theorem putOutGood_f (c f g m n s : Int) (H : Heap) (hg : GoodP c f g m n) :
    K 19 [.agg ⟨outL c f g m n⟩, .int .u8 s] H = some (.tuple ⟨[.agg ⟨[.int .u8 96, .int .u8 s, .slice (some ⟨H.length + 3, 0, none⟩) 7 1]⟩, .int .i64 0]⟩,
      H ++ [some ⟨true, 24, outL c f g m n⟩, some ⟨true, 27, [.int .u8 96, .int .u8 s, .slice (some ⟨H.length + 3, 0, none⟩) 7 1]⟩, some ⟨true, 24, outL c f g m n⟩, some ⟨true, 5, bL (pb c f g m n)⟩]) := by
  have e := fun G => goodOut_f c f g m n G
  have hd : decide (GoodP c f g m n) = true := by simpa using hg
  rw [hd] at e
  simp only [K, outL] at e
  rw [K, D_eq p19 _ _ (Nat.le_of_ble_eq_true rfl)]
  simp (maxDischargeDepth := 8) only [r19, b19, c19_0, c19_1, c19_2, c19_3, outL, e, wrapu8, shr8, bL, pb, RUN, Ed, knd, kndR, resV, binInt, mnmxV, mnmx2, fillL, unV, lenV, extractV, partV, loadAt, Nat.reduceAdd, Nat.reduceBEq, Nat.reduceEqDiff, Nat.reduceLT, Nat.reduceLeDiff, Nat.reduceMul, Nat.reduceSub, reduceIte, Int.reduceEq, Int.reduceNe, Int.reduceLT, Int.reduceLE, Int.reduceAdd, Int.reduceSub, Int.reduceMul, Int.reduceNeg, Int.reduceMod, Int.reduceDiv, Int.reduceTMod, Int.reduceTDiv, Int.reduceToNat, okChain_i, okLoads_nil, okLoads_in, okLoads_eq]
theorem long_f (id s k : Int) (v : Value) (B : List Int) (H : Heap) (hB : BS H v B) : K 44 [.agg ⟨[.int .u8 id, .int .u8 s, v]⟩, .int .i64 k] H
    = some (.int .i64 (if (B.length : Int) < k then 103 else if k < (B.length : Int) then 102 else 0), H ++ [some ⟨true, 27, [.int .u8 id, .int .u8 s, v]⟩]) := by
  have l := hB.len
  obtain ⟨o1, o2⟩ := hB.one
  rw [K, D_eq p44 _ _ (Nat.le_of_ble_eq_true rfl)]
  by_cases h1 : (B.length : Int) < k
  · simp (maxDischargeDepth := 8) only [r44, b44, c44_0, c44_1, c44_2, c44_3, c44_4, c44_5, l, o1, o2, h1, RUN, Ed, knd, kndR, resV, binInt, mnmxV, mnmx2, fillL, unV, extractV, partV, loadAt, Nat.reduceAdd, Nat.reduceBEq, Nat.reduceEqDiff, Nat.reduceLT, Nat.reduceLeDiff, Nat.reduceMul, Nat.reduceSub, reduceIte, Int.reduceEq, Int.reduceNe, Int.reduceLT, Int.reduceLE, Int.reduceAdd, Int.reduceSub, Int.reduceMul, Int.reduceNeg, Int.reduceMod, Int.reduceDiv, Int.reduceTMod, Int.reduceTDiv, Int.reduceToNat, okChain_i, okLoads_nil, okLoads_in, okLoads_eq]
  · by_cases h2 : k < (B.length : Int)
    · simp (maxDischargeDepth := 8) only [r44, b44, c44_0, c44_1, c44_2, c44_3, c44_4, c44_5, l, o1, o2, h1, h2, RUN, Ed, knd, kndR, resV, binInt, mnmxV, mnmx2, fillL, unV, extractV, partV, loadAt, Nat.reduceAdd, Nat.reduceBEq, Nat.reduceEqDiff, Nat.reduceLT, Nat.reduceLeDiff, Nat.reduceMul, Nat.reduceSub, reduceIte, Int.reduceEq, Int.reduceNe, Int.reduceLT, Int.reduceLE, Int.reduceAdd, Int.reduceSub, Int.reduceMul, Int.reduceNeg, Int.reduceMod, Int.reduceDiv, Int.reduceTMod, Int.reduceTDiv, Int.reduceToNat, okChain_i, okLoads_nil, okLoads_in, okLoads_eq]
    · simp (maxDischargeDepth := 8) only [r44, b44, c44_0, c44_1, c44_2, c44_3, c44_4, c44_5, l, o1, o2, h1, h2, RUN, Ed, knd, kndR, resV, binInt, mnmxV, mnmx2, fillL, unV, extractV, partV, loadAt, Nat.reduceAdd, Nat.reduceBEq, Nat.reduceEqDiff, Nat.reduceLT, Nat.reduceLeDiff, Nat.reduceMul, Nat.reduceSub, reduceIte, Int.reduceEq, Int.reduceNe, Int.reduceLT, Int.reduceLE, Int.reduceAdd, Int.reduceSub, Int.reduceMul, Int.reduceNeg, Int.reduceMod, Int.reduceDiv, Int.reduceTMod, Int.reduceTDiv, Int.reduceToNat, okChain_i, okLoads_nil, okLoads_in, okLoads_eq]
theorem idx7 {H : Heap} {v : Value} {B : List Int} (hB : BS H v B) (h7 : B.length = 7) (hb : ∀ b ∈ B, 0 ≤ b ∧ b < 256) : ∃ b0 b1 b2 b3 b4 b5 b6 : Int, B = [b0, b1, b2, b3, b4, b5, b6] ∧ (0 ≤ b0 ∧ b0 < 256) ∧ (0 ≤ b1 ∧ b1 < 256) ∧ (0 ≤ b2 ∧ b2 < 256) ∧ (0 ≤ b3 ∧ b3 < 256) ∧ (0 ≤ b4 ∧ b4 < 256) ∧ (0 ≤ b5 ∧ b5 < 256) ∧ (0 ≤ b6 ∧ b6 < 256) ∧
    ∃ i o e ow ty cells, v = .slice (some ⟨i, o, none⟩) 7 e ∧ live H i = some ⟨ow, ty, cells⟩ ∧ cells[o]? = some (.int .u8 b0) ∧ cells[o + 1]? = some (.int .u8 b1) ∧ cells[o + 2]? = some (.int .u8 b2) ∧ cells[o + 3]? = some (.int .u8 b3) ∧ cells[o + 4]? = some (.int .u8 b4) ∧ cells[o + 5]? = some (.int .u8 b5) ∧ cells[o + 6]? = some (.int .u8 b6) := by
  match B, h7 with
  | [b0, b1, b2, b3, b4, b5, b6], _ =>
    refine ⟨b0, b1, b2, b3, b4, b5, b6, rfl, hb _ (by simp), hb _ (by simp), hb _ (by simp), hb _ (by simp), hb _ (by simp), hb _ (by simp), hb _ (by simp), ?_⟩
    rcases hB with ⟨h, _⟩ | ⟨i, o, e, ow, ty, cells, h1, h2, h3⟩
    · cases h
    · exact ⟨i, o, e, ow, ty, cells, h1, h2, h3 0 _ rfl, h3 1 _ rfl, h3 2 _ rfl, h3 3 _ rfl, h3 4 _ rfl, h3 5 _ rfl, h3 6 _ rfl⟩
def t20 : RCode := (.seq (.seq (.region c20_9) (.seq (.region c20_10) (.cond (.tmp 63) (.seq (.region c20_11) .ret) .skip))) (.seq (.region c20_12) .ret))
def t21 : RCode := (.seq (.seq (.region c21_8) (.cond (.tmp 54) (.seq (.region c21_9) .ret) .skip)) (.seq (.region c21_10) .ret))
def h20 : RCode := (.block 0 (.seq (.region c20_2) (.cond (.tmp 9) (.seq (.draw c20_3) .ret) (.seq (.region c20_4) (.cond (.tmp 15) (.seq (.draw c20_5) .ret) (.seq (.region c20_6) (.cond (.tmp 21) (.seq (.draw c20_7) .ret) .skip)))))))
theorem b20t : b20 = .seq (.region c20_0) (.seq (.region c20_1) (.seq h20 (.seq (.draw c20_8) t20))) := (rfl)
theorem b21t : b21 = .seq (.region c21_0) (.seq (.seq (.region c21_1) (.cond (.tmp 9) (.seq (.region c21_2) .ret) .skip)) (.seq (.region c21_3) (.seq (.seq (.region c21_4) (.cond (.tmp 14) (.seq (.region c21_5) .ret) .skip)) (.seq (.region c21_6) (.seq (.draw c21_7) t21))))) := (rfl)
def RdA (id s : Int) (v : Value) (C : Heap → Prop) (o : List Value) (e : Option Nat) : Prop :=
  (∀ i, e = some i → i < 7) ∧ (∀ G, C G → ∃ X, D Tryd.prog hints 20 [.agg ⟨[.int .u8 id, .int .u8 s, v]⟩] G = some (.tuple ⟨[.agg ⟨o⟩, EV e]⟩, G ++ X)) ∧
    (∀ G, C G → ∃ X, D Tryd.prog hints 21 [.agg ⟨[.int .u8 id, .int .u8 s, v]⟩] G = some (.tuple ⟨[.agg ⟨o⟩, .int .i64 (cd e)]⟩, G ++ X))
theorem okChain_all {H0 : Heap} {news : List (Nat × Option Blk)} {chain : List (Nat × Heap)} {loads : List (Nat × Nat)} {quiets b : List Nat} {G : Heap} (h : (quiets.all (fun q => b.contains q) && (chain.map (·.1)).all (fun q => b.contains q) && loads.all (fun p => b.contains p.1)) = true) : okChain H0 news chain loads quiets b G := by
  simp only [Bool.and_eq_true] at h
  exact ⟨by simp only [Bool.and_eq_true]; exact h.1, fun p hp => .inl (by simpa using List.all_eq_true.1 h.2 p hp)⟩
theorem reg20 (F : Heap) (i o e : Nat) (ow : Bool) (ty : TypeId) (cells : List Value) (b0 b1 b2 b3 b4 b5 b6 : Int) (q0 : 0 ≤ b0 ∧ b0 < 256) (q1 : 0 ≤ b1 ∧ b1 < 256) (q2 : 0 ≤ b2 ∧ b2 < 256) (q3 : 0 ≤ b3 ∧ b3 < 256) (q4 : 0 ≤ b4 ∧ b4 < 256) (q5 : 0 ≤ b5 ∧ b5 < 256) (q6 : 0 ≤ b6 ∧ b6 < 256)
    (f0 : live F i = some ⟨ow, ty, cells⟩) (f1 : cells[o]? = some (.int .u8 b0)) (f2 : cells[o + 1]? = some (.int .u8 b1)) (f3 : cells[o + 2]? = some (.int .u8 b2)) (f4 : cells[o + 3]? = some (.int .u8 b3)) (f5 : cells[o + 4]? = some (.int .u8 b4)) (f6 : cells[o + 5]? = some (.int .u8 b5)) (f7 : cells[o + 6]? = some (.int .u8 b6)) (ρ : Fr) (r4 : ρ 4 = .slice (some ⟨i, o, none⟩) 7 e) :
    ∃ ρ', E Tryd.prog hints (.draw c20_8) ρ F = some (.normal, ρ', F ++ [some ⟨true, 24, outL b0 (b1 * 256 + b2) b3 b4 (b5 * 256 + b6)⟩]) ∧ ρ' 2 = ρ 2 ∧ ρ' 5 = .pointer (some ⟨F.length, 0, none⟩) := by
  have i0 := live_lt f0
  have w0 := wrap64 b0 (by omega) (by omega)
  have w1 := wrap64 b1 (by omega) (by omega)
  have w2 := wrap64 b2 (by omega) (by omega)
  have w3 := wrap64 b3 (by omega) (by omega)
  have w4 := wrap64 b4 (by omega) (by omega)
  have w5 := wrap64 b5 (by omega) (by omega)
  have w6 := wrap64 b6 (by omega) (by omega)
  have s1 := shl8 b1 q1.1 q1.2
  have s5 := shl8 b5 q5.1 q5.2
  have r1 := or8 b1 b2 q1.1 q1.2 q2.1 q2.2
  have r5 := or8 b5 b6 q5.1 q5.2 q6.1 q6.2
  have l0 : (0 : Int) < ((7 : Nat) : Int) := by decide
  have l1 : (1 : Int) < ((7 : Nat) : Int) := by decide
  have l2 : (2 : Int) < ((7 : Nat) : Int) := by decide
  have l3 : (3 : Int) < ((7 : Nat) : Int) := by decide
  have l4 : (4 : Int) < ((7 : Nat) : Int) := by decide
  have l5 : (5 : Int) < ((7 : Nat) : Int) := by decide
  have l6 : (6 : Int) < ((7 : Nat) : Int) := by decide
  refine ⟨?ρ1, ?run1, ?inv1, ?inv2⟩
  case run1 =>
    simp (maxDischargeDepth := 8) only [c20_8, r4, f0, f1, f2, f3, f4, f5, f6, f7, i0, l0, l1, l2, l3, l4, l5, l6, w0, w1, w2, w3, w4, w5, w6, s1, s5, r1, r5, Nat.mul_one, okChain_all, RUN, Ed, knd, kndR, resV, binInt, mnmxV, mnmx2, fillL, unV, lenV, extractV, partV, loadAt, Nat.reduceAdd, Nat.reduceBEq, Nat.reduceEqDiff, Nat.reduceLT, Nat.reduceLeDiff, Nat.reduceMul, Nat.reduceSub, reduceIte, Int.reduceEq, Int.reduceNe, Int.reduceLT, Int.reduceLE, Int.reduceAdd, Int.reduceSub, Int.reduceMul, Int.reduceNeg, Int.reduceMod, Int.reduceDiv, Int.reduceTMod, Int.reduceTDiv, Int.reduceToNat]
    rfl
  case inv1 => simp (maxDischargeDepth := 8) only [RUN, Ed, knd, kndR, resV, binInt, mnmxV, mnmx2, fillL, unV, lenV, extractV, partV, loadAt, Nat.reduceAdd, Nat.reduceBEq, Nat.reduceEqDiff, Nat.reduceLT, Nat.reduceLeDiff, Nat.reduceMul, Nat.reduceSub, reduceIte, Int.reduceEq, Int.reduceNe, Int.reduceLT, Int.reduceLE, Int.reduceAdd, Int.reduceSub, Int.reduceMul, Int.reduceNeg, Int.reduceMod, Int.reduceDiv, Int.reduceTMod, Int.reduceTDiv, Int.reduceToNat, okChain_i, okLoads_nil, okLoads_in, okLoads_eq]
  case inv2 => simp (maxDischargeDepth := 8) only [RUN, Ed, knd, kndR, resV, binInt, mnmxV, mnmx2, fillL, unV, lenV, extractV, partV, loadAt, Nat.reduceAdd, Nat.reduceBEq, Nat.reduceEqDiff, Nat.reduceLT, Nat.reduceLeDiff, Nat.reduceMul, Nat.reduceSub, reduceIte, Int.reduceEq, Int.reduceNe, Int.reduceLT, Int.reduceLE, Int.reduceAdd, Int.reduceSub, Int.reduceMul, Int.reduceNeg, Int.reduceMod, Int.reduceDiv, Int.reduceTMod, Int.reduceTDiv, Int.reduceToNat, okChain_i, okLoads_nil, okLoads_in, okLoads_eq]
theorem reg21 (F : Heap) (i o e : Nat) (ow : Bool) (ty : TypeId) (cells : List Value) (b0 b1 b2 b3 b4 b5 b6 : Int) (q0 : 0 ≤ b0 ∧ b0 < 256) (q1 : 0 ≤ b1 ∧ b1 < 256) (q2 : 0 ≤ b2 ∧ b2 < 256) (q3 : 0 ≤ b3 ∧ b3 < 256) (q4 : 0 ≤ b4 ∧ b4 < 256) (q5 : 0 ≤ b5 ∧ b5 < 256) (q6 : 0 ≤ b6 ∧ b6 < 256)
    (f0 : live F i = some ⟨ow, ty, cells⟩) (f1 : cells[o]? = some (.int .u8 b0)) (f2 : cells[o + 1]? = some (.int .u8 b1)) (f3 : cells[o + 2]? = some (.int .u8 b2)) (f4 : cells[o + 3]? = some (.int .u8 b3)) (f5 : cells[o + 4]? = some (.int .u8 b4)) (f6 : cells[o + 5]? = some (.int .u8 b5)) (f7 : cells[o + 6]? = some (.int .u8 b6)) (ρ : Fr) (r4 : ρ 5 = .slice (some ⟨i, o, none⟩) 7 e) :
    ∃ ρ', E Tryd.prog hints (.draw c21_7) ρ F = some (.normal, ρ', F ++ [some ⟨true, 24, outL b0 (b1 * 256 + b2) b3 b4 (b5 * 256 + b6)⟩]) ∧ ρ' 2 = ρ 2 ∧ ρ' 6 = .pointer (some ⟨F.length, 0, none⟩) := by
  have i0 := live_lt f0
  have w0 := wrap64 b0 (by omega) (by omega)
  have w1 := wrap64 b1 (by omega) (by omega)
  have w2 := wrap64 b2 (by omega) (by omega)
  have w3 := wrap64 b3 (by omega) (by omega)
  have w4 := wrap64 b4 (by omega) (by omega)
  have w5 := wrap64 b5 (by omega) (by omega)
  have w6 := wrap64 b6 (by omega) (by omega)
  have s1 := shl8 b1 q1.1 q1.2
  have s5 := shl8 b5 q5.1 q5.2
  have r1 := or8 b1 b2 q1.1 q1.2 q2.1 q2.2
  have r5 := or8 b5 b6 q5.1 q5.2 q6.1 q6.2
  have l0 : (0 : Int) < ((7 : Nat) : Int) := by decide
  have l1 : (1 : Int) < ((7 : Nat) : Int) := by decide
  have l2 : (2 : Int) < ((7 : Nat) : Int) := by decide
  have l3 : (3 : Int) < ((7 : Nat) : Int) := by decide
  have l4 : (4 : Int) < ((7 : Nat) : Int) := by decide
  have l5 : (5 : Int) < ((7 : Nat) : Int) := by decide
  have l6 : (6 : Int) < ((7 : Nat) : Int) := by decide
  refine ⟨?ρ1, ?run1, ?inv1, ?inv2⟩
  case run1 =>
    simp (maxDischargeDepth := 8) only [c21_7, r4, f0, f1, f2, f3, f4, f5, f6, f7, i0, l0, l1, l2, l3, l4, l5, l6, w0, w1, w2, w3, w4, w5, w6, s1, s5, r1, r5, Nat.mul_one, okChain_all, RUN, Ed, knd, kndR, resV, binInt, mnmxV, mnmx2, fillL, unV, lenV, extractV, partV, loadAt, Nat.reduceAdd, Nat.reduceBEq, Nat.reduceEqDiff, Nat.reduceLT, Nat.reduceLeDiff, Nat.reduceMul, Nat.reduceSub, reduceIte, Int.reduceEq, Int.reduceNe, Int.reduceLT, Int.reduceLE, Int.reduceAdd, Int.reduceSub, Int.reduceMul, Int.reduceNeg, Int.reduceMod, Int.reduceDiv, Int.reduceTMod, Int.reduceTDiv, Int.reduceToNat]
    rfl
  case inv1 => simp (maxDischargeDepth := 8) only [RUN, Ed, knd, kndR, resV, binInt, mnmxV, mnmx2, fillL, unV, lenV, extractV, partV, loadAt, Nat.reduceAdd, Nat.reduceBEq, Nat.reduceEqDiff, Nat.reduceLT, Nat.reduceLeDiff, Nat.reduceMul, Nat.reduceSub, reduceIte, Int.reduceEq, Int.reduceNe, Int.reduceLT, Int.reduceLE, Int.reduceAdd, Int.reduceSub, Int.reduceMul, Int.reduceNeg, Int.reduceMod, Int.reduceDiv, Int.reduceTMod, Int.reduceTDiv, Int.reduceToNat, okChain_i, okLoads_nil, okLoads_in, okLoads_eq]
  case inv2 => simp (maxDischargeDepth := 8) only [RUN, Ed, knd, kndR, resV, binInt, mnmxV, mnmx2, fillL, unV, lenV, extractV, partV, loadAt, Nat.reduceAdd, Nat.reduceBEq, Nat.reduceEqDiff, Nat.reduceLT, Nat.reduceLeDiff, Nat.reduceMul, Nat.reduceSub, reduceIte, Int.reduceEq, Int.reduceNe, Int.reduceLT, Int.reduceLE, Int.reduceAdd, Int.reduceSub, Int.reduceMul, Int.reduceNeg, Int.reduceMod, Int.reduceDiv, Int.reduceTMod, Int.reduceTDiv, Int.reduceToNat, okChain_i, okLoads_nil, okLoads_in, okLoads_eq]
theorem grow_of {o : Option (Value × Heap)} {v : Value} {G Y : Heap} (h : ∃ X, o = some (v, (G ++ Y) ++ X)) : ∃ X, o = some (v, G ++ X) := by
  obtain ⟨X, h⟩ := h
  exact ⟨Y ++ X, by rw [h, List.append_assoc]⟩
set_option maxHeartbeats 2000000 in
theorem readA_f (id s : Int) (v : Value) (B : List Int) (hb : ∀ b ∈ B, 0 ≤ b ∧ b < 256) : ∃ c f g m n e, RdA id s v (fun G => EH all7 G ∧ BS G v B) (outL c f g m n) e := by
  by_cases hid : id = 96
  · have did : decide (id = 96) = true := by simpa using hid
    by_cases h1 : (B.length : Int) < 7
    · refine ⟨0, 0, 0, 0, 0, some 2, fun i hi => by cases hi; omega, ?_, ?_⟩
      · rintro G ⟨hE, hB⟩
        have l := hB.len
        obtain ⟨o1, o2⟩ := hB.one
        obtain ⟨t0, e0⟩ := hE 2 (by omega) rfl
        have i0 := live_lt e0
        refine ⟨?X1, ?run1⟩
        case run1 =>
          rw [D_eq p20 _ _ (Nat.le_of_ble_eq_true rfl)]
          simp (maxDischargeDepth := 8) only [r20, b20, c20_0, c20_1, c20_2, c20_3, c20_4, c20_5, outL, did, l, o1, o2, e0, i0, g1, h1, RUN, Ed, knd, kndR, resV, binInt, mnmxV, mnmx2, fillL, unV, extractV, partV, loadAt, Nat.reduceAdd, Nat.reduceBEq, Nat.reduceEqDiff, Nat.reduceLT, Nat.reduceLeDiff, Nat.reduceMul, Nat.reduceSub, reduceIte, Int.reduceEq, Int.reduceNe, Int.reduceLT, Int.reduceLE, Int.reduceAdd, Int.reduceSub, Int.reduceMul, Int.reduceNeg, Int.reduceMod, Int.reduceDiv, Int.reduceTMod, Int.reduceTDiv, Int.reduceToNat, okChain_i, okLoads_nil, okLoads_in, okLoads_eq]
          rfl
      · rintro G ⟨hE, hB⟩
        have e4 := fun X => long_f id s 7 v B (G ++ X) (hB.more X)
        rw [if_pos h1] at e4
        obtain ⟨o1, o2⟩ := hB.one
        simp only [K] at e4
        refine ⟨?X2, ?run2⟩
        case run2 =>
          rw [D_eq p21 _ _ (Nat.le_of_ble_eq_true rfl)]
          simp (maxDischargeDepth := 8) only [r21, b21, c21_0, c21_1, c21_2, c21_3, c21_4, c21_5, outL, did, e4, o1, o2, RUN, Ed, knd, kndR, resV, binInt, mnmxV, mnmx2, fillL, unV, extractV, partV, loadAt, Nat.reduceAdd, Nat.reduceBEq, Nat.reduceEqDiff, Nat.reduceLT, Nat.reduceLeDiff, Nat.reduceMul, Nat.reduceSub, reduceIte, Int.reduceEq, Int.reduceNe, Int.reduceLT, Int.reduceLE, Int.reduceAdd, Int.reduceSub, Int.reduceMul, Int.reduceNeg, Int.reduceMod, Int.reduceDiv, Int.reduceTMod, Int.reduceTDiv, Int.reduceToNat, okChain_i, okLoads_nil, okLoads_in, okLoads_eq]
          rfl
    · by_cases h2 : (7 : Int) < (B.length : Int)
      · refine ⟨0, 0, 0, 0, 0, some 1, fun i hi => by cases hi; omega, ?_, ?_⟩
        · rintro G ⟨hE, hB⟩
          have l := hB.len
          obtain ⟨o1, o2⟩ := hB.one
          obtain ⟨t0, e0⟩ := hE 1 (by omega) rfl
          have i0 := live_lt e0
          refine ⟨?X3, ?run3⟩
          case run3 =>
            rw [D_eq p20 _ _ (Nat.le_of_ble_eq_true rfl)]
            simp (maxDischargeDepth := 8) only [r20, b20, c20_0, c20_1, c20_2, c20_3, c20_4, c20_5, c20_6, c20_7, outL, did, l, o1, o2, e0, i0, g2, h1, h2, RUN, Ed, knd, kndR, resV, binInt, mnmxV, mnmx2, fillL, unV, extractV, partV, loadAt, Nat.reduceAdd, Nat.reduceBEq, Nat.reduceEqDiff, Nat.reduceLT, Nat.reduceLeDiff, Nat.reduceMul, Nat.reduceSub, reduceIte, Int.reduceEq, Int.reduceNe, Int.reduceLT, Int.reduceLE, Int.reduceAdd, Int.reduceSub, Int.reduceMul, Int.reduceNeg, Int.reduceMod, Int.reduceDiv, Int.reduceTMod, Int.reduceTDiv, Int.reduceToNat, okChain_i, okLoads_nil, okLoads_in, okLoads_eq]
            rfl
        · rintro G ⟨hE, hB⟩
          have e4 := fun X => long_f id s 7 v B (G ++ X) (hB.more X)
          rw [if_neg h1, if_pos h2] at e4
          obtain ⟨o1, o2⟩ := hB.one
          simp only [K] at e4
          refine ⟨?X4, ?run4⟩
          case run4 =>
            rw [D_eq p21 _ _ (Nat.le_of_ble_eq_true rfl)]
            simp (maxDischargeDepth := 8) only [r21, b21, c21_0, c21_1, c21_2, c21_3, c21_4, c21_5, outL, did, e4, o1, o2, RUN, Ed, knd, kndR, resV, binInt, mnmxV, mnmx2, fillL, unV, extractV, partV, loadAt, Nat.reduceAdd, Nat.reduceBEq, Nat.reduceEqDiff, Nat.reduceLT, Nat.reduceLeDiff, Nat.reduceMul, Nat.reduceSub, reduceIte, Int.reduceEq, Int.reduceNe, Int.reduceLT, Int.reduceLE, Int.reduceAdd, Int.reduceSub, Int.reduceMul, Int.reduceNeg, Int.reduceMod, Int.reduceDiv, Int.reduceTMod, Int.reduceTDiv, Int.reduceToNat, okChain_i, okLoads_nil, okLoads_in, okLoads_eq]
            rfl
      · have h7 : B.length = 7 := by omega
        have h7' : ((B.length : Nat) : Int) = 7 := by omega
        match B, h7 with
        | [b0, b1, b2, b3, b4, b5, b6], _ =>
          have q0 := hb b0 (by simp)
          have q1 := hb b1 (by simp)
          have q2 := hb b2 (by simp)
          have q3 := hb b3 (by simp)
          have q4 := hb b4 (by simp)
          have q5 := hb b5 (by simp)
          have q6 := hb b6 (by simp)
          have w0 := wrap64 b0 (by omega) (by omega)
          have w1 := wrap64 b1 (by omega) (by omega)
          have w2 := wrap64 b2 (by omega) (by omega)
          have w3 := wrap64 b3 (by omega) (by omega)
          have w4 := wrap64 b4 (by omega) (by omega)
          have w5 := wrap64 b5 (by omega) (by omega)
          have w6 := wrap64 b6 (by omega) (by omega)
          have s1 := shl8 b1 q1.1 q1.2
          have s5 := shl8 b5 q5.1 q5.2
          have r1 := or8 b1 b2 q1.1 q1.2 q2.1 q2.2
          have r5 := or8 b5 b6 q5.1 q5.2 q6.1 q6.2
          have l0 : (0 : Int) < ((7 : Nat) : Int) := by decide
          have l1 : (1 : Int) < ((7 : Nat) : Int) := by decide
          have l2 : (2 : Int) < ((7 : Nat) : Int) := by decide
          have l3 : (3 : Int) < ((7 : Nat) : Int) := by decide
          have l4 : (4 : Int) < ((7 : Nat) : Int) := by decide
          have l5 : (5 : Int) < ((7 : Nat) : Int) := by decide
          have l6 : (6 : Int) < ((7 : Nat) : Int) := by decide
          have n7 : ¬ (((7 : Nat) : Int) < 7) := by decide
          have m7 : ¬ ((7 : Int) < ((7 : Nat) : Int)) := by decide
          by_cases hg : GoodP b0 (b1 * 256 + b2) b3 b4 (b5 * 256 + b6)
          · refine ⟨b0, b1 * 256 + b2, b3, b4, b5 * 256 + b6, none, (fun i hi => by cases hi), ?_, ?_⟩
            · rintro G ⟨hE, hB⟩
              obtain ⟨_, _, _, _, _, _, _, hBe, _, _, _, _, _, _, _, i, o, e, ow, ty, cells, rfl, f0, f1, f2, f3, f4, f5, f6, f7⟩ := idx7 hB rfl hb
              cases hBe
              have i0 := live_lt f0
              have ec := fun X => check_f all7 b0 (b1 * 256 + b2) b3 b4 (b5 * 256 + b6) (G ++ X) (hE.more X) rfl
              rw [if_pos hg] at ec
              simp only [K, outL] at ec
              rw [D_eq p20 _ _ (Nat.le_of_ble_eq_true rfl)]
              simp (maxDischargeDepth := 8) only [r20, b20t, h20, c20_0, c20_1, c20_2, c20_4, c20_6, f0, i0, did, n7, m7, RUN, knd, kndR, resV, binInt, mnmxV, mnmx2, fillL, unV, lenV, extractV, partV, loadAt, Nat.reduceAdd, Nat.reduceBEq, Nat.reduceEqDiff, Nat.reduceLT, Nat.reduceLeDiff, Nat.reduceMul, Nat.reduceSub, reduceIte, Int.reduceEq, Int.reduceNe, Int.reduceLT, Int.reduceLE, Int.reduceAdd, Int.reduceSub, Int.reduceMul, Int.reduceNeg, Int.reduceMod, Int.reduceDiv, Int.reduceTMod, Int.reduceTDiv, Int.reduceToNat, okChain_i, okLoads_nil, okLoads_in, okLoads_eq]
              have key : ∀ (ρ : Fr) (F : Heap), (ρ 4 = .slice (some ⟨i, o, none⟩) 7 e ∧ ρ 2 = .pointer (some ⟨G.length + 1, 0, none⟩) ∧ ∃ Y, F = G ++ [Y, some ⟨true, 24, zeroO⟩]) → ∃ X, done [.cells 2 5, .tmp 3] (andThen (E Tryd.prog hints (.draw c20_8) ρ F) (E Tryd.prog hints t20)) = some (.tuple ⟨[.agg ⟨outL b0 (b1 * 256 + b2) b3 b4 (b5 * 256 + b6)⟩, EV (none)]⟩, G ++ X) := by
                rintro ρ F ⟨h4, h2', Y, rfl⟩
                obtain ⟨ρ', e1, e2, e5⟩ := reg20 (G ++ [Y, some ⟨true, 24, zeroO⟩]) i o e ow ty cells b0 b1 b2 b3 b4 b5 b6 q0 q1 q2 q3 q4 q5 q6 (live_more0 f0 _) f1 f2 f3 f4 f5 f6 f7 ρ h4
                rw [e1, h2'] at *
                simp only [List.length_append, List.length_cons, List.length_nil, Nat.zero_add, Nat.reduceAdd] at e5
                refine ⟨?X5, ?run5⟩
                case run5 =>
                  simp (maxDischargeDepth := 8) only [andThen_n, t20, c20_9, c20_10, c20_11, c20_12, zeroO, outL, e2, e5, ec, EV, RUN, Ed, knd, kndR, resV, binInt, mnmxV, mnmx2, fillL, unV, lenV, extractV, partV, loadAt, Nat.reduceAdd, Nat.reduceBEq, Nat.reduceEqDiff, Nat.reduceLT, Nat.reduceLeDiff, Nat.reduceMul, Nat.reduceSub, reduceIte, Int.reduceEq, Int.reduceNe, Int.reduceLT, Int.reduceLE, Int.reduceAdd, Int.reduceSub, Int.reduceMul, Int.reduceNeg, Int.reduceMod, Int.reduceDiv, Int.reduceTMod, Int.reduceTDiv, Int.reduceToNat, okChain_i, okLoads_nil, okLoads_in, okLoads_eq]
                  rfl
              refine key _ _ ⟨?_, ?_, _, rfl⟩
              · simp (maxDischargeDepth := 8) only [RUN, Ed, knd, kndR, resV, binInt, mnmxV, mnmx2, fillL, unV, lenV, extractV, partV, loadAt, Nat.reduceAdd, Nat.reduceBEq, Nat.reduceEqDiff, Nat.reduceLT, Nat.reduceLeDiff, Nat.reduceMul, Nat.reduceSub, reduceIte, Int.reduceEq, Int.reduceNe, Int.reduceLT, Int.reduceLE, Int.reduceAdd, Int.reduceSub, Int.reduceMul, Int.reduceNeg, Int.reduceMod, Int.reduceDiv, Int.reduceTMod, Int.reduceTDiv, Int.reduceToNat, okChain_i, okLoads_nil, okLoads_in, okLoads_eq]
              · simp (maxDischargeDepth := 8) only [RUN, Ed, knd, kndR, resV, binInt, mnmxV, mnmx2, fillL, unV, lenV, extractV, partV, loadAt, Nat.reduceAdd, Nat.reduceBEq, Nat.reduceEqDiff, Nat.reduceLT, Nat.reduceLeDiff, Nat.reduceMul, Nat.reduceSub, reduceIte, Int.reduceEq, Int.reduceNe, Int.reduceLT, Int.reduceLE, Int.reduceAdd, Int.reduceSub, Int.reduceMul, Int.reduceNeg, Int.reduceMod, Int.reduceDiv, Int.reduceTMod, Int.reduceTDiv, Int.reduceToNat, okChain_i, okLoads_nil, okLoads_in, okLoads_eq]
            · rintro G ⟨hE, hB⟩
              have e4 := fun X => long_f id s 7 v _ (G ++ X) (hB.more X)
              obtain ⟨_, _, _, _, _, _, _, hBe, _, _, _, _, _, _, _, i, o, e, ow, ty, cells, rfl, f0, f1, f2, f3, f4, f5, f6, f7⟩ := idx7 hB rfl hb
              cases hBe
              rw [if_neg h1, if_neg h2] at e4
              have i0 := live_lt f0
              have ec := fun G => goodOut_f b0 (b1 * 256 + b2) b3 b4 (b5 * 256 + b6) G
              have hd : decide (GoodP b0 (b1 * 256 + b2) b3 b4 (b5 * 256 + b6)) = true := by simpa using hg
              rw [hd] at ec
              simp only [K, outL] at ec e4
              rw [D_eq p21 _ _ (Nat.le_of_ble_eq_true rfl)]
              simp (maxDischargeDepth := 8) only [r21, b21t, c21_0, c21_1, c21_2, c21_3, c21_4, c21_5, c21_6, did, e4, RUN, knd, kndR, resV, binInt, mnmxV, mnmx2, fillL, unV, lenV, extractV, partV, loadAt, Nat.reduceAdd, Nat.reduceBEq, Nat.reduceEqDiff, Nat.reduceLT, Nat.reduceLeDiff, Nat.reduceMul, Nat.reduceSub, reduceIte, Int.reduceEq, Int.reduceNe, Int.reduceLT, Int.reduceLE, Int.reduceAdd, Int.reduceSub, Int.reduceMul, Int.reduceNeg, Int.reduceMod, Int.reduceDiv, Int.reduceTMod, Int.reduceTDiv, Int.reduceToNat, okChain_i, okLoads_nil, okLoads_in, okLoads_eq]
              have key : ∀ (ρ : Fr) (F : Heap), (ρ 5 = .slice (some ⟨i, o, none⟩) 7 e ∧ ρ 2 = .pointer (some ⟨G.length + 1, 0, none⟩) ∧ ∃ Y Z, F = G ++ [Y, some ⟨true, 24, zeroO⟩, Z]) → ∃ X, done [.cells 2 5, .tmp 3] (andThen (E Tryd.prog hints (.draw c21_7) ρ F) (E Tryd.prog hints t21)) = some (.tuple ⟨[.agg ⟨outL b0 (b1 * 256 + b2) b3 b4 (b5 * 256 + b6)⟩, .int .i64 (cd (none))]⟩, G ++ X) := by
                rintro ρ F ⟨h4, h2', Y, Z, rfl⟩
                obtain ⟨ρ', e1, e2, e5⟩ := reg21 (G ++ [Y, some ⟨true, 24, zeroO⟩, Z]) i o e ow ty cells b0 b1 b2 b3 b4 b5 b6 q0 q1 q2 q3 q4 q5 q6 (live_more0 f0 _) f1 f2 f3 f4 f5 f6 f7 ρ h4
                rw [e1, h2'] at *
                simp only [List.length_append, List.length_cons, List.length_nil, Nat.zero_add, Nat.reduceAdd] at e5
                refine ⟨?X6, ?run6⟩
                case run6 =>
                  simp (maxDischargeDepth := 8) only [andThen_n, t21, c21_8, c21_9, c21_10, zeroO, outL, e2, e5, ec, cd, RUN, Ed, knd, kndR, resV, binInt, mnmxV, mnmx2, fillL, unV, lenV, extractV, partV, loadAt, Nat.reduceAdd, Nat.reduceBEq, Nat.reduceEqDiff, Nat.reduceLT, Nat.reduceLeDiff, Nat.reduceMul, Nat.reduceSub, reduceIte, Int.reduceEq, Int.reduceNe, Int.reduceLT, Int.reduceLE, Int.reduceAdd, Int.reduceSub, Int.reduceMul, Int.reduceNeg, Int.reduceMod, Int.reduceDiv, Int.reduceTMod, Int.reduceTDiv, Int.reduceToNat, okChain_i, okLoads_nil, okLoads_in, okLoads_eq]
                  rfl
              refine key _ _ ⟨?_, ?_, _, _, rfl⟩
              · simp (maxDischargeDepth := 8) only [RUN, Ed, knd, kndR, resV, binInt, mnmxV, mnmx2, fillL, unV, lenV, extractV, partV, loadAt, Nat.reduceAdd, Nat.reduceBEq, Nat.reduceEqDiff, Nat.reduceLT, Nat.reduceLeDiff, Nat.reduceMul, Nat.reduceSub, reduceIte, Int.reduceEq, Int.reduceNe, Int.reduceLT, Int.reduceLE, Int.reduceAdd, Int.reduceSub, Int.reduceMul, Int.reduceNeg, Int.reduceMod, Int.reduceDiv, Int.reduceTMod, Int.reduceTDiv, Int.reduceToNat, okChain_i, okLoads_nil, okLoads_in, okLoads_eq]
              · simp (maxDischargeDepth := 8) only [RUN, Ed, knd, kndR, resV, binInt, mnmxV, mnmx2, fillL, unV, lenV, extractV, partV, loadAt, Nat.reduceAdd, Nat.reduceBEq, Nat.reduceEqDiff, Nat.reduceLT, Nat.reduceLeDiff, Nat.reduceMul, Nat.reduceSub, reduceIte, Int.reduceEq, Int.reduceNe, Int.reduceLT, Int.reduceLE, Int.reduceAdd, Int.reduceSub, Int.reduceMul, Int.reduceNeg, Int.reduceMod, Int.reduceDiv, Int.reduceTMod, Int.reduceTDiv, Int.reduceToNat, okChain_i, okLoads_nil, okLoads_in, okLoads_eq]
          · refine ⟨0, 0, 0, 0, 0, some 0, fun i hi => by cases hi; omega, ?_, ?_⟩
            · rintro G ⟨hE, hB⟩
              obtain ⟨_, _, _, _, _, _, _, hBe, _, _, _, _, _, _, _, i, o, e, ow, ty, cells, rfl, f0, f1, f2, f3, f4, f5, f6, f7⟩ := idx7 hB rfl hb
              cases hBe
              have i0 := live_lt f0
              have ec := fun X => check_f all7 b0 (b1 * 256 + b2) b3 b4 (b5 * 256 + b6) (G ++ X) (hE.more X) rfl
              rw [if_neg hg] at ec
              simp only [K, outL] at ec
              rw [D_eq p20 _ _ (Nat.le_of_ble_eq_true rfl)]
              simp (maxDischargeDepth := 8) only [r20, b20t, h20, c20_0, c20_1, c20_2, c20_4, c20_6, f0, i0, did, n7, m7, RUN, knd, kndR, resV, binInt, mnmxV, mnmx2, fillL, unV, lenV, extractV, partV, loadAt, Nat.reduceAdd, Nat.reduceBEq, Nat.reduceEqDiff, Nat.reduceLT, Nat.reduceLeDiff, Nat.reduceMul, Nat.reduceSub, reduceIte, Int.reduceEq, Int.reduceNe, Int.reduceLT, Int.reduceLE, Int.reduceAdd, Int.reduceSub, Int.reduceMul, Int.reduceNeg, Int.reduceMod, Int.reduceDiv, Int.reduceTMod, Int.reduceTDiv, Int.reduceToNat, okChain_i, okLoads_nil, okLoads_in, okLoads_eq]
              have key : ∀ (ρ : Fr) (F : Heap), (ρ 4 = .slice (some ⟨i, o, none⟩) 7 e ∧ ρ 2 = .pointer (some ⟨G.length + 1, 0, none⟩) ∧ ∃ Y, F = G ++ [Y, some ⟨true, 24, zeroO⟩]) → ∃ X, done [.cells 2 5, .tmp 3] (andThen (E Tryd.prog hints (.draw c20_8) ρ F) (E Tryd.prog hints t20)) = some (.tuple ⟨[.agg ⟨outL 0 0 0 0 0⟩, EV (some 0)]⟩, G ++ X) := by
                rintro ρ F ⟨h4, h2', Y, rfl⟩
                obtain ⟨ρ', e1, e2, e5⟩ := reg20 (G ++ [Y, some ⟨true, 24, zeroO⟩]) i o e ow ty cells b0 b1 b2 b3 b4 b5 b6 q0 q1 q2 q3 q4 q5 q6 (live_more0 f0 _) f1 f2 f3 f4 f5 f6 f7 ρ h4
                rw [e1, h2'] at *
                simp only [List.length_append, List.length_cons, List.length_nil, Nat.zero_add, Nat.reduceAdd] at e5
                refine ⟨?X7, ?run7⟩
                case run7 =>
                  simp (maxDischargeDepth := 8) only [andThen_n, t20, c20_9, c20_10, c20_11, c20_12, zeroO, outL, e2, e5, ec, same_En, EV, RUN, Ed, knd, kndR, resV, binInt, mnmxV, mnmx2, fillL, unV, lenV, extractV, partV, loadAt, Nat.reduceAdd, Nat.reduceBEq, Nat.reduceEqDiff, Nat.reduceLT, Nat.reduceLeDiff, Nat.reduceMul, Nat.reduceSub, reduceIte, Int.reduceEq, Int.reduceNe, Int.reduceLT, Int.reduceLE, Int.reduceAdd, Int.reduceSub, Int.reduceMul, Int.reduceNeg, Int.reduceMod, Int.reduceDiv, Int.reduceTMod, Int.reduceTDiv, Int.reduceToNat, okChain_i, okLoads_nil, okLoads_in, okLoads_eq]
                  rfl
              refine key _ _ ⟨?_, ?_, _, rfl⟩
              · simp (maxDischargeDepth := 8) only [RUN, Ed, knd, kndR, resV, binInt, mnmxV, mnmx2, fillL, unV, lenV, extractV, partV, loadAt, Nat.reduceAdd, Nat.reduceBEq, Nat.reduceEqDiff, Nat.reduceLT, Nat.reduceLeDiff, Nat.reduceMul, Nat.reduceSub, reduceIte, Int.reduceEq, Int.reduceNe, Int.reduceLT, Int.reduceLE, Int.reduceAdd, Int.reduceSub, Int.reduceMul, Int.reduceNeg, Int.reduceMod, Int.reduceDiv, Int.reduceTMod, Int.reduceTDiv, Int.reduceToNat, okChain_i, okLoads_nil, okLoads_in, okLoads_eq]
              · simp (maxDischargeDepth := 8) only [RUN, Ed, knd, kndR, resV, binInt, mnmxV, mnmx2, fillL, unV, lenV, extractV, partV, loadAt, Nat.reduceAdd, Nat.reduceBEq, Nat.reduceEqDiff, Nat.reduceLT, Nat.reduceLeDiff, Nat.reduceMul, Nat.reduceSub, reduceIte, Int.reduceEq, Int.reduceNe, Int.reduceLT, Int.reduceLE, Int.reduceAdd, Int.reduceSub, Int.reduceMul, Int.reduceNeg, Int.reduceMod, Int.reduceDiv, Int.reduceTMod, Int.reduceTDiv, Int.reduceToNat, okChain_i, okLoads_nil, okLoads_in, okLoads_eq]
            · rintro G ⟨hE, hB⟩
              have e4 := fun X => long_f id s 7 v _ (G ++ X) (hB.more X)
              obtain ⟨_, _, _, _, _, _, _, hBe, _, _, _, _, _, _, _, i, o, e, ow, ty, cells, rfl, f0, f1, f2, f3, f4, f5, f6, f7⟩ := idx7 hB rfl hb
              cases hBe
              rw [if_neg h1, if_neg h2] at e4
              have i0 := live_lt f0
              have ec := fun G => goodOut_f b0 (b1 * 256 + b2) b3 b4 (b5 * 256 + b6) G
              have hd : decide (GoodP b0 (b1 * 256 + b2) b3 b4 (b5 * 256 + b6)) = false := by simpa using hg
              rw [hd] at ec
              simp only [K, outL] at ec e4
              rw [D_eq p21 _ _ (Nat.le_of_ble_eq_true rfl)]
              simp (maxDischargeDepth := 8) only [r21, b21t, c21_0, c21_1, c21_2, c21_3, c21_4, c21_5, c21_6, did, e4, RUN, knd, kndR, resV, binInt, mnmxV, mnmx2, fillL, unV, lenV, extractV, partV, loadAt, Nat.reduceAdd, Nat.reduceBEq, Nat.reduceEqDiff, Nat.reduceLT, Nat.reduceLeDiff, Nat.reduceMul, Nat.reduceSub, reduceIte, Int.reduceEq, Int.reduceNe, Int.reduceLT, Int.reduceLE, Int.reduceAdd, Int.reduceSub, Int.reduceMul, Int.reduceNeg, Int.reduceMod, Int.reduceDiv, Int.reduceTMod, Int.reduceTDiv, Int.reduceToNat, okChain_i, okLoads_nil, okLoads_in, okLoads_eq]
              have key : ∀ (ρ : Fr) (F : Heap), (ρ 5 = .slice (some ⟨i, o, none⟩) 7 e ∧ ρ 2 = .pointer (some ⟨G.length + 1, 0, none⟩) ∧ ∃ Y Z, F = G ++ [Y, some ⟨true, 24, zeroO⟩, Z]) → ∃ X, done [.cells 2 5, .tmp 3] (andThen (E Tryd.prog hints (.draw c21_7) ρ F) (E Tryd.prog hints t21)) = some (.tuple ⟨[.agg ⟨outL 0 0 0 0 0⟩, .int .i64 (cd (some 0))]⟩, G ++ X) := by
                rintro ρ F ⟨h4, h2', Y, Z, rfl⟩
                obtain ⟨ρ', e1, e2, e5⟩ := reg21 (G ++ [Y, some ⟨true, 24, zeroO⟩, Z]) i o e ow ty cells b0 b1 b2 b3 b4 b5 b6 q0 q1 q2 q3 q4 q5 q6 (live_more0 f0 _) f1 f2 f3 f4 f5 f6 f7 ρ h4
                rw [e1, h2'] at *
                simp only [List.length_append, List.length_cons, List.length_nil, Nat.zero_add, Nat.reduceAdd] at e5
                refine ⟨?X8, ?run8⟩
                case run8 =>
                  simp (maxDischargeDepth := 8) only [andThen_n, t21, c21_8, c21_9, c21_10, zeroO, outL, e2, e5, ec, cd, RUN, Ed, knd, kndR, resV, binInt, mnmxV, mnmx2, fillL, unV, lenV, extractV, partV, loadAt, Nat.reduceAdd, Nat.reduceBEq, Nat.reduceEqDiff, Nat.reduceLT, Nat.reduceLeDiff, Nat.reduceMul, Nat.reduceSub, reduceIte, Int.reduceEq, Int.reduceNe, Int.reduceLT, Int.reduceLE, Int.reduceAdd, Int.reduceSub, Int.reduceMul, Int.reduceNeg, Int.reduceMod, Int.reduceDiv, Int.reduceTMod, Int.reduceTDiv, Int.reduceToNat, okChain_i, okLoads_nil, okLoads_in, okLoads_eq]
                  rfl
              refine key _ _ ⟨?_, ?_, _, _, rfl⟩
              · simp (maxDischargeDepth := 8) only [RUN, Ed, knd, kndR, resV, binInt, mnmxV, mnmx2, fillL, unV, lenV, extractV, partV, loadAt, Nat.reduceAdd, Nat.reduceBEq, Nat.reduceEqDiff, Nat.reduceLT, Nat.reduceLeDiff, Nat.reduceMul, Nat.reduceSub, reduceIte, Int.reduceEq, Int.reduceNe, Int.reduceLT, Int.reduceLE, Int.reduceAdd, Int.reduceSub, Int.reduceMul, Int.reduceNeg, Int.reduceMod, Int.reduceDiv, Int.reduceTMod, Int.reduceTDiv, Int.reduceToNat, okChain_i, okLoads_nil, okLoads_in, okLoads_eq]
              · simp (maxDischargeDepth := 8) only [RUN, Ed, knd, kndR, resV, binInt, mnmxV, mnmx2, fillL, unV, lenV, extractV, partV, loadAt, Nat.reduceAdd, Nat.reduceBEq, Nat.reduceEqDiff, Nat.reduceLT, Nat.reduceLeDiff, Nat.reduceMul, Nat.reduceSub, reduceIte, Int.reduceEq, Int.reduceNe, Int.reduceLT, Int.reduceLE, Int.reduceAdd, Int.reduceSub, Int.reduceMul, Int.reduceNeg, Int.reduceMod, Int.reduceDiv, Int.reduceTMod, Int.reduceTDiv, Int.reduceToNat, okChain_i, okLoads_nil, okLoads_in, okLoads_eq]
  · have did : decide (id = 96) = false := by simpa using hid
    refine ⟨0, 0, 0, 0, 0, some 0, fun i hi => by cases hi; omega, ?_, ?_⟩
    · rintro G ⟨hE, hB⟩
      obtain ⟨o1, o2⟩ := hB.one
      obtain ⟨t0, e0⟩ := hE 0 (by omega) rfl
      have i0 := live_lt e0
      refine ⟨?X9, ?run9⟩
      case run9 =>
        rw [D_eq p20 _ _ (Nat.le_of_ble_eq_true rfl)]
        simp (maxDischargeDepth := 8) only [r20, b20, c20_0, c20_1, c20_2, c20_3, outL, did, o1, o2, e0, i0, g0, RUN, Ed, knd, kndR, resV, binInt, mnmxV, mnmx2, fillL, unV, extractV, partV, loadAt, Nat.reduceAdd, Nat.reduceBEq, Nat.reduceEqDiff, Nat.reduceLT, Nat.reduceLeDiff, Nat.reduceMul, Nat.reduceSub, reduceIte, Int.reduceEq, Int.reduceNe, Int.reduceLT, Int.reduceLE, Int.reduceAdd, Int.reduceSub, Int.reduceMul, Int.reduceNeg, Int.reduceMod, Int.reduceDiv, Int.reduceTMod, Int.reduceTDiv, Int.reduceToNat, okChain_i, okLoads_nil, okLoads_in, okLoads_eq]
        rfl
    · rintro G ⟨hE, hB⟩
      obtain ⟨o1, o2⟩ := hB.one
      refine ⟨?X10, ?run10⟩
      case run10 =>
        rw [D_eq p21 _ _ (Nat.le_of_ble_eq_true rfl)]
        simp (maxDischargeDepth := 8) only [r21, b21, c21_0, c21_1, c21_2, outL, did, o1, o2, RUN, Ed, knd, kndR, resV, binInt, mnmxV, mnmx2, fillL, unV, extractV, partV, loadAt, Nat.reduceAdd, Nat.reduceBEq, Nat.reduceEqDiff, Nat.reduceLT, Nat.reduceLeDiff, Nat.reduceMul, Nat.reduceSub, reduceIte, Int.reduceEq, Int.reduceNe, Int.reduceLT, Int.reduceLE, Int.reduceAdd, Int.reduceSub, Int.reduceMul, Int.reduceNeg, Int.reduceMod, Int.reduceDiv, Int.reduceTMod, Int.reduceTDiv, Int.reduceToNat, okChain_i, okLoads_nil, okLoads_in, okLoads_eq]
        rfl
end Go.Proofs.YtdmfedmhcegggaaDoor.Sim
