/- ActUnlike over the plain heap. -/
import Derived.Test.YtdmfedmhcegggaaDoorAct5
import Derived.Test.YtdmfedmhcegggaaDoorSim21
namespace Go.Proofs.YtdmfedmhcegggaaDoor.Sim
open Go
set_option linter.unusedSimpArgs false
set_option linter.unusedVariables false
theorem mask (a m : Int) (h0 : 0 ≤ m) (h1 : m < 9223372036854775808) : ∃ q : Int, IntKind.i64.wrap ((BitVec.ofInt IntKind.i64.bits a &&& BitVec.ofInt IntKind.i64.bits m).toNat : Int) = q ∧ 0 ≤ q ∧ q ≤ m := by
  obtain ⟨n, rfl⟩ := Int.eq_ofNat_of_zero_le h0
  have e : (BitVec.ofInt IntKind.i64.bits a &&& BitVec.ofInt IntKind.i64.bits (n : Int)).toNat ≤ n := by
    show (BitVec.ofInt 64 a &&& BitVec.ofInt 64 (n : Int)).toNat ≤ n
    rw [BitVec.toNat_and]
    refine Nat.le_trans Nat.and_le_right ?_
    rw [BitVec.toNat_ofInt]
    omega
  exact ⟨_, wrap64 _ (by omega) (by omega), by omega, by omega⟩
/-- A mode from any number. -/
theorem mode5 (q : Int) (h0 : 0 ≤ q) (h1 : q ≤ 255) : q.tmod 5 = q % 5 ∧ IntKind.i64.wrap (1 + q % 5) = 1 + q % 5 ∧ 1 ≤ 1 + q % 5 ∧ 1 + q % 5 ≤ 5 := by
  refine ⟨Int.tmod_eq_emod_of_nonneg h0, wrap64 _ (by omega) (by omega), by omega, by omega⟩
theorem pb_same (c f g m n c' f' g' m' n' : Int) (h : GoodP c f g m n) (h' : GoodP c' f' g' m' n') : (pb c f g m n = pb c' f' g' m' n') ↔ (c = c' ∧ f = f' ∧ g = g' ∧ m = m' ∧ n = n') := by
  unfold GoodP at h h'
  unfold pb
  constructor
  · intro e
    simp only [List.cons.injEq] at e
    omega
  · rintro ⟨rfl, rfl, rfl, rfl, rfl⟩; rfl
def t3 : RCode := .seq (.draw c3_8) .ret
theorem b3t : b3 = .seq (.region c3_0) (.seq (.region c3_1) (.seq (.seq (.region c3_2) (.cond (.tmp 22) (.seq (.region c3_3) .ret) .skip)) (.seq (.region c3_4) (.seq (.region c3_5) (.seq (.region c3_6) (.seq (.region c3_7) t3)))))) := (rfl)
theorem tail3 (p14 p15 p16 p18 i j : Nat) (c f g m n c' f' g' m' n' : Int) (hg : GoodP c f g m n) (hg' : GoodP c' f' g' m' n') (ρ : Fr) (F : Heap)
    (r13 : ρ 13 = .bool true) (r14 : ρ 14 = .pointer (some ⟨p14, 0, none⟩)) (r15 : ρ 15 = .pointer (some ⟨p15, 0, none⟩)) (r16 : ρ 16 = .pointer (some ⟨p16, 0, none⟩)) (r17 : ρ 17 = .nilIface) (r18 : ρ 18 = .pointer (some ⟨p18, 0, none⟩)) (r19 : ρ 19 = .nilIface)
    (k14 : live F p14 = some ⟨true, 24, outL c f g m n⟩) (k15 : live F p15 = some ⟨true, 24, outL c' f' g' m' n'⟩)
    (k16 : live F p16 = some ⟨true, 27, [.int .u8 96, .int .u8 7, .slice (some ⟨i, 0, none⟩) 7 1]⟩) (k18 : live F p18 = some ⟨true, 27, [.int .u8 96, .int .u8 7, .slice (some ⟨j, 0, none⟩) 7 1]⟩)
    (ki : live F i = some ⟨true, 5, bL (pb c f g m n)⟩) (kj : live F j = some ⟨true, 5, bL (pb c' f' g' m' n')⟩) : Ok (done [.tmp 12] (E Tryd.prog hints t3 ρ F)) := by
  have i14 := live_lt k14
  have i15 := live_lt k15
  have i16 := live_lt k16
  have i18 := live_lt k18
  have e1 := sf7 F 96 7 96 7 (pb c f g m n) (pb c' f' g' m' n') i j rfl rfl ki kj
  have e2 := fun G => sameOut_f c f g m n c' f' g' m' n' G
  rw [show decide ((96 : Int) = 96 ∧ (7 : Int) = 7 ∧ pb c f g m n = pb c' f' g' m' n') = decide (c = c' ∧ f = f' ∧ g = g' ∧ m = m' ∧ n = n') from decide_eq_decide.2 (by rw [pb_same c f g m n c' f' g' m' n' hg hg']; simp)] at e1
  simp only [K] at e1 e2
  cases hd : decide (c = c' ∧ f = f' ∧ g = g' ∧ m = m' ∧ n = n') <;>
  · rw [hd] at e1 e2
    simp (maxDischargeDepth := 8) only [t3, c3_8, r13, r14, r15, r16, r17, r18, r19, k14, k15, k16, k18, i14, i15, i16, i18, e1, e2, outL_len, outL_take, same_nn, RUN, Ed, knd, kndR, resV, binInt, mnmxV, mnmx2, fillL, unV, lenV, extractV, partV, loadAt, Nat.reduceAdd, Nat.reduceBEq, Nat.reduceEqDiff, Nat.reduceLT, Nat.reduceLeDiff, Nat.reduceMul, Nat.reduceSub, reduceIte, Int.reduceEq, Int.reduceNe, Int.reduceLT, Int.reduceLE, Int.reduceAdd, Int.reduceSub, Int.reduceMul, Int.reduceNeg, Int.reduceMod, Int.reduceDiv, Int.reduceTMod, Int.reduceTDiv, Int.reduceToNat, okChain_i, okLoads_nil, okLoads_in, okLoads_eq]
    exact Ok.mk _
theorem unlike (on : Nat → Bool) (ho : on 0 = true) (a b c d m n : Int) (H : Heap) (h : EH on H) : Ok (K 3 [.int .i64 a, .int .i64 b, .int .i64 c, .int .i64 d, .int .i64 m, .int .i64 n] H) := by
  obtain ⟨X0, e0⟩ := firstA_f on H h ho
  obtain ⟨a1, ea1, _, _⟩ := mask a 127 (by decide) (by decide)
  obtain ⟨a2, ea2, _, _⟩ := mask a 65535 (by decide) (by decide)
  obtain ⟨b1, eb1, _, _⟩ := mask b 127 (by decide) (by decide)
  obtain ⟨b2, eb2, _, _⟩ := mask b 65535 (by decide) (by decide)
  obtain ⟨c1, ec1, _, _⟩ := mask c 3 (by decide) (by decide)
  obtain ⟨d1, ed1, _, _⟩ := mask d 7 (by decide) (by decide)
  obtain ⟨m1, em1, _, _⟩ := mask m 511 (by decide) (by decide)
  obtain ⟨n1, en1, _, _⟩ := mask n 511 (by decide) (by decide)
  obtain ⟨ed2, ed3, _, _⟩ := mode5 d1 (by omega) (by omega)
  have hg : GoodP a1 b2 c1 (1 + d1 % 5) m1 := by unfold GoodP; omega
  have hg' : GoodP b1 a2 c1 (1 + d1 % 5) n1 := by unfold GoodP; omega
  have ep : ∀ G, EH on G → _ := fun G hG => putGood_f on a1 b2 c1 (1 + d1 % 5) m1 7 G hG ho hg
  have ep' : ∀ G, EH on G → _ := fun G hG => putGood_f on b1 a2 c1 (1 + d1 % 5) n1 7 G hG ho hg'
  simp only [K] at e0 ep ep'
  obtain ⟨G, hG⟩ : ∃ G, G = H ++ X0 := ⟨_, rfl⟩
  rw [← hG] at e0
  have h2 : EH on G := by rw [hG]; exact h.more _
  rw [K, D_eq p3 _ _ (Nat.le_of_ble_eq_true rfl)]
  simp only [outL] at ep ep'
  simp (maxDischargeDepth := 8) only [r3, b3t, c3_0, c3_1, c3_2, c3_3, c3_4, c3_5, c3_6, c3_7, e0, ea1, ea2, eb1, eb2, ec1, ed1, em1, en1, ed2, ed3, h2, EH_more, ep, ep', RUN, Ed, knd, kndR, resV, binInt, mnmxV, mnmx2, fillL, unV, lenV, extractV, partV, loadAt, Nat.reduceAdd, Nat.reduceBEq, Nat.reduceEqDiff, Nat.reduceLT, Nat.reduceLeDiff, Nat.reduceMul, Nat.reduceSub, reduceIte, Int.reduceEq, Int.reduceNe, Int.reduceLT, Int.reduceLE, Int.reduceAdd, Int.reduceSub, Int.reduceMul, Int.reduceNeg, Int.reduceMod, Int.reduceDiv, Int.reduceTMod, Int.reduceTDiv, Int.reduceToNat, okChain_i, okLoads_nil, okLoads_in, okLoads_eq]
  refine tail3 G.length (G.length + 1) (G.length + 6) (G.length + 11) (G.length + 5) (G.length + 10) _ _ _ _ _ _ _ _ _ _ hg hg' _ _ ?_ ?_ ?_ ?_ ?_ ?_ ?_ ((live_app_len _ _).trans rfl) ((live_app_add _ _ _).trans rfl) ((live_app_add _ _ _).trans rfl) ((live_app_add _ _ _).trans rfl) ((live_app_add _ _ _).trans rfl) ((live_app_add _ _ _).trans rfl)
  all_goals simp (maxDischargeDepth := 8) only [RUN, Ed, knd, kndR, resV, binInt, mnmxV, mnmx2, fillL, unV, lenV, extractV, partV, loadAt, Nat.reduceAdd, Nat.reduceBEq, Nat.reduceEqDiff, Nat.reduceLT, Nat.reduceLeDiff, Nat.reduceMul, Nat.reduceSub, reduceIte, Int.reduceEq, Int.reduceNe, Int.reduceLT, Int.reduceLE, Int.reduceAdd, Int.reduceSub, Int.reduceMul, Int.reduceNeg, Int.reduceMod, Int.reduceDiv, Int.reduceTMod, Int.reduceTDiv, Int.reduceToNat, okChain_i, okLoads_nil, okLoads_in, okLoads_eq]
def sh3 : List Sh := [.int .i64, .int .i64, .int .i64, .int .i64, .int .i64, .int .i64]
theorem unlike_law (H : Heap) (h : EH (fun i => [0].contains i) H) (ls : List (List Value)) (o : OpnAll H sh3 ls) : Ok (K 3 (argsS sh3 ls) H) := by
  obtain ⟨l0, _, rfl, h0, o⟩ := o.uncons
  obtain ⟨l1, _, rfl, h1, o⟩ := o.uncons
  obtain ⟨l2, _, rfl, h2, o⟩ := o.uncons
  obtain ⟨l3, _, rfl, h3, o⟩ := o.uncons
  obtain ⟨l4, _, rfl, h4, o⟩ := o.uncons
  obtain ⟨l5, _, rfl, h5, o⟩ := o.uncons
  cases o.unnil
  simp only [Opn] at h0 h1 h2 h3 h4 h5
  obtain ⟨a, rfl, _⟩ := h0
  obtain ⟨b, rfl, _⟩ := h1
  obtain ⟨c, rfl, _⟩ := h2
  obtain ⟨d, rfl, _⟩ := h3
  obtain ⟨m, rfl, _⟩ := h4
  obtain ⟨n, rfl, _⟩ := h5
  exact unlike _ (by decide) a b c d m n H h
end Go.Proofs.YtdmfedmhcegggaaDoor.Sim
