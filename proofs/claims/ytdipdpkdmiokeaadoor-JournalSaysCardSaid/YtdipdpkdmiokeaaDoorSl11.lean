/- The law of a record's way there and back. -/
import Derived.Test.YtdipdpkdmiokeaaDoorSl10
import Derived.Test.YtdipdpkdmiokeaaDoorSim21
namespace Go.Proofs.YtdipdpkdmiokeaaDoor.Sim
open Go Go.Proofs.YtdipdpkdmiokeaaDoor.CrcMath
set_option linter.unusedSimpArgs false
set_option linter.unusedVariables false
theorem back (s m l a b c d n : Int) (s0 : 0 ≤ s) (s1 : s < 4294967296) (hm1 : -9223372036854775808 ≤ m) (hm2 : m ≤ 9223372036854775807) (hl1 : -9223372036854775808 ≤ l) (hl2 : l ≤ 9223372036854775807) (hn1 : -9223372036854775808 ≤ n) (hn2 : n ≤ 9223372036854775807) (H : Heap) (hE : EH all7 H) : Ok (D Tryd.prog hints 4 [.int .u32 s, .int .i64 m, .int .i64 l, .int .i64 a, .int .i64 b, .int .i64 c, .int .i64 d, .int .i64 n] H) := by
  obtain ⟨X0, e0⟩ := first_f H hE
  obtain ⟨G0, hG0⟩ : ∃ G0, G0 = H ++ X0 := ⟨_, rfl⟩
  rw [← hG0] at e0
  have E0 : EH all7 G0 := hE.ext ⟨_, hG0⟩
  obtain ⟨m1, m2⟩ := mod2 a 1073741825 (by omega) (by omega)
  obtain ⟨m3, m4⟩ := mod2 b 1073741825 (by omega) (by omega)
  obtain ⟨m5, m6⟩ := mod2 c 1073741825 (by omega) (by omega)
  obtain ⟨m7, m8⟩ := mod2 d 1073741825 (by omega) (by omega)
  obtain ⟨lo, hi, a1, a2, a3, f1⟩ := of_f (a % 1073741825) (b % 1073741825) 1073741824 (by omega) (by omega) (by omega) (by omega)
  obtain ⟨lo', hi', b1, b2, b3, f2⟩ := of_f (c % 1073741825) (d % 1073741825) 1073741824 (by omega) (by omega) (by omega) (by omega)
  have n1 := fun F => number_f m 5 F hm1 hm2 (by omega) (by omega)
  have n2 := fun F => number_f l 2097152 F hl1 hl2 (by omega) (by omega)
  have w1 := wrap64 (1 + m % 5) (by omega) (by omega)
  have w2 : IntKind.u32.wrap (l % 2097152) = l % 2097152 := by
    simp [IntKind.wrap, IntKind.bits, IntKind.signed]; omega
  have gd : good ⟨s, 1 + m % 5, l % 2097152, lo, hi, lo', hi'⟩ = true := good_iff.2 (by simp only; omega)
  have wf : (⟨s, 1 + m % 5, l % 2097152, lo, hi, lo', hi'⟩ : Rec).wf := ⟨s0, s1, by simp only; omega⟩
  have key : ∀ ρ G, ρ 17 = .bool true → ρ 21 = .pointer (some ⟨G0.length + 4, 0, none⟩) → ρ 7 = .int .i64 n → G = G0 ++ [some ⟨true, 24, [.int .i64 lo, .int .i64 hi]⟩, some ⟨true, 24, [.int .i64 lo, .int .i64 hi]⟩, some ⟨true, 24, [.int .i64 lo', .int .i64 hi']⟩, some ⟨true, 24, [.int .i64 lo', .int .i64 hi']⟩, some ⟨true, 26, [.int .u32 s, .int .i64 (1 + m % 5), .int .u32 (l % 2097152), .int .i64 lo, .int .i64 hi, .int .i64 lo', .int .i64 hi']⟩] → Ok (done [.tmp 16] (E Tryd.prog hints y4 ρ G)) := by
    intro ρ G q17 q21 q7 hG
    exact key4 _ gd wf ρ G (by rw [hG]; exact E0.more _) _ n hn1 hn2 q17 q21 q7 (by rw [hG]; exact (live_app_add _ _ _).trans rfl)
  rw [D_eq p4 _ _ (Nat.le_of_ble_eq_true rfl)]
  simp (maxDischargeDepth := 8) only [r4, b4t, c4_0, c4_1, c4_2, c4_3, c4_4, c4_5, c4_6, c4_7, e0, m1, m2, m3, m4, m5, m6, m7, m8, f1, f2, n1, n2, w1, w2, fullOf_appG, fullOf_mapG, List.length_map, RUN, Ed, knd, kndR, resV, binInt, mnmxV, mnmx2, fillL, unV, lenV, extractV, partV, loadAt, Nat.reduceAdd, Nat.reduceBEq, Nat.reduceEqDiff, Nat.reduceLT, Nat.reduceLeDiff, Nat.reduceMul, Nat.reduceSub, reduceIte, Int.reduceEq, Int.reduceNe, Int.reduceLT, Int.reduceLE, Int.reduceAdd, Int.reduceSub, Int.reduceMul, Int.reduceNeg, Int.reduceMod, Int.reduceDiv, Int.reduceTMod, Int.reduceTDiv, Int.reduceToNat, okChain_i, okLoads_nil, okLoads_in, okLoads_eq]
  refine key _ _ ?_ ?_ ?_ ?_
  all_goals first | (simp (maxDischargeDepth := 8) only [RUN, Ed, knd, kndR, resV, binInt, mnmxV, mnmx2, fillL, unV, lenV, extractV, partV, loadAt, Nat.reduceAdd, Nat.reduceBEq, Nat.reduceEqDiff, Nat.reduceLT, Nat.reduceLeDiff, Nat.reduceMul, Nat.reduceSub, reduceIte, Int.reduceEq, Int.reduceNe, Int.reduceLT, Int.reduceLE, Int.reduceAdd, Int.reduceSub, Int.reduceMul, Int.reduceNeg, Int.reduceMod, Int.reduceDiv, Int.reduceTMod, Int.reduceTDiv, Int.reduceToNat, okChain_i, okLoads_nil, okLoads_in, okLoads_eq]; done) | (simp (maxDischargeDepth := 8) only [RUN, Ed, knd, kndR, resV, binInt, mnmxV, mnmx2, fillL, unV, lenV, extractV, partV, loadAt, Nat.reduceAdd, Nat.reduceBEq, Nat.reduceEqDiff, Nat.reduceLT, Nat.reduceLeDiff, Nat.reduceMul, Nat.reduceSub, reduceIte, Int.reduceEq, Int.reduceNe, Int.reduceLT, Int.reduceLE, Int.reduceAdd, Int.reduceSub, Int.reduceMul, Int.reduceNeg, Int.reduceMod, Int.reduceDiv, Int.reduceTMod, Int.reduceTDiv, Int.reduceToNat, okChain_i, okLoads_nil, okLoads_in, okLoads_eq]; rfl)
def sh4 : List Sh := [.int .u32, .int .i64, .int .i64, .int .i64, .int .i64, .int .i64, .int .i64, .int .i64]
theorem back_law (H : Heap) (h : EH all7 H) (ls : List (List Value)) (o : OpnAll H sh4 ls) : Ok (D Tryd.prog hints 4 (argsS sh4 ls) H) := by
  obtain ⟨l0, _, rfl, h0, o⟩ := o.uncons
  obtain ⟨l1, _, rfl, h1, o⟩ := o.uncons
  obtain ⟨l2, _, rfl, h2, o⟩ := o.uncons
  obtain ⟨l3, _, rfl, h3, o⟩ := o.uncons
  obtain ⟨l4, _, rfl, h4, o⟩ := o.uncons
  obtain ⟨l5, _, rfl, h5, o⟩ := o.uncons
  obtain ⟨l6, _, rfl, h6, o⟩ := o.uncons
  obtain ⟨l7, _, rfl, h7, o⟩ := o.uncons
  cases o.unnil
  simp only [Opn.eq_1] at h0 h1 h2 h3 h4 h5 h6 h7
  obtain ⟨a, rfl, ha⟩ := h0
  obtain ⟨b, rfl, hb⟩ := h1
  obtain ⟨c, rfl, hc⟩ := h2
  obtain ⟨d, rfl, hd⟩ := h3
  obtain ⟨e, rfl, he⟩ := h4
  obtain ⟨f, rfl, hf⟩ := h5
  obtain ⟨g, rfl, hg⟩ := h6
  obtain ⟨k, rfl, hk⟩ := h7
  exact back a b c d e f g k (wfu32 ha).1 (wfu32 ha).2 (wfi64 hb).1 (wfi64 hb).2 (wfi64 hc).1 (wfi64 hc).2 (wfi64 hk).1 (wfi64 hk).2 H h
end Go.Proofs.YtdipdpkdmiokeaaDoor.Sim
