/- ActBack over the plain heap. -/
import Derived.Test.YtdmfedmhcegggaaDoorAct7
import Derived.Test.YtdmfedmhcegggaaDoorSim21
namespace Go.Proofs.YtdmfedmhcegggaaDoor.Sim
open Go
set_option linter.unusedSimpArgs false
set_option linter.unusedVariables false
theorem readGood_f (s : Int) (v : Value) (c f g m n : Int) (hg : GoodP c f g m n) (G : Heap) (hE : EH all7 G) (hB : BS G v (pb c f g m n)) :
    ∃ X, D Tryd.prog hints 20 [.agg ⟨[.int .u8 96, .int .u8 s, v]⟩] G = some (.tuple ⟨[.agg ⟨outL c f g m n⟩, .nilIface]⟩, G ++ X) := by
  have hq : (0 ≤ c % 256 ∧ c % 256 < 256) ∧ (0 ≤ f / 256 % 256 ∧ f / 256 % 256 < 256) ∧ (0 ≤ f % 256 ∧ f % 256 < 256) ∧ (0 ≤ g % 256 ∧ g % 256 < 256) ∧ (0 ≤ m % 256 ∧ m % 256 < 256) ∧ (0 ≤ n / 256 % 256 ∧ n / 256 % 256 < 256) ∧ (0 ≤ n % 256 ∧ n % 256 < 256) := by omega
  have hb : ∀ b ∈ pb c f g m n, 0 ≤ b ∧ b < 256 := by
    intro b hb
    simp only [pb, List.mem_cons, List.not_mem_nil, or_false] at hb
    omega
  obtain ⟨b0, b1, b2, b3, b4, b5, b6, hBe, q0, q1, q2, q3, q4, q5, q6, i, o, e, ow, ty, cells, rfl, f0, f1, f2, f3, f4, f5, f6, f7⟩ := idx7 hB rfl hb
  have h8 := hg
  unfold GoodP at h8
  simp only [pb, List.cons.injEq] at hBe
  have v0 : b0 = c := by omega
  have v1 : b1 * 256 + b2 = f := by omega
  have v2 : b3 = g := by omega
  have v3 : b4 = m := by omega
  have v4 : b5 * 256 + b6 = n := by omega
  have n7 : ¬ (((7 : Nat) : Int) < 7) := by decide
  have m7 : ¬ ((7 : Int) < ((7 : Nat) : Int)) := by decide
  have i0 := live_lt f0
  have ec := fun X => check_f all7 c f g m n (G ++ X) (hE.more X) rfl
  rw [if_pos hg] at ec
  simp only [K, outL] at ec
  rw [D_eq p20 _ _ (Nat.le_of_ble_eq_true rfl)]
  simp (maxDischargeDepth := 8) only [r20, b20t, h20, c20_0, c20_1, c20_2, c20_4, c20_6, f0, i0, n7, m7, RUN, knd, kndR, resV, binInt, mnmxV, mnmx2, fillL, unV, lenV, extractV, partV, loadAt, Nat.reduceAdd, Nat.reduceBEq, Nat.reduceEqDiff, Nat.reduceLT, Nat.reduceLeDiff, Nat.reduceMul, Nat.reduceSub, reduceIte, Int.reduceEq, Int.reduceNe, Int.reduceLT, Int.reduceLE, Int.reduceAdd, Int.reduceSub, Int.reduceMul, Int.reduceNeg, Int.reduceMod, Int.reduceDiv, Int.reduceTMod, Int.reduceTDiv, Int.reduceToNat, okChain_i, okLoads_nil, okLoads_in, okLoads_eq]
  have key : ∀ (ρ : Fr) (F : Heap), (ρ 4 = .slice (some ⟨i, o, none⟩) 7 e ∧ ρ 2 = .pointer (some ⟨G.length + 1, 0, none⟩) ∧ ∃ Y, F = G ++ [Y, some ⟨true, 24, zeroO⟩]) → ∃ X, done [.cells 2 5, .tmp 3] (andThen (E Tryd.prog hints (.draw c20_8) ρ F) (E Tryd.prog hints t20)) = some (.tuple ⟨[.agg ⟨outL c f g m n⟩, .nilIface]⟩, G ++ X) := by
    rintro ρ F ⟨h4, h2', Y, rfl⟩
    obtain ⟨ρ', e1, e2, e5⟩ := reg20 (G ++ [Y, some ⟨true, 24, zeroO⟩]) i o e ow ty cells b0 b1 b2 b3 b4 b5 b6 q0 q1 q2 q3 q4 q5 q6 (live_more0 f0 _) f1 f2 f3 f4 f5 f6 f7 ρ h4
    rw [v0, v1, v2, v3, v4] at e1
    rw [e1, h2'] at *
    simp only [List.length_append, List.length_cons, List.length_nil, Nat.zero_add, Nat.reduceAdd] at e5
    refine ⟨?X5, ?run5⟩
    case run5 =>
      simp (maxDischargeDepth := 8) only [andThen_n, t20, c20_9, c20_10, c20_11, c20_12, zeroO, outL, e2, e5, ec, EV, RUN, Ed, knd, kndR, resV, binInt, mnmxV, mnmx2, fillL, unV, lenV, extractV, partV, loadAt, Nat.reduceAdd, Nat.reduceBEq, Nat.reduceEqDiff, Nat.reduceLT, Nat.reduceLeDiff, Nat.reduceMul, Nat.reduceSub, reduceIte, Int.reduceEq, Int.reduceNe, Int.reduceLT, Int.reduceLE, Int.reduceAdd, Int.reduceSub, Int.reduceMul, Int.reduceNeg, Int.reduceMod, Int.reduceDiv, Int.reduceTMod, Int.reduceTDiv, Int.reduceToNat, okChain_i, okLoads_nil, okLoads_in, okLoads_eq]
      rfl
  refine key _ _ ⟨?_, ?_, _, rfl⟩
  · simp (maxDischargeDepth := 8) only [RUN, Ed, knd, kndR, resV, binInt, mnmxV, mnmx2, fillL, unV, lenV, extractV, partV, loadAt, Nat.reduceAdd, Nat.reduceBEq, Nat.reduceEqDiff, Nat.reduceLT, Nat.reduceLeDiff, Nat.reduceMul, Nat.reduceSub, reduceIte, Int.reduceEq, Int.reduceNe, Int.reduceLT, Int.reduceLE, Int.reduceAdd, Int.reduceSub, Int.reduceMul, Int.reduceNeg, Int.reduceMod, Int.reduceDiv, Int.reduceTMod, Int.reduceTDiv, Int.reduceToNat, okChain_i, okLoads_nil, okLoads_in, okLoads_eq]
  · simp (maxDischargeDepth := 8) only [RUN, Ed, knd, kndR, resV, binInt, mnmxV, mnmx2, fillL, unV, lenV, extractV, partV, loadAt, Nat.reduceAdd, Nat.reduceBEq, Nat.reduceEqDiff, Nat.reduceLT, Nat.reduceLeDiff, Nat.reduceMul, Nat.reduceSub, reduceIte, Int.reduceEq, Int.reduceNe, Int.reduceLT, Int.reduceLE, Int.reduceAdd, Int.reduceSub, Int.reduceMul, Int.reduceNeg, Int.reduceMod, Int.reduceDiv, Int.reduceTMod, Int.reduceTDiv, Int.reduceToNat, okChain_i, okLoads_nil, okLoads_in, okLoads_eq]
theorem readLong_f (s : Int) (v : Value) (B : List Int) (hl : 7 < B.length) (G : Heap) (hE : EH all7 G) (hB : BS G v B) :
    ∃ X, D Tryd.prog hints 20 [.agg ⟨[.int .u8 96, .int .u8 s, v]⟩] G = some (.tuple ⟨[.agg ⟨outL 0 0 0 0 0⟩, Err 1]⟩, G ++ X) := by
  have h1 : ¬ ((B.length : Int) < 7) := by omega
  have h2 : (7 : Int) < (B.length : Int) := by omega
  have l := hB.len
  obtain ⟨o1, o2⟩ := hB.one
  obtain ⟨t0, e0⟩ := hE 1 (by omega) rfl
  have i0 := live_lt e0
  refine ⟨?X3, ?run3⟩
  case run3 =>
    rw [D_eq p20 _ _ (Nat.le_of_ble_eq_true rfl)]
    simp (maxDischargeDepth := 8) only [r20, b20, c20_0, c20_1, c20_2, c20_3, c20_4, c20_5, c20_6, c20_7, outL, l, o1, o2, e0, i0, g2, h1, h2, RUN, Ed, knd, kndR, resV, binInt, mnmxV, mnmx2, fillL, unV, extractV, partV, loadAt, Nat.reduceAdd, Nat.reduceBEq, Nat.reduceEqDiff, Nat.reduceLT, Nat.reduceLeDiff, Nat.reduceMul, Nat.reduceSub, reduceIte, Int.reduceEq, Int.reduceNe, Int.reduceLT, Int.reduceLE, Int.reduceAdd, Int.reduceSub, Int.reduceMul, Int.reduceNeg, Int.reduceMod, Int.reduceDiv, Int.reduceTMod, Int.reduceTDiv, Int.reduceToNat, okChain_i, okLoads_nil, okLoads_in, okLoads_eq]
    rfl
theorem live_at {A X : Heap} {n : Nat} (h : A.length = n) (k : Nat) : live (A ++ X) (n + k) = live X k := by subst h; exact live_app_add A X k
def t6d : RCode := .seq (.region c6_9) .ret
def t6c : RCode := .seq (.region c6_8) t6d
def t6b : RCode := .seq (.region c6_7) t6c
def t6a : RCode := .seq (.region c6_6) t6b
theorem b6t : b6 = .seq (.region c6_0) (.seq (.region c6_1) (.seq (.seq (.region c6_2) (.cond (.tmp 23) (.seq (.region c6_3) .ret) .skip)) (.seq (.region c6_4) (.seq (.region c6_5) t6a)))) := (rfl)
structure S6 (p14 p15 : Nat) (s : Int) (ρ : Fr) : Prop where
  r5 : ρ 5 = .int .u8 s
  r13 : ρ 13 = .bool true
  r14 : ρ 14 = .pointer (some ⟨p14, 0, none⟩)
  r15 : ρ 15 = .pointer (some ⟨p15, 0, none⟩)
  r16 : ρ 16 = .nilIface
theorem tail6d (p14 p15 p17 : Nat) (c f g m n s : Int) (v : Value) (ρ : Fr) (F : Heap) (hs : S6 p14 p15 s ρ) (r17 : ρ 17 = .pointer (some ⟨p17, 0, none⟩)) (r18 : ρ 18 = .nilIface) (r20 : ρ 20 = Err 1) (hE : EH all7 F)
    (k14 : live F p14 = some ⟨true, 24, outL c f g m n⟩) (k15 : live F p15 = some ⟨true, 27, [.int .u8 96, .int .u8 s, v]⟩) (k17 : live F p17 = some ⟨true, 24, outL c f g m n⟩) : Ok (done [.tmp 12] (E Tryd.prog hints t6d ρ F)) := by
  obtain ⟨r5, r13, r14, r15, r16⟩ := hs
  have i14 := live_lt k14
  have i15 := live_lt k15
  have i17 := live_lt k17
  obtain ⟨XI, eIn, eIE, eI⟩ := is_rules
  have eI1 : ∀ G, EH all7 G → D Tryd.prog hints 17 [Err 1, .int .i64 102] G = some (.bool true, G ++ XI (some 1) 102 G) := fun G hG => eIE 1 (by omega) G hG
  have e2 := fun G => sameOut_f c f g m n c f g m n G
  rw [show decide (c = c ∧ f = f ∧ g = g ∧ m = m ∧ n = n) = true by simp] at e2
  simp only [K] at e2
  simp (maxDischargeDepth := 8) only [t6d, c6_9, r5, r13, r14, r15, r16, r17, r18, r20, k14, k15, k17, i14, i15, i17, hE, EH_more, e2, eI1, outL_len, outL_take, same_nn, RUN, Ed, knd, kndR, resV, binInt, mnmxV, mnmx2, fillL, unV, lenV, extractV, partV, loadAt, Nat.reduceAdd, Nat.reduceBEq, Nat.reduceEqDiff, Nat.reduceLT, Nat.reduceLeDiff, Nat.reduceMul, Nat.reduceSub, reduceIte, Int.reduceEq, Int.reduceNe, Int.reduceLT, Int.reduceLE, Int.reduceAdd, Int.reduceSub, Int.reduceMul, Int.reduceNeg, Int.reduceMod, Int.reduceDiv, Int.reduceTMod, Int.reduceTDiv, Int.reduceToNat, okChain_i, okLoads_nil, okLoads_in, okLoads_eq]
  exact Ok.mk _
theorem tail6c (p14 p15 p17 : Nat) (c f g m n s : Int) (v : Value) (B : List Int) (hl : 7 < B.length) (ρ : Fr) (F : Heap) (hs : S6 p14 p15 s ρ) (r17 : ρ 17 = .pointer (some ⟨p17, 0, none⟩)) (r18 : ρ 18 = .nilIface) (hE : EH all7 F) (hB : BS F v B)
    (k14 : live F p14 = some ⟨true, 24, outL c f g m n⟩) (k15 : live F p15 = some ⟨true, 27, [.int .u8 96, .int .u8 s, v]⟩) (k17 : live F p17 = some ⟨true, 24, outL c f g m n⟩) : Ok (done [.tmp 12] (E Tryd.prog hints t6c ρ F)) := by
  obtain ⟨r5, r13, r14, r15, r16⟩ := hs
  have i15 := live_lt k15
  obtain ⟨X, e1⟩ := readLong_f s v B hl F hE hB
  obtain ⟨o1, o2⟩ := hB.one
  simp (maxDischargeDepth := 8) only [t6c, c6_8, r15, k15, i15, e1, o1, o2, outL_len, outL_take, outL_drop, outL_one, RUN, Ed, knd, kndR, resV, binInt, mnmxV, mnmx2, fillL, unV, lenV, extractV, partV, loadAt, Nat.reduceAdd, Nat.reduceBEq, Nat.reduceEqDiff, Nat.reduceLT, Nat.reduceLeDiff, Nat.reduceMul, Nat.reduceSub, reduceIte, Int.reduceEq, Int.reduceNe, Int.reduceLT, Int.reduceLE, Int.reduceAdd, Int.reduceSub, Int.reduceMul, Int.reduceNeg, Int.reduceMod, Int.reduceDiv, Int.reduceTMod, Int.reduceTDiv, Int.reduceToNat, okChain_i, okLoads_nil, okLoads_in, okLoads_eq]
  refine tail6d p14 p15 p17 c f g m n s v _ _ ⟨?_, ?_, ?_, ?_, ?_⟩ ?_ ?_ ?_ (hE.more _) (live_more0 k14 _) (live_more0 k15 _) (live_more0 k17 _)
  all_goals simp (maxDischargeDepth := 8) only [r5, r13, r14, r15, r16, r17, r18, RUN, Ed, knd, kndR, resV, binInt, mnmxV, mnmx2, fillL, unV, lenV, extractV, partV, loadAt, Nat.reduceAdd, Nat.reduceBEq, Nat.reduceEqDiff, Nat.reduceLT, Nat.reduceLeDiff, Nat.reduceMul, Nat.reduceSub, reduceIte, Int.reduceEq, Int.reduceNe, Int.reduceLT, Int.reduceLE, Int.reduceAdd, Int.reduceSub, Int.reduceMul, Int.reduceNeg, Int.reduceMod, Int.reduceDiv, Int.reduceTMod, Int.reduceTDiv, Int.reduceToNat, okChain_i, okLoads_nil, okLoads_in, okLoads_eq]
theorem tail6b (p14 p15 p17 : Nat) (c f g m n s : Int) (v : Value) (h57 : 7 ≤ p15) (h45 : p14 ≠ p15) (h75 : p17 ≠ p15) (ρ : Fr) (F : Heap) (hs : S6 p14 p15 s ρ) (r17 : ρ 17 = .pointer (some ⟨p17, 0, none⟩)) (r18 : ρ 18 = .nilIface) (hE : EH all7 F) (hB : BS F v (pb c f g m n))
    (k14 : live F p14 = some ⟨true, 24, outL c f g m n⟩) (k15 : live F p15 = some ⟨true, 27, [.int .u8 96, .int .u8 s, v]⟩) (k17 : live F p17 = some ⟨true, 24, outL c f g m n⟩) : Ok (done [.tmp 12] (E Tryd.prog hints t6b ρ F)) := by
  obtain ⟨r5, r13, r14, r15, r16⟩ := hs
  have i14 := live_lt k14
  have i15 := live_lt k15
  have i17 := live_lt k17
  obtain ⟨X, cc, e1, hc, h5⟩ := bytes_f F v _ hB (by simp [pb])
  obtain ⟨o1, o2⟩ := hB.one
  have ic := live_lt h5
  have ea := append_consG (ty := 5) (esz := 1) (bytes := 1) (H := (F ++ X) ++ [some ⟨true, 5, [.int .u8 0]⟩]) (i := cc) (n := 7) (j := (F ++ X).length) (m := 1) (e := 1) (o := true) (t := 5) (cs := [.int .u8 0]) (ds := bL (pb c f g m n)) (live_more0 h5 _) rfl (by rw [live_app_len]; rfl) (by omega) (by simp) (by omega) (by rfl)
  obtain ⟨Z, hZ⟩ := set_more (X := X) hc none
  have hZl : X.length = Z.length := by have := congrArg List.length hZ; simpa using this
  rw [show ([Value.int .u8 0]).take (1 * 1) = bL [0] from rfl, ← bL_app, set_app _ _ _ _ ic, hZ] at ea
  simp only [List.length_append, List.length_cons, List.length_nil, Nat.zero_add, List.append_assoc, List.cons_append, List.nil_append] at ea
  have hp7 : (pb c f g m n).length = 7 := rfl
  rw [hp7] at e1
  simp (maxDischargeDepth := 8) only [t6b, c6_7, r15, k15, i15, e1, o1, o2, ea, set_app, RUN, Ed, knd, kndR, resV, binInt, mnmxV, mnmx2, fillL, unV, lenV, extractV, partV, loadAt, Nat.reduceAdd, Nat.reduceBEq, Nat.reduceEqDiff, Nat.reduceLT, Nat.reduceLeDiff, Nat.reduceMul, Nat.reduceSub, reduceIte, Int.reduceEq, Int.reduceNe, Int.reduceLT, Int.reduceLE, Int.reduceAdd, Int.reduceSub, Int.reduceMul, Int.reduceNeg, Int.reduceMod, Int.reduceDiv, Int.reduceTMod, Int.reduceTDiv, Int.reduceToNat, okChain_i, okLoads_nil, okLoads_in, okLoads_eq]
  refine tail6c p14 p15 p17 c f g m n s (.slice (some ⟨F.length + (X.length + 1), 0, none⟩) 8 1) (pb c f g m n ++ [0]) (by simp [pb]) _ _ ⟨?_, ?_, ?_, ?_, ?_⟩ ?_ ?_ ((hE.set _ _ h57).more _) ?_ ?_ ?_ ?_
  all_goals first | (simp (maxDischargeDepth := 8) only [r5, r13, r14, r15, r16, r17, r18, RUN, Ed, knd, kndR, resV, binInt, mnmxV, mnmx2, fillL, unV, lenV, extractV, partV, loadAt, Nat.reduceAdd, Nat.reduceBEq, Nat.reduceEqDiff, Nat.reduceLT, Nat.reduceLeDiff, Nat.reduceMul, Nat.reduceSub, reduceIte, Int.reduceEq, Int.reduceNe, Int.reduceLT, Int.reduceLE, Int.reduceAdd, Int.reduceSub, Int.reduceMul, Int.reduceNeg, Int.reduceMod, Int.reduceDiv, Int.reduceTMod, Int.reduceTDiv, Int.reduceToNat, okChain_i, okLoads_nil, okLoads_in, okLoads_eq]; done) | skip
  · refine BS.blk (e := 1) (l := pb c f g m n ++ [0]) (ow := true) (ty := 5) ?_
    rw [hZl]
    refine (live_at (by simp) _).trans ((live_app_add _ _ _).trans rfl)
  · exact live_more0 (by rw [live_set_ne _ _ _ _ h45.symm]; exact k14) _
  · exact live_more0 (live_set_eq _ _ _ i15) _
  · exact live_more0 (by rw [live_set_ne _ _ _ _ h75.symm]; exact k17) _
theorem tail6a (p14 p15 : Nat) (c f g m n s : Int) (hg : GoodP c f g m n) (v : Value) (h57 : 7 ≤ p15) (h45 : p14 ≠ p15) (ρ : Fr) (F : Heap) (hs : S6 p14 p15 s ρ) (hE : EH all7 F) (hB : BS F v (pb c f g m n))
    (k14 : live F p14 = some ⟨true, 24, outL c f g m n⟩) (k15 : live F p15 = some ⟨true, 27, [.int .u8 96, .int .u8 s, v]⟩) : Ok (done [.tmp 12] (E Tryd.prog hints t6a ρ F)) := by
  obtain ⟨r5, r13, r14, r15, r16⟩ := hs
  have i15 := live_lt k15
  obtain ⟨X, e1⟩ := readGood_f s v c f g m n hg F hE hB
  obtain ⟨o1, o2⟩ := hB.one
  simp (maxDischargeDepth := 8) only [t6a, c6_6, r15, k15, i15, e1, o1, o2, outL_len, outL_take, outL_drop, outL_one, RUN, Ed, knd, kndR, resV, binInt, mnmxV, mnmx2, fillL, unV, lenV, extractV, partV, loadAt, Nat.reduceAdd, Nat.reduceBEq, Nat.reduceEqDiff, Nat.reduceLT, Nat.reduceLeDiff, Nat.reduceMul, Nat.reduceSub, reduceIte, Int.reduceEq, Int.reduceNe, Int.reduceLT, Int.reduceLE, Int.reduceAdd, Int.reduceSub, Int.reduceMul, Int.reduceNeg, Int.reduceMod, Int.reduceDiv, Int.reduceTMod, Int.reduceTDiv, Int.reduceToNat, okChain_i, okLoads_nil, okLoads_in, okLoads_eq]
  refine tail6b p14 p15 (F.length + X.length) c f g m n s v h57 h45 (by omega) _ _ ⟨?_, ?_, ?_, ?_, ?_⟩ ?_ ?_ (hE.more _) (hB.more _) (live_more0 k14 _) (live_more0 k15 _) (by rw [live_app_add, live_app_len]; rfl)
  all_goals simp (maxDischargeDepth := 8) only [r5, r13, r14, r15, r16, RUN, Ed, knd, kndR, resV, binInt, mnmxV, mnmx2, fillL, unV, lenV, extractV, partV, loadAt, Nat.reduceAdd, Nat.reduceBEq, Nat.reduceEqDiff, Nat.reduceLT, Nat.reduceLeDiff, Nat.reduceMul, Nat.reduceSub, reduceIte, Int.reduceEq, Int.reduceNe, Int.reduceLT, Int.reduceLE, Int.reduceAdd, Int.reduceSub, Int.reduceMul, Int.reduceNeg, Int.reduceMod, Int.reduceDiv, Int.reduceTMod, Int.reduceTDiv, Int.reduceToNat, okChain_i, okLoads_nil, okLoads_in, okLoads_eq]
theorem back (a b c d e s : Int) (H : Heap) (h : EH all7 H) : Ok (K 6 [.int .i64 a, .int .i64 b, .int .i64 c, .int .i64 d, .int .i64 e, .int .u8 s] H) := by
  obtain ⟨X0, e0⟩ := firstA_f all7 H h rfl
  obtain ⟨a1, ea1, _, _⟩ := mask a 127 (by decide) (by decide)
  obtain ⟨b2, eb2, _, _⟩ := mask b 65535 (by decide) (by decide)
  obtain ⟨c1, ec1, _, _⟩ := mask c 3 (by decide) (by decide)
  obtain ⟨d1, ed1, _, _⟩ := mask d 255 (by decide) (by decide)
  obtain ⟨e1, em1, _, _⟩ := mask e 511 (by decide) (by decide)
  obtain ⟨ed2, ed3, _, _⟩ := mode5 d1 (by omega) (by omega)
  have hg : GoodP a1 b2 c1 (1 + d1 % 5) e1 := by unfold GoodP; omega
  have ep : ∀ G, EH all7 G → _ := fun G hG => putGood_f all7 a1 b2 c1 (1 + d1 % 5) e1 s G hG rfl hg
  simp only [K] at e0 ep
  obtain ⟨G, hG⟩ : ∃ G, G = H ++ X0 := ⟨_, rfl⟩
  rw [← hG] at e0
  have h2 : EH all7 G := by rw [hG]; exact h.more _
  obtain ⟨t6, hE6⟩ := h2 6 (by omega) rfl
  have hl7 := live_lt hE6
  rw [K, D_eq p6 _ _ (Nat.le_of_ble_eq_true rfl)]
  simp only [outL] at ep
  simp (maxDischargeDepth := 8) only [r6, b6t, c6_0, c6_1, c6_2, c6_3, c6_4, c6_5, e0, ea1, eb2, ec1, ed1, em1, ed2, ed3, h2, EH_more, ep, RUN, Ed, knd, kndR, resV, binInt, mnmxV, mnmx2, fillL, unV, lenV, extractV, partV, loadAt, Nat.reduceAdd, Nat.reduceBEq, Nat.reduceEqDiff, Nat.reduceLT, Nat.reduceLeDiff, Nat.reduceMul, Nat.reduceSub, reduceIte, Int.reduceEq, Int.reduceNe, Int.reduceLT, Int.reduceLE, Int.reduceAdd, Int.reduceSub, Int.reduceMul, Int.reduceNeg, Int.reduceMod, Int.reduceDiv, Int.reduceTMod, Int.reduceTDiv, Int.reduceToNat, okChain_i, okLoads_nil, okLoads_in, okLoads_eq]
  have hk : ∀ F, live F (G.length + 4) = some ⟨true, 5, bL (pb a1 b2 c1 (1 + d1 % 5) e1)⟩ → BS F (.slice (some ⟨G.length + 4, 0, none⟩) 7 1) (pb a1 b2 c1 (1 + d1 % 5) e1) := fun F hF => BS.blk (e := 1) hF
  refine tail6a G.length (G.length + 5) _ _ _ _ _ s hg (.slice (some ⟨G.length + 4, 0, none⟩) 7 1) (by omega) (by omega) _ _ ⟨?_, ?_, ?_, ?_, ?_⟩ (h2.more _) (hk _ ((live_app_add _ _ _).trans rfl)) ((live_app_len _ _).trans rfl) ((live_app_add _ _ _).trans rfl)
  all_goals simp (maxDischargeDepth := 8) only [RUN, Ed, knd, kndR, resV, binInt, mnmxV, mnmx2, fillL, unV, lenV, extractV, partV, loadAt, Nat.reduceAdd, Nat.reduceBEq, Nat.reduceEqDiff, Nat.reduceLT, Nat.reduceLeDiff, Nat.reduceMul, Nat.reduceSub, reduceIte, Int.reduceEq, Int.reduceNe, Int.reduceLT, Int.reduceLE, Int.reduceAdd, Int.reduceSub, Int.reduceMul, Int.reduceNeg, Int.reduceMod, Int.reduceDiv, Int.reduceTMod, Int.reduceTDiv, Int.reduceToNat, okChain_i, okLoads_nil, okLoads_in, okLoads_eq]
def sh6 : List Sh := [.int .i64, .int .i64, .int .i64, .int .i64, .int .i64, .int .u8]
theorem back_law (H : Heap) (h : EH all7 H) (ls : List (List Value)) (o : OpnAll H sh6 ls) : Ok (K 6 (argsS sh6 ls) H) := by
  obtain ⟨l0, _, rfl, h0, o⟩ := o.uncons
  obtain ⟨l1, _, rfl, h1, o⟩ := o.uncons
  obtain ⟨l2, _, rfl, h2, o⟩ := o.uncons
  obtain ⟨l3, _, rfl, h3, o⟩ := o.uncons
  obtain ⟨l4, _, rfl, h4, o⟩ := o.uncons
  obtain ⟨l5, _, rfl, h5, o⟩ := o.uncons
  cases o.unnil
  simp only [Opn] at h0 h1 h2 h3 h4 h5
  obtain ⟨a, rfl, _⟩ := h0
  obtain ⟨b, rfl, _⟩ := h1
  obtain ⟨c, rfl, _⟩ := h2
  obtain ⟨d, rfl, _⟩ := h3
  obtain ⟨m, rfl, _⟩ := h4
  obtain ⟨n, rfl, _⟩ := h5
  exact back a b c d m n H h
end Go.Proofs.YtdmfedmhcegggaaDoor.Sim
