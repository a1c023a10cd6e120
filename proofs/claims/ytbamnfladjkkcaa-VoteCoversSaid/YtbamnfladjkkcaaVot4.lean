/- The votes of chapter 4 over the plain heap: the document's cover. -/
import Derived.Test.YtbamnfladjkkcaaVot3
import Derived.Test.YtbamnfladjkkcaaSim21
namespace Go.Proofs.Ytbamnfladjkkcaa.Sim
open Go
set_option linter.unusedSimpArgs false
set_option linter.unusedVariables false
structure C38 (v : Value) (m : Int) (p q : Nat) (f : Bool) (j : Nat) (ρ : Fr) : Prop where
  q0 : ρ 0 = .int .i64 m
  q1 : ρ 1 = v
  q4 : ρ 4 = .pointer (some ⟨q, 0, none⟩)
  q6 : ρ 6 = .pointer (some ⟨p, 0, none⟩)
  q7 : ρ 7 = .bool f
  q8 : ρ 8 = .int .i64 j
theorem M37.live2 {H : Heap} {p q : Nat} {o : Sp} {G : Heap} (h : M37 H p q o G) {e : Nat} {B : Blk} (he : live G e = some B) (hne : p ≠ e) (y : Option Blk) : live (G.set p y) e = some B := by rw [live_set_ne _ _ _ _ hne]; exact he
theorem round38 (H : Heap) (v : Value) (L : List Sp) (hL : L.length ≤ 1000) (hS : SS H v L) (m : Int) (p q e : Nat) (hpe : p ≠ e) (j : Nat) (a b x : Int) (i : Nat) (hi : i < 2) (hx : [Value.int .i64 a, Value.int .i64 b][i]? = some (.int .i64 x)) (st : Sp × Bool) (ρ : Fr) (G : Heap)
    (hs : C38 v m p q st.2 j ρ) (r9 : ρ 9 = .pointer (some ⟨e, 0, none⟩)) (r10 : ρ 10 = .int .i64 i) (hm : M37 H p q st.1 G) (he : live G e = some ⟨true, 92, [.int .i64 a, .int .i64 b]⟩) :
    ∃ ρ' G', E Try.prog hints l38_0 ρ G = some (.normal, ρ', G') ∧ C38 v m p q (addE L m st x).2 j ρ' ∧ ρ' 9 = .pointer (some ⟨e, 0, none⟩) ∧ ρ' 10 = .int .i64 (i + 1 : Nat) ∧ M37 H p q (addE L m st x).1 G' ∧ live G' e = some ⟨true, 92, [.int .i64 a, .int .i64 b]⟩ := by
  obtain ⟨q0, q1, q4, q6, q7, q8⟩ := hs
  have hlt : (i : Int) < 2 := by omega
  have w := wrap64 ((i : Int) + 1) (by omega) (by omega)
  obtain ⟨X, ec⟩ := in_f v L hL x G (hS.ext hm.ext)
  have hcast : ((i : Int) + 1) = ((i + 1 : Nat) : Int) := by omega
  rw [hcast] at w
  obtain ⟨o, f⟩ := st
  simp only at q7 hm
  have ip := live_lt hm.kp
  have ie := live_lt he
  have ix : idxAV 2 1 (.pointer (some ⟨e, 0, none⟩)) (.int .i64 i) = some (.pointer (some ⟨e, i, none⟩)) := by rw [idxA_s _ _ _ _ _ _ (by omega) (by omega)]; simp
  by_cases hc : (cnt L x : Int) < m
  · have ee : addE L m (o, f) x = (o, f) := if_pos hc
    rw [ee]
    refine ⟨?ρ1, ?G1, ?run1, ⟨?_, ?_, ?_, ?_, ?_, ?_⟩, ?_, ?_, ?inv1, ?inv1b⟩
    case run1 =>
      simp (maxDischargeDepth := 8) only [l38_0, c38_0, c38_1, c38_2, c38_3, c38_4, c38_5, c38_6, c38_7, c38_8, c38_9, c38_10, c38_11, c38_12, c38_13, c38_14, c38_15, c38_16, q0, q1, q4, q6, q7, q8, r9, r10, hlt, ix, he, ie, hx, ec, maxE, hc, hcast, w, RUN, Ed, knd, kndR, resV, binInt, mnmxV, mnmx2, fillL, unV, lenV, extractV, partV, loadAt, Nat.reduceAdd, Nat.reduceBEq, Nat.reduceEqDiff, Nat.reduceLT, Nat.reduceLeDiff, Nat.reduceMul, Nat.reduceSub, reduceIte, Int.reduceEq, Int.reduceNe, Int.reduceLT, Int.reduceLE, Int.reduceAdd, Int.reduceSub, Int.reduceMul, Int.reduceNeg, Int.reduceMod, Int.reduceDiv, Int.reduceTMod, Int.reduceTDiv, Int.reduceToNat, okChain_i, okLoads_nil, okLoads_in, okLoads_eq]
      rfl
    case inv1 => exact hm.app X
    case inv1b => exact live_more0 he X
    all_goals first | (simp (maxDischargeDepth := 8) only [q0, q1, q4, q6, q7, q8, r9, RUN, Ed, knd, kndR, resV, binInt, mnmxV, mnmx2, fillL, unV, lenV, extractV, partV, loadAt, Nat.reduceAdd, Nat.reduceBEq, Nat.reduceEqDiff, Nat.reduceLT, Nat.reduceLeDiff, Nat.reduceMul, Nat.reduceSub, reduceIte, Int.reduceEq, Int.reduceNe, Int.reduceLT, Int.reduceLE, Int.reduceAdd, Int.reduceSub, Int.reduceMul, Int.reduceNeg, Int.reduceMod, Int.reduceDiv, Int.reduceTMod, Int.reduceTDiv, Int.reduceToNat, okChain_i, okLoads_nil, okLoads_in, okLoads_eq]; done) | (simp (maxDischargeDepth := 8) only [q0, q1, q4, q6, q7, q8, r9, RUN, Ed, knd, kndR, resV, binInt, mnmxV, mnmx2, fillL, unV, lenV, extractV, partV, loadAt, Nat.reduceAdd, Nat.reduceBEq, Nat.reduceEqDiff, Nat.reduceLT, Nat.reduceLeDiff, Nat.reduceMul, Nat.reduceSub, reduceIte, Int.reduceEq, Int.reduceNe, Int.reduceLT, Int.reduceLE, Int.reduceAdd, Int.reduceSub, Int.reduceMul, Int.reduceNeg, Int.reduceMod, Int.reduceDiv, Int.reduceTMod, Int.reduceTDiv, Int.reduceToNat, okChain_i, okLoads_nil, okLoads_in, okLoads_eq]; rfl)
  · have kp' : live (G ++ X) p = some ⟨true, 65, sL o⟩ := live_more0 hm.kp X
    have ip' := live_lt kp'
    have he' : live (G ++ X) e = some ⟨true, 92, [.int .i64 a, .int .i64 b]⟩ := live_more0 he X
    have ie' := live_lt he'
    have hm' := hm.app X
    generalize G ++ X = F at *
    have hb : [Value.int .i64 x, Value.int .i64 x] = sL (x, x) := rfl
    cases f
    · have ee : addE L m (o, false) x = (hull (x, x) (x, x), true) := if_neg hc
      have e55 := fun F => hull2_f (x, x) (x, x) F
      rw [ee]
      refine ⟨?ρ2, ?G2, ?run2, ⟨?_, ?_, ?_, ?_, ?_, ?_⟩, ?_, ?_, ?inv2, ?inv2b⟩
      case run2 =>
        simp (maxDischargeDepth := 8) only [l38_0, c38_0, c38_1, c38_2, c38_3, c38_4, c38_5, c38_6, c38_7, c38_8, c38_9, c38_10, c38_11, c38_12, c38_13, c38_14, c38_15, c38_16, q0, q1, q4, q6, q7, q8, r9, r10, hlt, ix, he, ie, hx, ec, maxE, hc, hcast, w, e55, kp', ip', he', ie', hpe, hpe.symm, hb, sL_len, sL_one, sL_take, sL_put, RUN, Ed, knd, kndR, resV, binInt, mnmxV, mnmx2, fillL, unV, lenV, extractV, partV, loadAt, Nat.reduceAdd, Nat.reduceBEq, Nat.reduceEqDiff, Nat.reduceLT, Nat.reduceLeDiff, Nat.reduceMul, Nat.reduceSub, reduceIte, Int.reduceEq, Int.reduceNe, Int.reduceLT, Int.reduceLE, Int.reduceAdd, Int.reduceSub, Int.reduceMul, Int.reduceNeg, Int.reduceMod, Int.reduceDiv, Int.reduceTMod, Int.reduceTDiv, Int.reduceToNat, okChain_i, okLoads_nil, okLoads_in, okLoads_eq]
        rfl
      case inv2 => exact (hm'.put _).app _
      case inv2b => exact live_more0 (hm'.live2 he' hpe _) _
      all_goals first | (simp (maxDischargeDepth := 8) only [q0, q1, q4, q6, q7, q8, r9, RUN, Ed, knd, kndR, resV, binInt, mnmxV, mnmx2, fillL, unV, lenV, extractV, partV, loadAt, Nat.reduceAdd, Nat.reduceBEq, Nat.reduceEqDiff, Nat.reduceLT, Nat.reduceLeDiff, Nat.reduceMul, Nat.reduceSub, reduceIte, Int.reduceEq, Int.reduceNe, Int.reduceLT, Int.reduceLE, Int.reduceAdd, Int.reduceSub, Int.reduceMul, Int.reduceNeg, Int.reduceMod, Int.reduceDiv, Int.reduceTMod, Int.reduceTDiv, Int.reduceToNat, okChain_i, okLoads_nil, okLoads_in, okLoads_eq]; done) | (simp (maxDischargeDepth := 8) only [q0, q1, q4, q6, q7, q8, r9, RUN, Ed, knd, kndR, resV, binInt, mnmxV, mnmx2, fillL, unV, lenV, extractV, partV, loadAt, Nat.reduceAdd, Nat.reduceBEq, Nat.reduceEqDiff, Nat.reduceLT, Nat.reduceLeDiff, Nat.reduceMul, Nat.reduceSub, reduceIte, Int.reduceEq, Int.reduceNe, Int.reduceLT, Int.reduceLE, Int.reduceAdd, Int.reduceSub, Int.reduceMul, Int.reduceNeg, Int.reduceMod, Int.reduceDiv, Int.reduceTMod, Int.reduceTDiv, Int.reduceToNat, okChain_i, okLoads_nil, okLoads_in, okLoads_eq]; rfl)
    · have ee : addE L m (o, true) x = (hull o (x, x), true) := if_neg hc
      have e55 := fun F => hull2_f o (x, x) F
      rw [ee]
      refine ⟨?ρ3, ?G3, ?run3, ⟨?_, ?_, ?_, ?_, ?_, ?_⟩, ?_, ?_, ?inv3, ?inv3b⟩
      case run3 =>
        simp (maxDischargeDepth := 8) only [l38_0, c38_0, c38_1, c38_2, c38_3, c38_4, c38_5, c38_6, c38_7, c38_8, c38_9, c38_10, c38_11, c38_12, c38_13, c38_14, c38_15, c38_16, q0, q1, q4, q6, q7, q8, r9, r10, hlt, ix, he, ie, hx, ec, maxE, hc, hcast, w, e55, kp', ip', he', ie', hpe, hpe.symm, hb, sL_len, sL_one, sL_take, sL_put, RUN, Ed, knd, kndR, resV, binInt, mnmxV, mnmx2, fillL, unV, lenV, extractV, partV, loadAt, Nat.reduceAdd, Nat.reduceBEq, Nat.reduceEqDiff, Nat.reduceLT, Nat.reduceLeDiff, Nat.reduceMul, Nat.reduceSub, reduceIte, Int.reduceEq, Int.reduceNe, Int.reduceLT, Int.reduceLE, Int.reduceAdd, Int.reduceSub, Int.reduceMul, Int.reduceNeg, Int.reduceMod, Int.reduceDiv, Int.reduceTMod, Int.reduceTDiv, Int.reduceToNat, okChain_i, okLoads_nil, okLoads_in, okLoads_eq]
        rfl
      case inv3 => exact (hm'.put _).app _
      case inv3b => exact live_more0 (hm'.live2 he' hpe _) _
      all_goals first | (simp (maxDischargeDepth := 8) only [q0, q1, q4, q6, q7, q8, r9, RUN, Ed, knd, kndR, resV, binInt, mnmxV, mnmx2, fillL, unV, lenV, extractV, partV, loadAt, Nat.reduceAdd, Nat.reduceBEq, Nat.reduceEqDiff, Nat.reduceLT, Nat.reduceLeDiff, Nat.reduceMul, Nat.reduceSub, reduceIte, Int.reduceEq, Int.reduceNe, Int.reduceLT, Int.reduceLE, Int.reduceAdd, Int.reduceSub, Int.reduceMul, Int.reduceNeg, Int.reduceMod, Int.reduceDiv, Int.reduceTMod, Int.reduceTDiv, Int.reduceToNat, okChain_i, okLoads_nil, okLoads_in, okLoads_eq]; done) | (simp (maxDischargeDepth := 8) only [q0, q1, q4, q6, q7, q8, r9, RUN, Ed, knd, kndR, resV, binInt, mnmxV, mnmx2, fillL, unV, lenV, extractV, partV, loadAt, Nat.reduceAdd, Nat.reduceBEq, Nat.reduceEqDiff, Nat.reduceLT, Nat.reduceLeDiff, Nat.reduceMul, Nat.reduceSub, reduceIte, Int.reduceEq, Int.reduceNe, Int.reduceLT, Int.reduceLE, Int.reduceAdd, Int.reduceSub, Int.reduceMul, Int.reduceNeg, Int.reduceMod, Int.reduceDiv, Int.reduceTMod, Int.reduceTDiv, Int.reduceToNat, okChain_i, okLoads_nil, okLoads_in, okLoads_eq]; rfl)
theorem inner38 (H : Heap) (v : Value) (L : List Sp) (hL : L.length ≤ 1000) (hS : SS H v L) (m : Int) (p q e : Nat) (hpe : p ≠ e) (j : Nat) (s : Sp) (st : Sp × Bool) (ρ : Fr) (G : Heap)
    (hs : C38 v m p q st.2 j ρ) (r9 : ρ 9 = .pointer (some ⟨e, 0, none⟩)) (r10 : ρ 10 = .int .i64 (0 : Nat)) (hm : M37 H p q st.1 G) (he : live G e = some ⟨true, 92, [.int .i64 s.1, .int .i64 s.2]⟩) :
    ∃ ρ' G', E Try.prog hints (.loop l38_0) ρ G = some (.exit 2, ρ', G') ∧ C38 v m p q (addS L m st s).2 j ρ' ∧ M37 H p q (addS L m st s).1 G' := by
  obtain ⟨ρ1, G1, e1, s1, t9, t10, m1, f1⟩ := round38 H v L hL hS m p q e hpe j s.1 s.2 s.1 0 (by omega) rfl st ρ G hs r9 r10 hm he
  obtain ⟨ρ2, G2, e2, s2, u9, u10, m2, f2⟩ := round38 H v L hL hS m p q e hpe j s.1 s.2 s.2 1 (by omega) rfl _ ρ1 G1 s1 t9 t10 m1 f1
  obtain ⟨q0, q1, q4, q6, q7, q8⟩ := s2
  have h2 : ρ2 10 = .int .i64 2 := u10
  rw [El, e1, andThen_n, El, e2, andThen_n, El]
  refine ⟨?ρ3, G2, ?run3, ⟨?_, ?_, ?_, ?_, ?_, ?_⟩, m2⟩
  case run3 =>
    simp (maxDischargeDepth := 8) only [l38_0, c38_0, c38_1, c38_2, c38_3, c38_4, c38_5, c38_6, c38_7, c38_8, c38_9, c38_10, c38_11, c38_12, c38_13, c38_14, c38_15, c38_16, h2, RUN, Ed, knd, kndR, resV, binInt, mnmxV, mnmx2, fillL, unV, lenV, extractV, partV, loadAt, Nat.reduceAdd, Nat.reduceBEq, Nat.reduceEqDiff, Nat.reduceLT, Nat.reduceLeDiff, Nat.reduceMul, Nat.reduceSub, reduceIte, Int.reduceEq, Int.reduceNe, Int.reduceLT, Int.reduceLE, Int.reduceAdd, Int.reduceSub, Int.reduceMul, Int.reduceNeg, Int.reduceMod, Int.reduceDiv, Int.reduceTMod, Int.reduceTDiv, Int.reduceToNat, okChain_i, okLoads_nil, okLoads_in, okLoads_eq]
    rfl
  all_goals first | (simp (maxDischargeDepth := 8) only [q0, q1, q4, q6, q7, q8, RUN, Ed, knd, kndR, resV, binInt, mnmxV, mnmx2, fillL, unV, lenV, extractV, partV, loadAt, Nat.reduceAdd, Nat.reduceBEq, Nat.reduceEqDiff, Nat.reduceLT, Nat.reduceLeDiff, Nat.reduceMul, Nat.reduceSub, reduceIte, Int.reduceEq, Int.reduceNe, Int.reduceLT, Int.reduceLE, Int.reduceAdd, Int.reduceSub, Int.reduceMul, Int.reduceNeg, Int.reduceMod, Int.reduceDiv, Int.reduceTMod, Int.reduceTDiv, Int.reduceToNat, okChain_i, okLoads_nil, okLoads_in, okLoads_eq]; done) | (simp (maxDischargeDepth := 8) only [q0, q1, q4, q6, q7, q8, RUN, Ed, knd, kndR, resV, binInt, mnmxV, mnmx2, fillL, unV, lenV, extractV, partV, loadAt, Nat.reduceAdd, Nat.reduceBEq, Nat.reduceEqDiff, Nat.reduceLT, Nat.reduceLeDiff, Nat.reduceMul, Nat.reduceSub, reduceIte, Int.reduceEq, Int.reduceNe, Int.reduceLT, Int.reduceLE, Int.reduceAdd, Int.reduceSub, Int.reduceMul, Int.reduceNeg, Int.reduceMod, Int.reduceDiv, Int.reduceTMod, Int.reduceTDiv, Int.reduceToNat, okChain_i, okLoads_nil, okLoads_in, okLoads_eq]; rfl)
theorem outer38 (H : Heap) (v : Value) (L : List Sp) (hL : L.length ≤ 1000) (hS : SS H v L) (m : Int) (p q : Nat) (ρ : Fr) (G : Heap) (hs : C38 v m p q false 0 ρ) (hm : M37 H p q (0, 0) G) :
    ∃ ρ' G', E Try.prog hints (.loop l38_1) ρ G = some (.exit 0, ρ', G') ∧ (C38 v m p q (cov L m L).2 L.length ρ' ∧ M37 H p q (cov L m L).1 G') := by
  refine loop_inv (fun j ρ G => C38 v m p q (cov L m (L.take j)).2 j ρ ∧ M37 H p q (cov L m (L.take j)).1 G) (fun ρ G => C38 v m p q (cov L m L).2 L.length ρ ∧ M37 H p q (cov L m L).1 G) L.length ?_ ?_ ρ G ⟨hs, hm⟩
  · rintro j ρ G hj ⟨⟨q0, q1, q4, q6, q7, q8⟩, hm⟩
    have hb : L[j]? = some L[j] := List.getElem?_eq_getElem hj
    obtain ⟨c, x1, x2, x3, x4, x5, x6⟩ := (hS.ext hm.ext).idx hb
    have l1 := (hS.ext hm.ext).len
    have hlt : (j : Int) < (L.length : Int) := by omega
    have w := wrap64 ((j : Int) + 1) (by omega) (by omega)
    have i1 := live_lt x2
    have ip := live_lt hm.kp
    rw [cov_succ L _ j _ hb]
    generalize L[j] = s at *
    generalize cov L m (L.take j) = st at *
    have key : ∀ ρ1, C38 v m p q st.2 j ρ1 → ρ1 9 = .pointer (some ⟨G.length, 0, none⟩) → ρ1 10 = .int .i64 (0 : Nat) →
        ∃ ρ' G', andThen (blk 1 (blk 2 (E Try.prog hints (.loop l38_0) ρ1 (G ++ [some ⟨true, 92, [.int .i64 s.1, .int .i64 s.2]⟩])))) (E Try.prog hints (.region c38_15)) = some (.normal, ρ', G') ∧ (C38 v m p q (addS L m st s).2 (j + 1) ρ' ∧ M37 H p q (addS L m st s).1 G') := by
      intro ρ1 hs1 h9 h10
      obtain ⟨ρ2, G2, e2, ⟨u0, u1, u4, u6, u7, u8⟩, m2⟩ := inner38 H v L hL hS m p q G.length (by omega) j s st ρ1 _ hs1 h9 h10 (hm.app [some ⟨true, 92, [.int .i64 s.1, .int .i64 s.2]⟩]) ((live_app_len _ _).trans rfl)
      rw [e2]
      refine ⟨?ρ3, G2, ?run3, ⟨?_, ?_, ?_, ?_, ?_, ?_⟩, m2⟩
      case run3 =>
        simp (maxDischargeDepth := 8) only [c38_0, c38_1, c38_2, c38_3, c38_4, c38_5, c38_6, c38_7, c38_8, c38_9, c38_10, c38_11, c38_12, c38_13, c38_14, c38_15, c38_16, u8, w, RUN, Ed, knd, kndR, resV, binInt, mnmxV, mnmx2, fillL, unV, lenV, extractV, partV, loadAt, Nat.reduceAdd, Nat.reduceBEq, Nat.reduceEqDiff, Nat.reduceLT, Nat.reduceLeDiff, Nat.reduceMul, Nat.reduceSub, reduceIte, Int.reduceEq, Int.reduceNe, Int.reduceLT, Int.reduceLE, Int.reduceAdd, Int.reduceSub, Int.reduceMul, Int.reduceNeg, Int.reduceMod, Int.reduceDiv, Int.reduceTMod, Int.reduceTDiv, Int.reduceToNat, okChain_i, okLoads_nil, okLoads_in, okLoads_eq]
        rfl
      all_goals first | (simp (maxDischargeDepth := 8) only [u0, u1, u4, u6, u7, u8, RUN, Ed, knd, kndR, resV, binInt, mnmxV, mnmx2, fillL, unV, lenV, extractV, partV, loadAt, Nat.reduceAdd, Nat.reduceBEq, Nat.reduceEqDiff, Nat.reduceLT, Nat.reduceLeDiff, Nat.reduceMul, Nat.reduceSub, reduceIte, Int.reduceEq, Int.reduceNe, Int.reduceLT, Int.reduceLE, Int.reduceAdd, Int.reduceSub, Int.reduceMul, Int.reduceNeg, Int.reduceMod, Int.reduceDiv, Int.reduceTMod, Int.reduceTDiv, Int.reduceToNat, okChain_i, okLoads_nil, okLoads_in, okLoads_eq]; done) | (simp (maxDischargeDepth := 8) only [u0, u1, u4, u6, u7, u8, RUN, Ed, knd, kndR, resV, binInt, mnmxV, mnmx2, fillL, unV, lenV, extractV, partV, loadAt, Nat.reduceAdd, Nat.reduceBEq, Nat.reduceEqDiff, Nat.reduceLT, Nat.reduceLeDiff, Nat.reduceMul, Nat.reduceSub, reduceIte, Int.reduceEq, Int.reduceNe, Int.reduceLT, Int.reduceLE, Int.reduceAdd, Int.reduceSub, Int.reduceMul, Int.reduceNeg, Int.reduceMod, Int.reduceDiv, Int.reduceTMod, Int.reduceTDiv, Int.reduceToNat, okChain_i, okLoads_nil, okLoads_in, okLoads_eq]; rfl)
    have hl : l38_1 = .seq (.seq (.region c38_5) (.cond (.tmp 16) .skip (.exit 0))) (.seq (.block 1 (.seq (.draw c38_6) (.seq (.region c38_7) (.block 2 (.loop l38_0))))) (.region c38_15)) := rfl
    rw [hl]
    simp (maxDischargeDepth := 8) only [c38_5, c38_6, c38_7, q0, q1, q4, q6, q7, q8, l1, hlt, x1, x2, x3, x4, x5, x6, i1, RUN, Ed, knd, kndR, resV, binInt, mnmxV, mnmx2, fillL, unV, extractV, partV, loadAt, Nat.reduceAdd, Nat.reduceBEq, Nat.reduceEqDiff, Nat.reduceLT, Nat.reduceLeDiff, Nat.reduceMul, Nat.reduceSub, reduceIte, Int.reduceEq, Int.reduceNe, Int.reduceLT, Int.reduceLE, Int.reduceAdd, Int.reduceSub, Int.reduceMul, Int.reduceNeg, Int.reduceMod, Int.reduceDiv, Int.reduceTMod, Int.reduceTDiv, Int.reduceToNat, okChain_i, okLoads_nil, okLoads_in, okLoads_eq]
    refine key _ ⟨?_, ?_, ?_, ?_, ?_, ?_⟩ ?_ ?_
    all_goals first | (simp (maxDischargeDepth := 8) only [q0, q1, q4, q6, q7, q8, RUN, Ed, knd, kndR, resV, binInt, mnmxV, mnmx2, fillL, unV, lenV, extractV, partV, loadAt, Nat.reduceAdd, Nat.reduceBEq, Nat.reduceEqDiff, Nat.reduceLT, Nat.reduceLeDiff, Nat.reduceMul, Nat.reduceSub, reduceIte, Int.reduceEq, Int.reduceNe, Int.reduceLT, Int.reduceLE, Int.reduceAdd, Int.reduceSub, Int.reduceMul, Int.reduceNeg, Int.reduceMod, Int.reduceDiv, Int.reduceTMod, Int.reduceTDiv, Int.reduceToNat, okChain_i, okLoads_nil, okLoads_in, okLoads_eq]; done) | (simp (maxDischargeDepth := 8) only [q0, q1, q4, q6, q7, q8, RUN, Ed, knd, kndR, resV, binInt, mnmxV, mnmx2, fillL, unV, lenV, extractV, partV, loadAt, Nat.reduceAdd, Nat.reduceBEq, Nat.reduceEqDiff, Nat.reduceLT, Nat.reduceLeDiff, Nat.reduceMul, Nat.reduceSub, reduceIte, Int.reduceEq, Int.reduceNe, Int.reduceLT, Int.reduceLE, Int.reduceAdd, Int.reduceSub, Int.reduceMul, Int.reduceNeg, Int.reduceMod, Int.reduceDiv, Int.reduceTMod, Int.reduceTDiv, Int.reduceToNat, okChain_i, okLoads_nil, okLoads_in, okLoads_eq]; rfl)
  · rintro ρ G ⟨⟨q0, q1, q4, q6, q7, q8⟩, hm⟩
    have l1 := (hS.ext hm.ext).len
    rw [List.take_length] at q7 hm
    have hlt : ¬ (L.length : Int) < (L.length : Int) := by omega
    refine ⟨?ρ4, G, ?run4, ⟨?_, ?_, ?_, ?_, ?_, ?_⟩, hm⟩
    case run4 =>
      simp (maxDischargeDepth := 8) only [l38_1, c38_5, q1, q8, l1, hlt, RUN, Ed, knd, kndR, resV, binInt, mnmxV, mnmx2, fillL, unV, extractV, partV, loadAt, Nat.reduceAdd, Nat.reduceBEq, Nat.reduceEqDiff, Nat.reduceLT, Nat.reduceLeDiff, Nat.reduceMul, Nat.reduceSub, reduceIte, Int.reduceEq, Int.reduceNe, Int.reduceLT, Int.reduceLE, Int.reduceAdd, Int.reduceSub, Int.reduceMul, Int.reduceNeg, Int.reduceMod, Int.reduceDiv, Int.reduceTMod, Int.reduceTDiv, Int.reduceToNat, okChain_i, okLoads_nil, okLoads_in, okLoads_eq]
      rfl
    all_goals simp (maxDischargeDepth := 8) only [q0, q1, q4, q6, q7, q8, RUN, Ed, knd, kndR, resV, binInt, mnmxV, mnmx2, fillL, unV, lenV, extractV, partV, loadAt, Nat.reduceAdd, Nat.reduceBEq, Nat.reduceEqDiff, Nat.reduceLT, Nat.reduceLeDiff, Nat.reduceMul, Nat.reduceSub, reduceIte, Int.reduceEq, Int.reduceNe, Int.reduceLT, Int.reduceLE, Int.reduceAdd, Int.reduceSub, Int.reduceMul, Int.reduceNeg, Int.reduceMod, Int.reduceDiv, Int.reduceTMod, Int.reduceTDiv, Int.reduceToNat, okChain_i, okLoads_nil, okLoads_in, okLoads_eq]
theorem cover2_f (v : Value) (L : List Sp) (hL : L.length ≤ 1000) (k : Int) (H : Heap) (hS : SS H v L) : ∃ X, D Try.prog hints 38 [.int .i64 k, v] H = some (.tuple ⟨[.agg ⟨sL (cov L (max k 1) L).1⟩, .bool (cov L (max k 1) L).2]⟩, H ++ X) := by
  have l1 := hS.len
  obtain ⟨G0, hG⟩ : ∃ G0, G0 = H ++ [some ⟨true, 65, sL (0, 0)⟩, some ⟨true, 65, sL (0, 0)⟩] := ⟨_, rfl⟩
  have hm : M37 H (H.length + 1) H.length (0, 0) G0 := ⟨⟨_, hG⟩, by omega, by omega, by omega, by rw [hG]; exact (live_app_add _ _ _).trans rfl, by rw [hG]; exact (live_app_len _ _).trans rfl⟩
  have key : ∀ ρ, C38 v (max k 1) (H.length + 1) H.length false 0 ρ → ∃ X, done [.cells 4 2, .tmp 5] (andThen (blk 0 (E Try.prog hints (.loop l38_1) ρ G0)) (E Try.prog hints (.seq (.region c38_16) .ret))) = some (.tuple ⟨[.agg ⟨sL (cov L (max k 1) L).1⟩, .bool (cov L (max k 1) L).2]⟩, H ++ X) := by
    intro ρ hs
    obtain ⟨ρ1, G1, e1, ⟨q0, q1, q4, q6, q7, q8⟩, hm1⟩ := outer38 H v L hL hS (max k 1) (H.length + 1) H.length ρ G0 hs hm
    rw [e1]
    have kp := hm1.kp
    have kq := hm1.kq
    have ip := live_lt kp
    have iq := live_lt kq
    generalize cov L (max k 1) L = st at *
    obtain ⟨X, hX⟩ := hm1.ext.set hm1.hq (some ⟨true, 65, sL st.1⟩)
    refine ⟨X, ?_⟩
    rw [← hX]
    simp (maxDischargeDepth := 8) only [c38_16, q4, q6, q7, kp, kq, ip, iq, sL_len, sL_one, sL_take, sL_put, RUN, Ed, knd, kndR, resV, binInt, mnmxV, mnmx2, fillL, unV, lenV, extractV, partV, loadAt, Nat.reduceAdd, Nat.reduceBEq, Nat.reduceEqDiff, Nat.reduceLT, Nat.reduceLeDiff, Nat.reduceMul, Nat.reduceSub, reduceIte, Int.reduceEq, Int.reduceNe, Int.reduceLT, Int.reduceLE, Int.reduceAdd, Int.reduceSub, Int.reduceMul, Int.reduceNeg, Int.reduceMod, Int.reduceDiv, Int.reduceTMod, Int.reduceTDiv, Int.reduceToNat, okChain_i, okLoads_nil, okLoads_in, okLoads_eq]
  rw [D_eq p38 _ _ (Nat.le_of_ble_eq_true rfl)]
  have hs0 : [Value.int .i64 0, Value.int .i64 0] = sL (0, 0) := rfl
  simp (maxDischargeDepth := 8) only [r38, b38, c38_0, c38_1, c38_2, c38_3, c38_4, maxE, hs0, ← hG, RUN, Ed, knd, kndR, resV, binInt, mnmxV, mnmx2, fillL, unV, lenV, extractV, partV, loadAt, Nat.reduceAdd, Nat.reduceBEq, Nat.reduceEqDiff, Nat.reduceLT, Nat.reduceLeDiff, Nat.reduceMul, Nat.reduceSub, reduceIte, Int.reduceEq, Int.reduceNe, Int.reduceLT, Int.reduceLE, Int.reduceAdd, Int.reduceSub, Int.reduceMul, Int.reduceNeg, Int.reduceMod, Int.reduceDiv, Int.reduceTMod, Int.reduceTDiv, Int.reduceToNat, okChain_i, okLoads_nil, okLoads_in, okLoads_eq]
  refine key _ ⟨?_, ?_, ?_, ?_, ?_, ?_⟩
  all_goals first | (simp (maxDischargeDepth := 8) only [RUN, Ed, knd, kndR, resV, binInt, mnmxV, mnmx2, fillL, unV, lenV, extractV, partV, loadAt, Nat.reduceAdd, Nat.reduceBEq, Nat.reduceEqDiff, Nat.reduceLT, Nat.reduceLeDiff, Nat.reduceMul, Nat.reduceSub, reduceIte, Int.reduceEq, Int.reduceNe, Int.reduceLT, Int.reduceLE, Int.reduceAdd, Int.reduceSub, Int.reduceMul, Int.reduceNeg, Int.reduceMod, Int.reduceDiv, Int.reduceTMod, Int.reduceTDiv, Int.reduceToNat, okChain_i, okLoads_nil, okLoads_in, okLoads_eq]; done) | (simp (maxDischargeDepth := 8) only [RUN, Ed, knd, kndR, resV, binInt, mnmxV, mnmx2, fillL, unV, lenV, extractV, partV, loadAt, Nat.reduceAdd, Nat.reduceBEq, Nat.reduceEqDiff, Nat.reduceLT, Nat.reduceLeDiff, Nat.reduceMul, Nat.reduceSub, reduceIte, Int.reduceEq, Int.reduceNe, Int.reduceLT, Int.reduceLE, Int.reduceAdd, Int.reduceSub, Int.reduceMul, Int.reduceNeg, Int.reduceMod, Int.reduceDiv, Int.reduceTMod, Int.reduceTDiv, Int.reduceToNat, okChain_i, okLoads_nil, okLoads_in, okLoads_eq]; rfl)
def meetP (a b : Sp) : Sp × Bool := if min a.2 b.2 < max a.1 b.1 then ((0, 0), false) else ((max a.1 b.1, min a.2 b.2), true)
theorem meet_f (a b : Sp) (H : Heap) : ∃ X, D Try.prog hints 45 [.agg ⟨sL a⟩, .agg ⟨sL b⟩] H = some (.tuple ⟨[.agg ⟨sL (meetP a b).1⟩, .bool (meetP a b).2]⟩, H ++ X) := by
  rw [D_eq p45 _ _ (Nat.le_of_ble_eq_true rfl)]
  unfold meetP
  by_cases h : min a.2 b.2 < max a.1 b.1
  · rw [if_pos h]
    refine ⟨?X1, ?run1⟩
    case run1 =>
      simp (maxDischargeDepth := 8) only [r45, b45, c45_0, c45_1, c45_2, c45_3, c45_4, minE, maxE, sL, h, RUN, Ed, knd, kndR, resV, binInt, mnmxV, mnmx2, fillL, unV, lenV, extractV, partV, loadAt, Nat.reduceAdd, Nat.reduceBEq, Nat.reduceEqDiff, Nat.reduceLT, Nat.reduceLeDiff, Nat.reduceMul, Nat.reduceSub, reduceIte, Int.reduceEq, Int.reduceNe, Int.reduceLT, Int.reduceLE, Int.reduceAdd, Int.reduceSub, Int.reduceMul, Int.reduceNeg, Int.reduceMod, Int.reduceDiv, Int.reduceTMod, Int.reduceTDiv, Int.reduceToNat, okChain_i, okLoads_nil, okLoads_in, okLoads_eq]
      rfl
  · rw [if_neg h]
    refine ⟨?X2, ?run2⟩
    case run2 =>
      simp (maxDischargeDepth := 8) only [r45, b45, c45_0, c45_1, c45_2, c45_3, c45_4, minE, maxE, sL, h, RUN, Ed, knd, kndR, resV, binInt, mnmxV, mnmx2, fillL, unV, lenV, extractV, partV, loadAt, Nat.reduceAdd, Nat.reduceBEq, Nat.reduceEqDiff, Nat.reduceLT, Nat.reduceLeDiff, Nat.reduceMul, Nat.reduceSub, reduceIte, Int.reduceEq, Int.reduceNe, Int.reduceLT, Int.reduceLE, Int.reduceAdd, Int.reduceSub, Int.reduceMul, Int.reduceNeg, Int.reduceMod, Int.reduceDiv, Int.reduceTMod, Int.reduceTDiv, Int.reduceToNat, okChain_i, okLoads_nil, okLoads_in, okLoads_eq]
      rfl
def inP (a b : Sp) : Bool := decide (b.1 ≤ a.1 ∧ a.2 ≤ b.2)
theorem inS_f (a b : Sp) (H : Heap) : D Try.prog hints 46 [.agg ⟨sL a⟩, .agg ⟨sL b⟩] H = some (.bool (inP a b), H ++ [some ⟨true, 65, sL a⟩, some ⟨true, 65, sL b⟩]) := by
  rw [D_eq p46 _ _ (Nat.le_of_ble_eq_true rfl)]
  by_cases h1 : b.1 ≤ a.1
  · by_cases h2 : a.2 ≤ b.2
    · have hd : inP a b = true := by simp [inP, h1, h2]
      rw [hd]
      simp (maxDischargeDepth := 8) only [r46, b46, c46_0, c46_1, sL, h1, h2, RUN, Ed, knd, kndR, resV, binInt, mnmxV, mnmx2, fillL, unV, lenV, extractV, partV, loadAt, Nat.reduceAdd, Nat.reduceBEq, Nat.reduceEqDiff, Nat.reduceLT, Nat.reduceLeDiff, Nat.reduceMul, Nat.reduceSub, reduceIte, Int.reduceEq, Int.reduceNe, Int.reduceLT, Int.reduceLE, Int.reduceAdd, Int.reduceSub, Int.reduceMul, Int.reduceNeg, Int.reduceMod, Int.reduceDiv, Int.reduceTMod, Int.reduceTDiv, Int.reduceToNat, okChain_i, okLoads_nil, okLoads_in, okLoads_eq]
    · have hd : inP a b = false := by simp [inP, h2]
      rw [hd]
      simp (maxDischargeDepth := 8) only [r46, b46, c46_0, c46_1, sL, h1, h2, RUN, Ed, knd, kndR, resV, binInt, mnmxV, mnmx2, fillL, unV, lenV, extractV, partV, loadAt, Nat.reduceAdd, Nat.reduceBEq, Nat.reduceEqDiff, Nat.reduceLT, Nat.reduceLeDiff, Nat.reduceMul, Nat.reduceSub, reduceIte, Int.reduceEq, Int.reduceNe, Int.reduceLT, Int.reduceLE, Int.reduceAdd, Int.reduceSub, Int.reduceMul, Int.reduceNeg, Int.reduceMod, Int.reduceDiv, Int.reduceTMod, Int.reduceTDiv, Int.reduceToNat, okChain_i, okLoads_nil, okLoads_in, okLoads_eq]
  · have hd : inP a b = false := by simp [inP, h1]
    rw [hd]
    simp (maxDischargeDepth := 8) only [r46, b46, c46_0, c46_1, sL, h1, RUN, Ed, knd, kndR, resV, binInt, mnmxV, mnmx2, fillL, unV, lenV, extractV, partV, loadAt, Nat.reduceAdd, Nat.reduceBEq, Nat.reduceEqDiff, Nat.reduceLT, Nat.reduceLeDiff, Nat.reduceMul, Nat.reduceSub, reduceIte, Int.reduceEq, Int.reduceNe, Int.reduceLT, Int.reduceLE, Int.reduceAdd, Int.reduceSub, Int.reduceMul, Int.reduceNeg, Int.reduceMod, Int.reduceDiv, Int.reduceTMod, Int.reduceTDiv, Int.reduceToNat, okChain_i, okLoads_nil, okLoads_in, okLoads_eq]
theorem first_f (H : Heap) : ∃ X, D Try.prog hints 35 [] H = some (.bool true, H ++ X) := by
  obtain ⟨X1, e1⟩ := cover_f (.slice none 0 0) [] (by simp) 1 H (.inl ⟨rfl, rfl⟩)
  have e2 := fun G => mid_f 3 1 2 G
  obtain ⟨X2, e3⟩ := most_f (.slice none 0 0) [] (by simp) ((H ++ X1) ++ [some ⟨true, 65, sL (0, 0)⟩]) (.inl ⟨rfl, rfl⟩)
  rw [show midP 3 1 2 = 2 from rfl] at e2
  rw [show mst [] [] = 0 from rfl] at e3
  rw [show cov [] (max 1 1) [] = ((0, 0), false) from rfl] at e1
  simp only [List.append_assoc] at e3
  have hs0 : [Value.int .i64 0, Value.int .i64 0] = sL (0, 0) := rfl
  rw [D_eq p35 _ _ (Nat.le_of_ble_eq_true rfl)]
  refine ⟨?X3, ?run3⟩
  case run3 =>
    simp (maxDischargeDepth := 8) only [r35, b35, c35_0, c35_1, c35_2, e1, e2, e3, hs0, sL_len, sL_one, sL_take, sL_put, RUN, Ed, knd, kndR, resV, binInt, mnmxV, mnmx2, fillL, unV, lenV, extractV, partV, loadAt, Nat.reduceAdd, Nat.reduceBEq, Nat.reduceEqDiff, Nat.reduceLT, Nat.reduceLeDiff, Nat.reduceMul, Nat.reduceSub, reduceIte, Int.reduceEq, Int.reduceNe, Int.reduceLT, Int.reduceLE, Int.reduceAdd, Int.reduceSub, Int.reduceMul, Int.reduceNeg, Int.reduceMod, Int.reduceDiv, Int.reduceTMod, Int.reduceTDiv, Int.reduceToNat, okChain_i, okLoads_nil, okLoads_in, okLoads_eq]
    rfl
end Go.Proofs.Ytbamnfladjkkcaa.Sim
