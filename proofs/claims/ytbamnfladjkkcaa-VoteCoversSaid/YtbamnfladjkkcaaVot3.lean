/- The votes of chapter 4 over the plain heap: the cover. -/
import Derived.Test.YtbamnfladjkkcaaVot2
import Derived.Test.YtbamnfladjkkcaaSim21
import Derived.Test.YtbamnfladjkkcaaSim22
namespace Go.Proofs.Ytbamnfladjkkcaa.Sim
open Go
set_option linter.unusedSimpArgs false
set_option linter.unusedVariables false
theorem SS.ext {H G : Heap} {v : Value} {L : List Sp} (h : SS H v L) (e : Ext H G) : SS G v L := by
  obtain ⟨X, rfl⟩ := e
  exact h.more X
def addE (L : List Sp) (m : Int) (st : Sp × Bool) (x : Int) : Sp × Bool := if (cnt L x : Int) < m then st else (hull (if st.2 = true then st.1 else (x, x)) (x, x), true)
def addS (L : List Sp) (m : Int) (st : Sp × Bool) (s : Sp) : Sp × Bool := addE L m (addE L m st s.1) s.2
def cov (L : List Sp) (m : Int) (M : List Sp) : Sp × Bool := M.foldl (addS L m) ((0, 0), false)
theorem cov_succ (L : List Sp) (m : Int) (j : Nat) (s : Sp) (h : L[j]? = some s) : cov L m (L.take (j + 1)) = addS L m (cov L m (L.take j)) s := by
  unfold cov
  rw [take_get L j s h, List.foldl_append]
  rfl
theorem sL_put (a o : Sp) : sL a ++ (sL o).drop 2 = sL a := (rfl)
theorem spOf_same (x : Int) : spOf x x = (x, x) := by simp [spOf]
structure C37 (v : Value) (n : Nat) (k : Int) (p q : Nat) (f : Bool) (j : Nat) (ρ : Fr) : Prop where
  q0 : ρ 0 = .int .i64 k
  q1 : ρ 1 = v
  q4 : ρ 4 = .pointer (some ⟨q, 0, none⟩)
  q6 : ρ 6 = .pointer (some ⟨p, 0, none⟩)
  q7 : ρ 7 = .bool f
  q12 : ρ 12 = v
  q13 : ρ 13 = .int .i64 n
  q14 : ρ 14 = .int .i64 j
structure M37 (H : Heap) (p q : Nat) (o : Sp) (G : Heap) : Prop where
  ext : Ext H G
  hp : H.length ≤ p
  hq : H.length ≤ q
  ne : q ≠ p
  kp : live G p = some ⟨true, 65, sL o⟩
  kq : live G q = some ⟨true, 65, sL (0, 0)⟩
theorem M37.app {H : Heap} {p q : Nat} {o : Sp} {G : Heap} (h : M37 H p q o G) (Y : Heap) : M37 H p q o (G ++ Y) :=
  ⟨h.ext.app Y, h.hp, h.hq, h.ne, live_more0 h.kp Y, live_more0 h.kq Y⟩
theorem M37.put {H : Heap} {p q : Nat} {o : Sp} {G : Heap} (h : M37 H p q o G) (o' : Sp) : M37 H p q o' (G.set p (some ⟨true, 65, sL o'⟩)) :=
  ⟨h.ext.set h.hp _, h.hp, h.hq, h.ne, live_set_eq _ _ _ (live_lt h.kp), by rw [live_set_ne _ _ _ _ (fun e => h.ne e.symm)]; exact h.kq⟩
theorem round37 (H : Heap) (v : Value) (L : List Sp) (hL : L.length ≤ 1000) (hS : SS H v L) (k : Int) (p q : Nat) (j : Nat) (a b x : Int) (i : Nat) (hi : i < 2) (hx : idxVV false 2 1 (.agg ⟨[.int .i64 a, .int .i64 b]⟩) (.int .i64 i) = some (.int .i64 x)) (st : Sp × Bool) (ρ : Fr) (G : Heap)
    (hs : C37 v L.length k p q st.2 j ρ) (r22 : ρ 22 = .agg ⟨[.int .i64 a, .int .i64 b]⟩) (r23 : ρ 23 = .int .i64 i) (hm : M37 H p q st.1 G) :
    ∃ ρ' G', E Try.prog hints l37_0 ρ G = some (.normal, ρ', G') ∧ C37 v L.length k p q (addE L (max k 1) st x).2 j ρ' ∧ ρ' 22 = .agg ⟨[.int .i64 a, .int .i64 b]⟩ ∧ ρ' 23 = .int .i64 (i + 1 : Nat) ∧ M37 H p q (addE L (max k 1) st x).1 G' := by
  obtain ⟨q0, q1, q4, q6, q7, q12, q13, q14⟩ := hs
  have hlt : (i : Int) < 2 := by omega
  have w := wrap64 ((i : Int) + 1) (by omega) (by omega)
  obtain ⟨X, ec⟩ := many_f v L hL x G (hS.ext hm.ext)
  have hcast : ((i : Int) + 1) = ((i + 1 : Nat) : Int) := by omega
  rw [hcast] at w
  obtain ⟨o, f⟩ := st
  simp only at q7 hm
  have ip := live_lt hm.kp
  by_cases hc : (cnt L x : Int) < max k 1
  · have e : addE L (max k 1) (o, f) x = (o, f) := if_pos hc
    rw [e]
    refine ⟨?ρ1, ?G1, ?run1, ⟨?_, ?_, ?_, ?_, ?_, ?_, ?_, ?_⟩, ?_, ?_, ?inv1⟩
    case run1 =>
      simp (maxDischargeDepth := 8) only [l37_0, c37_7, c37_8, c37_9, c37_13, q0, q1, q4, q6, q7, q12, q13, q14, r22, r23, hlt, hx, ec, maxE, hc, hcast, w, RUN, Ed, knd, kndR, resV, binInt, mnmxV, mnmx2, fillL, unV, lenV, extractV, partV, loadAt, Nat.reduceAdd, Nat.reduceBEq, Nat.reduceEqDiff, Nat.reduceLT, Nat.reduceLeDiff, Nat.reduceMul, Nat.reduceSub, reduceIte, Int.reduceEq, Int.reduceNe, Int.reduceLT, Int.reduceLE, Int.reduceAdd, Int.reduceSub, Int.reduceMul, Int.reduceNeg, Int.reduceMod, Int.reduceDiv, Int.reduceTMod, Int.reduceTDiv, Int.reduceToNat, okChain_i, okLoads_nil, okLoads_in, okLoads_eq]
      rfl
    case inv1 => exact hm.app X
    all_goals first | (simp (maxDischargeDepth := 8) only [q0, q1, q4, q6, q7, q12, q13, q14, r22, RUN, Ed, knd, kndR, resV, binInt, mnmxV, mnmx2, fillL, unV, lenV, extractV, partV, loadAt, Nat.reduceAdd, Nat.reduceBEq, Nat.reduceEqDiff, Nat.reduceLT, Nat.reduceLeDiff, Nat.reduceMul, Nat.reduceSub, reduceIte, Int.reduceEq, Int.reduceNe, Int.reduceLT, Int.reduceLE, Int.reduceAdd, Int.reduceSub, Int.reduceMul, Int.reduceNeg, Int.reduceMod, Int.reduceDiv, Int.reduceTMod, Int.reduceTDiv, Int.reduceToNat, okChain_i, okLoads_nil, okLoads_in, okLoads_eq]; done) | (simp (maxDischargeDepth := 8) only [q0, q1, q4, q6, q7, q12, q13, q14, r22, RUN, Ed, knd, kndR, resV, binInt, mnmxV, mnmx2, fillL, unV, lenV, extractV, partV, loadAt, Nat.reduceAdd, Nat.reduceBEq, Nat.reduceEqDiff, Nat.reduceLT, Nat.reduceLeDiff, Nat.reduceMul, Nat.reduceSub, reduceIte, Int.reduceEq, Int.reduceNe, Int.reduceLT, Int.reduceLE, Int.reduceAdd, Int.reduceSub, Int.reduceMul, Int.reduceNeg, Int.reduceMod, Int.reduceDiv, Int.reduceTMod, Int.reduceTDiv, Int.reduceToNat, okChain_i, okLoads_nil, okLoads_in, okLoads_eq]; rfl)
  · have e54 := fun F => of2_f x x F
    rw [spOf_same] at e54
    have kp' : live (G ++ X) p = some ⟨true, 65, sL o⟩ := live_more0 hm.kp X
    have ip' := live_lt kp'
    have hm' := hm.app X
    generalize G ++ X = F at *
    cases f
    · have e : addE L (max k 1) (o, false) x = (hull (x, x) (x, x), true) := if_neg hc
      have e55 := fun F => hull_f (x, x) (x, x) F
      rw [e]
      refine ⟨?ρ2, ?G2, ?run2, ⟨?_, ?_, ?_, ?_, ?_, ?_, ?_, ?_⟩, ?_, ?_, ?inv2⟩
      case run2 =>
        simp (maxDischargeDepth := 8) only [l37_0, c37_7, c37_8, c37_9, c37_10, c37_11, c37_12, c37_13, q0, q1, q4, q6, q7, q12, q13, q14, r22, r23, hlt, hx, ec, maxE, hc, hcast, w, e54, e55, kp', ip', sL_len, sL_one, sL_take, sL_put, RUN, Ed, knd, kndR, resV, binInt, mnmxV, mnmx2, fillL, unV, lenV, extractV, partV, loadAt, Nat.reduceAdd, Nat.reduceBEq, Nat.reduceEqDiff, Nat.reduceLT, Nat.reduceLeDiff, Nat.reduceMul, Nat.reduceSub, reduceIte, Int.reduceEq, Int.reduceNe, Int.reduceLT, Int.reduceLE, Int.reduceAdd, Int.reduceSub, Int.reduceMul, Int.reduceNeg, Int.reduceMod, Int.reduceDiv, Int.reduceTMod, Int.reduceTDiv, Int.reduceToNat, okChain_i, okLoads_nil, okLoads_in, okLoads_eq]
        rfl
      case inv2 => exact (hm'.put _).app _
      all_goals first | (simp (maxDischargeDepth := 8) only [q0, q1, q4, q6, q7, q12, q13, q14, r22, RUN, Ed, knd, kndR, resV, binInt, mnmxV, mnmx2, fillL, unV, lenV, extractV, partV, loadAt, Nat.reduceAdd, Nat.reduceBEq, Nat.reduceEqDiff, Nat.reduceLT, Nat.reduceLeDiff, Nat.reduceMul, Nat.reduceSub, reduceIte, Int.reduceEq, Int.reduceNe, Int.reduceLT, Int.reduceLE, Int.reduceAdd, Int.reduceSub, Int.reduceMul, Int.reduceNeg, Int.reduceMod, Int.reduceDiv, Int.reduceTMod, Int.reduceTDiv, Int.reduceToNat, okChain_i, okLoads_nil, okLoads_in, okLoads_eq]; done) | (simp (maxDischargeDepth := 8) only [q0, q1, q4, q6, q7, q12, q13, q14, r22, RUN, Ed, knd, kndR, resV, binInt, mnmxV, mnmx2, fillL, unV, lenV, extractV, partV, loadAt, Nat.reduceAdd, Nat.reduceBEq, Nat.reduceEqDiff, Nat.reduceLT, Nat.reduceLeDiff, Nat.reduceMul, Nat.reduceSub, reduceIte, Int.reduceEq, Int.reduceNe, Int.reduceLT, Int.reduceLE, Int.reduceAdd, Int.reduceSub, Int.reduceMul, Int.reduceNeg, Int.reduceMod, Int.reduceDiv, Int.reduceTMod, Int.reduceTDiv, Int.reduceToNat, okChain_i, okLoads_nil, okLoads_in, okLoads_eq]; rfl)
    · have e : addE L (max k 1) (o, true) x = (hull o (x, x), true) := if_neg hc
      have e55 := fun F => hull_f o (x, x) F
      rw [e]
      refine ⟨?ρ3, ?G3, ?run3, ⟨?_, ?_, ?_, ?_, ?_, ?_, ?_, ?_⟩, ?_, ?_, ?inv3⟩
      case run3 =>
        simp (maxDischargeDepth := 8) only [l37_0, c37_7, c37_8, c37_9, c37_10, c37_12, c37_13, q0, q1, q4, q6, q7, q12, q13, q14, r22, r23, hlt, hx, ec, maxE, hc, hcast, w, e54, e55, kp', ip', sL_len, sL_one, sL_take, sL_put, RUN, Ed, knd, kndR, resV, binInt, mnmxV, mnmx2, fillL, unV, lenV, extractV, partV, loadAt, Nat.reduceAdd, Nat.reduceBEq, Nat.reduceEqDiff, Nat.reduceLT, Nat.reduceLeDiff, Nat.reduceMul, Nat.reduceSub, reduceIte, Int.reduceEq, Int.reduceNe, Int.reduceLT, Int.reduceLE, Int.reduceAdd, Int.reduceSub, Int.reduceMul, Int.reduceNeg, Int.reduceMod, Int.reduceDiv, Int.reduceTMod, Int.reduceTDiv, Int.reduceToNat, okChain_i, okLoads_nil, okLoads_in, okLoads_eq]
        rfl
      case inv3 => exact (hm'.put _).app _
      all_goals first | (simp (maxDischargeDepth := 8) only [q0, q1, q4, q6, q7, q12, q13, q14, r22, RUN, Ed, knd, kndR, resV, binInt, mnmxV, mnmx2, fillL, unV, lenV, extractV, partV, loadAt, Nat.reduceAdd, Nat.reduceBEq, Nat.reduceEqDiff, Nat.reduceLT, Nat.reduceLeDiff, Nat.reduceMul, Nat.reduceSub, reduceIte, Int.reduceEq, Int.reduceNe, Int.reduceLT, Int.reduceLE, Int.reduceAdd, Int.reduceSub, Int.reduceMul, Int.reduceNeg, Int.reduceMod, Int.reduceDiv, Int.reduceTMod, Int.reduceTDiv, Int.reduceToNat, okChain_i, okLoads_nil, okLoads_in, okLoads_eq]; done) | (simp (maxDischargeDepth := 8) only [q0, q1, q4, q6, q7, q12, q13, q14, r22, RUN, Ed, knd, kndR, resV, binInt, mnmxV, mnmx2, fillL, unV, lenV, extractV, partV, loadAt, Nat.reduceAdd, Nat.reduceBEq, Nat.reduceEqDiff, Nat.reduceLT, Nat.reduceLeDiff, Nat.reduceMul, Nat.reduceSub, reduceIte, Int.reduceEq, Int.reduceNe, Int.reduceLT, Int.reduceLE, Int.reduceAdd, Int.reduceSub, Int.reduceMul, Int.reduceNeg, Int.reduceMod, Int.reduceDiv, Int.reduceTMod, Int.reduceTDiv, Int.reduceToNat, okChain_i, okLoads_nil, okLoads_in, okLoads_eq]; rfl)
theorem idx0 (a b : Int) : idxVV false 2 1 (.agg ⟨[.int .i64 a, .int .i64 b]⟩) (.int .i64 (0 : Nat)) = some (.int .i64 a) := (rfl)
theorem idx1 (a b : Int) : idxVV false 2 1 (.agg ⟨[.int .i64 a, .int .i64 b]⟩) (.int .i64 (1 : Nat)) = some (.int .i64 b) := (rfl)
theorem inner37 (H : Heap) (v : Value) (L : List Sp) (hL : L.length ≤ 1000) (hS : SS H v L) (k : Int) (p q : Nat) (j : Nat) (s : Sp) (st : Sp × Bool) (ρ : Fr) (G : Heap)
    (hs : C37 v L.length k p q st.2 j ρ) (r22 : ρ 22 = .agg ⟨[.int .i64 s.1, .int .i64 s.2]⟩) (r23 : ρ 23 = .int .i64 (0 : Nat)) (hm : M37 H p q st.1 G) :
    ∃ ρ' G', E Try.prog hints (.loop l37_0) ρ G = some (.exit 2, ρ', G') ∧ C37 v L.length k p q (addS L (max k 1) st s).2 j ρ' ∧ M37 H p q (addS L (max k 1) st s).1 G' := by
  obtain ⟨ρ1, G1, e1, s1, t22, t23, m1⟩ := round37 H v L hL hS k p q j s.1 s.2 s.1 0 (by omega) (idx0 _ _) st ρ G hs r22 r23 hm
  obtain ⟨ρ2, G2, e2, s2, u22, u23, m2⟩ := round37 H v L hL hS k p q j s.1 s.2 s.2 1 (by omega) (idx1 _ _) _ ρ1 G1 s1 t22 t23 m1
  obtain ⟨q0, q1, q4, q6, q7, q12, q13, q14⟩ := s2
  have h2 : ρ2 23 = .int .i64 2 := u23
  rw [El, e1, andThen_n, El, e2, andThen_n, El]
  refine ⟨?ρ3, G2, ?run3, ⟨?_, ?_, ?_, ?_, ?_, ?_, ?_, ?_⟩, m2⟩
  case run3 =>
    simp (maxDischargeDepth := 8) only [l37_0, c37_7, h2, RUN, Ed, knd, kndR, resV, binInt, mnmxV, mnmx2, fillL, unV, lenV, extractV, partV, loadAt, Nat.reduceAdd, Nat.reduceBEq, Nat.reduceEqDiff, Nat.reduceLT, Nat.reduceLeDiff, Nat.reduceMul, Nat.reduceSub, reduceIte, Int.reduceEq, Int.reduceNe, Int.reduceLT, Int.reduceLE, Int.reduceAdd, Int.reduceSub, Int.reduceMul, Int.reduceNeg, Int.reduceMod, Int.reduceDiv, Int.reduceTMod, Int.reduceTDiv, Int.reduceToNat, okChain_i, okLoads_nil, okLoads_in, okLoads_eq]
    rfl
  all_goals first | (simp (maxDischargeDepth := 8) only [q0, q1, q4, q6, q7, q12, q13, q14, RUN, Ed, knd, kndR, resV, binInt, mnmxV, mnmx2, fillL, unV, lenV, extractV, partV, loadAt, Nat.reduceAdd, Nat.reduceBEq, Nat.reduceEqDiff, Nat.reduceLT, Nat.reduceLeDiff, Nat.reduceMul, Nat.reduceSub, reduceIte, Int.reduceEq, Int.reduceNe, Int.reduceLT, Int.reduceLE, Int.reduceAdd, Int.reduceSub, Int.reduceMul, Int.reduceNeg, Int.reduceMod, Int.reduceDiv, Int.reduceTMod, Int.reduceTDiv, Int.reduceToNat, okChain_i, okLoads_nil, okLoads_in, okLoads_eq]; done) | (simp (maxDischargeDepth := 8) only [q0, q1, q4, q6, q7, q12, q13, q14, RUN, Ed, knd, kndR, resV, binInt, mnmxV, mnmx2, fillL, unV, lenV, extractV, partV, loadAt, Nat.reduceAdd, Nat.reduceBEq, Nat.reduceEqDiff, Nat.reduceLT, Nat.reduceLeDiff, Nat.reduceMul, Nat.reduceSub, reduceIte, Int.reduceEq, Int.reduceNe, Int.reduceLT, Int.reduceLE, Int.reduceAdd, Int.reduceSub, Int.reduceMul, Int.reduceNeg, Int.reduceMod, Int.reduceDiv, Int.reduceTMod, Int.reduceTDiv, Int.reduceToNat, okChain_i, okLoads_nil, okLoads_in, okLoads_eq]; rfl)
theorem outer37 (H : Heap) (v : Value) (L : List Sp) (hL : L.length ≤ 1000) (hS : SS H v L) (k : Int) (p q : Nat) (ρ : Fr) (G : Heap) (hs : C37 v L.length k p q false 0 ρ) (hm : M37 H p q (0, 0) G) :
    ∃ ρ' G', E Try.prog hints (.loop l37_1) ρ G = some (.exit 0, ρ', G') ∧ (C37 v L.length k p q (cov L (max k 1) L).2 L.length ρ' ∧ M37 H p q (cov L (max k 1) L).1 G') := by
  refine loop_inv (fun j ρ G => C37 v L.length k p q (cov L (max k 1) (L.take j)).2 j ρ ∧ M37 H p q (cov L (max k 1) (L.take j)).1 G) (fun ρ G => C37 v L.length k p q (cov L (max k 1) L).2 L.length ρ ∧ M37 H p q (cov L (max k 1) L).1 G) L.length ?_ ?_ ρ G ⟨hs, hm⟩
  · rintro j ρ G hj ⟨⟨q0, q1, q4, q6, q7, q12, q13, q14⟩, hm⟩
    have hb : L[j]? = some L[j] := List.getElem?_eq_getElem hj
    obtain ⟨c, x1, x2, x3, x4, _, _⟩ := (hS.ext hm.ext).idx hb
    have hlt : (j : Int) < (L.length : Int) := by omega
    have w := wrap64 ((j : Int) + 1) (by omega) (by omega)
    have i1 := live_lt x2
    rw [cov_succ L _ j _ hb]
    generalize L[j] = s at *
    generalize cov L (max k 1) (L.take j) = st at *
    have s0 : (sL s)[0]? = some (.int .i64 s.1) := rfl
    have s1 : (sL s)[1]? = some (.int .i64 s.2) := rfl
    have key : ∀ ρ1 G1, C37 v L.length k p q st.2 j ρ1 → ρ1 22 = .agg ⟨[.int .i64 s.1, .int .i64 s.2]⟩ → ρ1 23 = .int .i64 (0 : Nat) → M37 H p q st.1 G1 →
        ∃ ρ' G', andThen (blk 1 (blk 2 (E Try.prog hints (.loop l37_0) ρ1 G1))) (E Try.prog hints (.region c37_14)) = some (.normal, ρ', G') ∧ (C37 v L.length k p q (addS L (max k 1) st s).2 (j + 1) ρ' ∧ M37 H p q (addS L (max k 1) st s).1 G') := by
      intro ρ1 G1 hs1 h22 h23 hm1
      obtain ⟨ρ2, G2, e2, ⟨u0, u1, u4, u6, u7, u12, u13, u14⟩, m2⟩ := inner37 H v L hL hS k p q j s st ρ1 G1 hs1 h22 h23 hm1
      rw [e2]
      refine ⟨?ρ3, G2, ?run3, ⟨?_, ?_, ?_, ?_, ?_, ?_, ?_, ?_⟩, m2⟩
      case run3 =>
        simp (maxDischargeDepth := 8) only [c37_14, u14, w, RUN, Ed, knd, kndR, resV, binInt, mnmxV, mnmx2, fillL, unV, lenV, extractV, partV, loadAt, Nat.reduceAdd, Nat.reduceBEq, Nat.reduceEqDiff, Nat.reduceLT, Nat.reduceLeDiff, Nat.reduceMul, Nat.reduceSub, reduceIte, Int.reduceEq, Int.reduceNe, Int.reduceLT, Int.reduceLE, Int.reduceAdd, Int.reduceSub, Int.reduceMul, Int.reduceNeg, Int.reduceMod, Int.reduceDiv, Int.reduceTMod, Int.reduceTDiv, Int.reduceToNat, okChain_i, okLoads_nil, okLoads_in, okLoads_eq]
        rfl
      all_goals first | (simp (maxDischargeDepth := 8) only [u0, u1, u4, u6, u7, u12, u13, u14, RUN, Ed, knd, kndR, resV, binInt, mnmxV, mnmx2, fillL, unV, lenV, extractV, partV, loadAt, Nat.reduceAdd, Nat.reduceBEq, Nat.reduceEqDiff, Nat.reduceLT, Nat.reduceLeDiff, Nat.reduceMul, Nat.reduceSub, reduceIte, Int.reduceEq, Int.reduceNe, Int.reduceLT, Int.reduceLE, Int.reduceAdd, Int.reduceSub, Int.reduceMul, Int.reduceNeg, Int.reduceMod, Int.reduceDiv, Int.reduceTMod, Int.reduceTDiv, Int.reduceToNat, okChain_i, okLoads_nil, okLoads_in, okLoads_eq]; done) | (simp (maxDischargeDepth := 8) only [u0, u1, u4, u6, u7, u12, u13, u14, RUN, Ed, knd, kndR, resV, binInt, mnmxV, mnmx2, fillL, unV, lenV, extractV, partV, loadAt, Nat.reduceAdd, Nat.reduceBEq, Nat.reduceEqDiff, Nat.reduceLT, Nat.reduceLeDiff, Nat.reduceMul, Nat.reduceSub, reduceIte, Int.reduceEq, Int.reduceNe, Int.reduceLT, Int.reduceLE, Int.reduceAdd, Int.reduceSub, Int.reduceMul, Int.reduceNeg, Int.reduceMod, Int.reduceDiv, Int.reduceTMod, Int.reduceTDiv, Int.reduceToNat, okChain_i, okLoads_nil, okLoads_in, okLoads_eq]; rfl)
    have hl : l37_1 = .seq (.region c37_4) (.seq (.cond (.tmp 15) .skip (.exit 0)) (.seq (.block 1 (.seq (.region c37_5) (.seq (.region c37_6) (.block 2 (.loop l37_0))))) (.region c37_14))) := rfl
    rw [hl]
    simp (maxDischargeDepth := 8) only [c37_4, c37_5, c37_6, q0, q1, q4, q6, q7, q12, q13, q14, hlt, x1, x2, x3, x4, i1, s0, s1, sL_len, sL_one, sL_take, RUN, Ed, knd, kndR, resV, binInt, mnmxV, mnmx2, fillL, unV, lenV, extractV, partV, loadAt, Nat.reduceAdd, Nat.reduceBEq, Nat.reduceEqDiff, Nat.reduceLT, Nat.reduceLeDiff, Nat.reduceMul, Nat.reduceSub, reduceIte, Int.reduceEq, Int.reduceNe, Int.reduceLT, Int.reduceLE, Int.reduceAdd, Int.reduceSub, Int.reduceMul, Int.reduceNeg, Int.reduceMod, Int.reduceDiv, Int.reduceTMod, Int.reduceTDiv, Int.reduceToNat, okChain_i, okLoads_nil, okLoads_in, okLoads_eq]
    refine key _ _ ⟨?_, ?_, ?_, ?_, ?_, ?_, ?_, ?_⟩ ?_ ?_ ?_
    all_goals first | (simp (maxDischargeDepth := 8) only [q0, q1, q4, q6, q7, q12, q13, q14, RUN, Ed, knd, kndR, resV, binInt, mnmxV, mnmx2, fillL, unV, lenV, extractV, partV, loadAt, Nat.reduceAdd, Nat.reduceBEq, Nat.reduceEqDiff, Nat.reduceLT, Nat.reduceLeDiff, Nat.reduceMul, Nat.reduceSub, reduceIte, Int.reduceEq, Int.reduceNe, Int.reduceLT, Int.reduceLE, Int.reduceAdd, Int.reduceSub, Int.reduceMul, Int.reduceNeg, Int.reduceMod, Int.reduceDiv, Int.reduceTMod, Int.reduceTDiv, Int.reduceToNat, okChain_i, okLoads_nil, okLoads_in, okLoads_eq]; done) | (simp (maxDischargeDepth := 8) only [q0, q1, q4, q6, q7, q12, q13, q14, RUN, Ed, knd, kndR, resV, binInt, mnmxV, mnmx2, fillL, unV, lenV, extractV, partV, loadAt, Nat.reduceAdd, Nat.reduceBEq, Nat.reduceEqDiff, Nat.reduceLT, Nat.reduceLeDiff, Nat.reduceMul, Nat.reduceSub, reduceIte, Int.reduceEq, Int.reduceNe, Int.reduceLT, Int.reduceLE, Int.reduceAdd, Int.reduceSub, Int.reduceMul, Int.reduceNeg, Int.reduceMod, Int.reduceDiv, Int.reduceTMod, Int.reduceTDiv, Int.reduceToNat, okChain_i, okLoads_nil, okLoads_in, okLoads_eq]; rfl) | exact hm.app _
  · rintro ρ G ⟨⟨q0, q1, q4, q6, q7, q12, q13, q14⟩, hm⟩
    rw [List.take_length] at q7 hm
    have hlt : ¬ (L.length : Int) < (L.length : Int) := by omega
    refine ⟨?ρ4, G, ?run4, ⟨?_, ?_, ?_, ?_, ?_, ?_, ?_, ?_⟩, hm⟩
    case run4 =>
      simp (maxDischargeDepth := 8) only [l37_1, c37_4, q13, q14, hlt, RUN, Ed, knd, kndR, resV, binInt, mnmxV, mnmx2, fillL, unV, lenV, extractV, partV, loadAt, Nat.reduceAdd, Nat.reduceBEq, Nat.reduceEqDiff, Nat.reduceLT, Nat.reduceLeDiff, Nat.reduceMul, Nat.reduceSub, reduceIte, Int.reduceEq, Int.reduceNe, Int.reduceLT, Int.reduceLE, Int.reduceAdd, Int.reduceSub, Int.reduceMul, Int.reduceNeg, Int.reduceMod, Int.reduceDiv, Int.reduceTMod, Int.reduceTDiv, Int.reduceToNat, okChain_i, okLoads_nil, okLoads_in, okLoads_eq]
      rfl
    all_goals simp (maxDischargeDepth := 8) only [q0, q1, q4, q6, q7, q12, q13, q14, RUN, Ed, knd, kndR, resV, binInt, mnmxV, mnmx2, fillL, unV, lenV, extractV, partV, loadAt, Nat.reduceAdd, Nat.reduceBEq, Nat.reduceEqDiff, Nat.reduceLT, Nat.reduceLeDiff, Nat.reduceMul, Nat.reduceSub, reduceIte, Int.reduceEq, Int.reduceNe, Int.reduceLT, Int.reduceLE, Int.reduceAdd, Int.reduceSub, Int.reduceMul, Int.reduceNeg, Int.reduceMod, Int.reduceDiv, Int.reduceTMod, Int.reduceTDiv, Int.reduceToNat, okChain_i, okLoads_nil, okLoads_in, okLoads_eq]
theorem cover_f (v : Value) (L : List Sp) (hL : L.length ≤ 1000) (k : Int) (H : Heap) (hS : SS H v L) : ∃ X, D Try.prog hints 37 [.int .i64 k, v] H = some (.tuple ⟨[.agg ⟨sL (cov L (max k 1) L).1⟩, .bool (cov L (max k 1) L).2]⟩, H ++ X) := by
  have l1 := hS.len
  obtain ⟨G0, hG⟩ : ∃ G0, G0 = H ++ [some ⟨true, 65, sL (0, 0)⟩, some ⟨true, 65, sL (0, 0)⟩] := ⟨_, rfl⟩
  have hm : M37 H (H.length + 1) H.length (0, 0) G0 := ⟨⟨_, hG⟩, by omega, by omega, by omega, by rw [hG]; exact (live_app_add _ _ _).trans rfl, by rw [hG]; exact (live_app_len _ _).trans rfl⟩
  have key : ∀ ρ, C37 v L.length k (H.length + 1) H.length false 0 ρ → ∃ X, done [.cells 4 2, .tmp 5] (andThen (blk 0 (E Try.prog hints (.loop l37_1) ρ G0)) (E Try.prog hints (.seq (.region c37_15) .ret))) = some (.tuple ⟨[.agg ⟨sL (cov L (max k 1) L).1⟩, .bool (cov L (max k 1) L).2]⟩, H ++ X) := by
    intro ρ hs
    obtain ⟨ρ1, G1, e1, ⟨q0, q1, q4, q6, q7, q12, q13, q14⟩, hm1⟩ := outer37 H v L hL hS k (H.length + 1) H.length ρ G0 hs hm
    rw [e1]
    have kp := hm1.kp
    have kq := hm1.kq
    have ip := live_lt kp
    have iq := live_lt kq
    generalize cov L (max k 1) L = st at *
    obtain ⟨X, hX⟩ := hm1.ext.set hm1.hq (some ⟨true, 65, sL st.1⟩)
    refine ⟨X, ?_⟩
    rw [← hX]
    simp (maxDischargeDepth := 8) only [c37_15, q4, q6, q7, kp, kq, ip, iq, sL_len, sL_one, sL_take, sL_put, RUN, Ed, knd, kndR, resV, binInt, mnmxV, mnmx2, fillL, unV, lenV, extractV, partV, loadAt, Nat.reduceAdd, Nat.reduceBEq, Nat.reduceEqDiff, Nat.reduceLT, Nat.reduceLeDiff, Nat.reduceMul, Nat.reduceSub, reduceIte, Int.reduceEq, Int.reduceNe, Int.reduceLT, Int.reduceLE, Int.reduceAdd, Int.reduceSub, Int.reduceMul, Int.reduceNeg, Int.reduceMod, Int.reduceDiv, Int.reduceTMod, Int.reduceTDiv, Int.reduceToNat, okChain_i, okLoads_nil, okLoads_in, okLoads_eq]
  rw [D_eq p37 _ _ (Nat.le_of_ble_eq_true rfl)]
  have hs0 : [Value.int .i64 0, Value.int .i64 0] = sL (0, 0) := rfl
  simp (maxDischargeDepth := 8) only [r37, b37, c37_0, c37_1, c37_2, c37_3, l1, hs0, ← hG, RUN, Ed, knd, kndR, resV, binInt, mnmxV, mnmx2, fillL, unV, extractV, partV, loadAt, Nat.reduceAdd, Nat.reduceBEq, Nat.reduceEqDiff, Nat.reduceLT, Nat.reduceLeDiff, Nat.reduceMul, Nat.reduceSub, reduceIte, Int.reduceEq, Int.reduceNe, Int.reduceLT, Int.reduceLE, Int.reduceAdd, Int.reduceSub, Int.reduceMul, Int.reduceNeg, Int.reduceMod, Int.reduceDiv, Int.reduceTMod, Int.reduceTDiv, Int.reduceToNat, okChain_i, okLoads_nil, okLoads_in, okLoads_eq]
  refine key _ ⟨?_, ?_, ?_, ?_, ?_, ?_, ?_, ?_⟩
  all_goals first | (simp (maxDischargeDepth := 8) only [RUN, Ed, knd, kndR, resV, binInt, mnmxV, mnmx2, fillL, unV, lenV, extractV, partV, loadAt, Nat.reduceAdd, Nat.reduceBEq, Nat.reduceEqDiff, Nat.reduceLT, Nat.reduceLeDiff, Nat.reduceMul, Nat.reduceSub, reduceIte, Int.reduceEq, Int.reduceNe, Int.reduceLT, Int.reduceLE, Int.reduceAdd, Int.reduceSub, Int.reduceMul, Int.reduceNeg, Int.reduceMod, Int.reduceDiv, Int.reduceTMod, Int.reduceTDiv, Int.reduceToNat, okChain_i, okLoads_nil, okLoads_in, okLoads_eq]; done) | (simp (maxDischargeDepth := 8) only [RUN, Ed, knd, kndR, resV, binInt, mnmxV, mnmx2, fillL, unV, lenV, extractV, partV, loadAt, Nat.reduceAdd, Nat.reduceBEq, Nat.reduceEqDiff, Nat.reduceLT, Nat.reduceLeDiff, Nat.reduceMul, Nat.reduceSub, reduceIte, Int.reduceEq, Int.reduceNe, Int.reduceLT, Int.reduceLE, Int.reduceAdd, Int.reduceSub, Int.reduceMul, Int.reduceNeg, Int.reduceMod, Int.reduceDiv, Int.reduceTMod, Int.reduceTDiv, Int.reduceToNat, okChain_i, okLoads_nil, okLoads_in, okLoads_eq]; rfl)
end Go.Proofs.Ytbamnfladjkkcaa.Sim
