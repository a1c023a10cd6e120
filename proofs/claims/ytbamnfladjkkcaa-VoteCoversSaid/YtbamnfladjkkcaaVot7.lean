/- The laws of chapter 4: what a number that stands in so many does. -/
import Derived.Test.YtbamnfladjkkcaaVot6
import Derived.Test.YtbamnfladjkkcaaSim21
namespace Go.Proofs.Ytbamnfladjkkcaa.Sim
open Go
set_option linter.unusedSimpArgs false
set_option linter.unusedVariables false
structure C13 (x k a b : Int) (w : Value) (n j : Nat) (ρ : Fr) : Prop where
  q0 : ρ 0 = .int .i64 x
  q2 : ρ 2 = .int .i64 k
  q3 : ρ 3 = .int .i64 a
  q4 : ρ 4 = .int .i64 b
  q11 : ρ 11 = .bool true
  q12 : ρ 12 = w
  q13 : ρ 13 = .int .i64 n
  q14 : ρ 14 = .int .i64 j
theorem loop13 (x k a b : Int) (w : Value) (L : List Sp) (hL : L.length ≤ 1000) (G : Heap) (hS : SS G w L) (ρ : Fr) (hs : C13 x k a b w 0 0 ρ) :
    ∃ ρ', E Try.prog hints (.loop l13_0) ρ G = some (.exit 0, ρ', G) ∧ C13 x k a b w (cnt L x) L.length ρ' := by
  have l1 := hS.len
  obtain ⟨ρ', G', e, h, rfl⟩ := loop_inv (P := Try.prog) (hs := hints) (b := l13_0) (id := 0) (fun j ρ G' => C13 x k a b w (cnt (L.take j) x) j ρ ∧ G' = G) (fun ρ G' => C13 x k a b w (cnt L x) L.length ρ ∧ G' = G) L.length
    (by
      rintro j ρ G' hj ⟨⟨q0, q2, q3, q4, q11, q12, q13, q14⟩, rfl⟩
      have hb : L[j]? = some L[j] := List.getElem?_eq_getElem hj
      obtain ⟨c, x1, x2, x3, x4, x5, x6⟩ := hS.idx hb
      have i1 := live_ltG x2
      have hlt : (j : Int) < (L.length : Int) := by omega
      have w := wrap64 ((j : Int) + 1) (by omega) (by omega)
      have hc := cnt_succ L x j _ hb
      have hcl2 := cnt_le2 L hL x j
      have w2 := wrap64 ((cnt (L.take j) x : Int) + 1) (by omega) (by omega)
      rw [hc]
      generalize L[j] = s at *
      generalize cnt (L.take j) x = n at *
      by_cases h1 : s.1 ≤ x
      · by_cases h2 : x ≤ s.2
        · have hd : stn s x = true := by simp [stn, h1, h2]
          rw [if_pos hd]
          refine ⟨?ρ1, G', ?run1, ⟨?_, ?_, ?_, ?_, ?_, ?_, ?_, ?_⟩, rfl⟩
          case run1 =>
            simp (maxDischargeDepth := 8) only [l13_0, c13_0, c13_1, c13_2, c13_3, c13_4, c13_5, c13_6, c13_7, c13_8, c13_9, c13_10, c13_11, c13_12, c13_13, c13_14, c13_15, c13_16, c13_17, q0, q2, q3, q4, q11, q12, q13, q14, l1, hlt, x1, x2, x3, x4, x5, x6, i1, w, w2, h1, h2, RUN, Ed, knd, kndR, resV, binInt, mnmxV, mnmx2, fillL, unV, extractV, partV, loadAt, Nat.reduceAdd, Nat.reduceBEq, Nat.reduceEqDiff, Nat.reduceLT, Nat.reduceLeDiff, Nat.reduceMul, Nat.reduceSub, reduceIte, Int.reduceEq, Int.reduceNe, Int.reduceLT, Int.reduceLE, Int.reduceAdd, Int.reduceSub, Int.reduceMul, Int.reduceNeg, Int.reduceMod, Int.reduceDiv, Int.reduceTMod, Int.reduceTDiv, Int.reduceToNat, okChain_i, okLoads_nil, okLoads_in, okLoads_eq]
            rfl
          all_goals first | (simp (maxDischargeDepth := 8) only [q0, q2, q3, q4, q11, q12, q13, q14, RUN, Ed, knd, kndR, resV, binInt, mnmxV, mnmx2, fillL, unV, lenV, extractV, partV, loadAt, Nat.reduceAdd, Nat.reduceBEq, Nat.reduceEqDiff, Nat.reduceLT, Nat.reduceLeDiff, Nat.reduceMul, Nat.reduceSub, reduceIte, Int.reduceEq, Int.reduceNe, Int.reduceLT, Int.reduceLE, Int.reduceAdd, Int.reduceSub, Int.reduceMul, Int.reduceNeg, Int.reduceMod, Int.reduceDiv, Int.reduceTMod, Int.reduceTDiv, Int.reduceToNat, okChain_i, okLoads_nil, okLoads_in, okLoads_eq]; done) | (simp (maxDischargeDepth := 8) only [q0, q2, q3, q4, q11, q12, q13, q14, RUN, Ed, knd, kndR, resV, binInt, mnmxV, mnmx2, fillL, unV, lenV, extractV, partV, loadAt, Nat.reduceAdd, Nat.reduceBEq, Nat.reduceEqDiff, Nat.reduceLT, Nat.reduceLeDiff, Nat.reduceMul, Nat.reduceSub, reduceIte, Int.reduceEq, Int.reduceNe, Int.reduceLT, Int.reduceLE, Int.reduceAdd, Int.reduceSub, Int.reduceMul, Int.reduceNeg, Int.reduceMod, Int.reduceDiv, Int.reduceTMod, Int.reduceTDiv, Int.reduceToNat, okChain_i, okLoads_nil, okLoads_in, okLoads_eq]; rfl)
        · have hd : ¬ stn s x = true := by simp [stn, h2]
          rw [if_neg hd]
          refine ⟨?ρ2, G', ?run2, ⟨?_, ?_, ?_, ?_, ?_, ?_, ?_, ?_⟩, rfl⟩
          case run2 =>
            simp (maxDischargeDepth := 8) only [l13_0, c13_0, c13_1, c13_2, c13_3, c13_4, c13_5, c13_6, c13_7, c13_8, c13_9, c13_10, c13_11, c13_12, c13_13, c13_14, c13_15, c13_16, c13_17, q0, q2, q3, q4, q11, q12, q13, q14, l1, hlt, x1, x2, x3, x4, x5, x6, i1, w, w2, h1, h2, RUN, Ed, knd, kndR, resV, binInt, mnmxV, mnmx2, fillL, unV, extractV, partV, loadAt, Nat.reduceAdd, Nat.reduceBEq, Nat.reduceEqDiff, Nat.reduceLT, Nat.reduceLeDiff, Nat.reduceMul, Nat.reduceSub, reduceIte, Int.reduceEq, Int.reduceNe, Int.reduceLT, Int.reduceLE, Int.reduceAdd, Int.reduceSub, Int.reduceMul, Int.reduceNeg, Int.reduceMod, Int.reduceDiv, Int.reduceTMod, Int.reduceTDiv, Int.reduceToNat, okChain_i, okLoads_nil, okLoads_in, okLoads_eq]
            rfl
          all_goals first | (simp (maxDischargeDepth := 8) only [q0, q2, q3, q4, q11, q12, q13, q14, RUN, Ed, knd, kndR, resV, binInt, mnmxV, mnmx2, fillL, unV, lenV, extractV, partV, loadAt, Nat.reduceAdd, Nat.reduceBEq, Nat.reduceEqDiff, Nat.reduceLT, Nat.reduceLeDiff, Nat.reduceMul, Nat.reduceSub, reduceIte, Int.reduceEq, Int.reduceNe, Int.reduceLT, Int.reduceLE, Int.reduceAdd, Int.reduceSub, Int.reduceMul, Int.reduceNeg, Int.reduceMod, Int.reduceDiv, Int.reduceTMod, Int.reduceTDiv, Int.reduceToNat, okChain_i, okLoads_nil, okLoads_in, okLoads_eq]; done) | (simp (maxDischargeDepth := 8) only [q0, q2, q3, q4, q11, q12, q13, q14, RUN, Ed, knd, kndR, resV, binInt, mnmxV, mnmx2, fillL, unV, lenV, extractV, partV, loadAt, Nat.reduceAdd, Nat.reduceBEq, Nat.reduceEqDiff, Nat.reduceLT, Nat.reduceLeDiff, Nat.reduceMul, Nat.reduceSub, reduceIte, Int.reduceEq, Int.reduceNe, Int.reduceLT, Int.reduceLE, Int.reduceAdd, Int.reduceSub, Int.reduceMul, Int.reduceNeg, Int.reduceMod, Int.reduceDiv, Int.reduceTMod, Int.reduceTDiv, Int.reduceToNat, okChain_i, okLoads_nil, okLoads_in, okLoads_eq]; rfl)
      · have hd : ¬ stn s x = true := by simp [stn, h1]
        rw [if_neg hd]
        refine ⟨?ρ3, G', ?run3, ⟨?_, ?_, ?_, ?_, ?_, ?_, ?_, ?_⟩, rfl⟩
        case run3 =>
          simp (maxDischargeDepth := 8) only [l13_0, c13_0, c13_1, c13_2, c13_3, c13_4, c13_5, c13_6, c13_7, c13_8, c13_9, c13_10, c13_11, c13_12, c13_13, c13_14, c13_15, c13_16, c13_17, q0, q2, q3, q4, q11, q12, q13, q14, l1, hlt, x1, x2, x3, x4, x5, x6, i1, w, w2, h1, RUN, Ed, knd, kndR, resV, binInt, mnmxV, mnmx2, fillL, unV, extractV, partV, loadAt, Nat.reduceAdd, Nat.reduceBEq, Nat.reduceEqDiff, Nat.reduceLT, Nat.reduceLeDiff, Nat.reduceMul, Nat.reduceSub, reduceIte, Int.reduceEq, Int.reduceNe, Int.reduceLT, Int.reduceLE, Int.reduceAdd, Int.reduceSub, Int.reduceMul, Int.reduceNeg, Int.reduceMod, Int.reduceDiv, Int.reduceTMod, Int.reduceTDiv, Int.reduceToNat, okChain_i, okLoads_nil, okLoads_in, okLoads_eq]
          rfl
        all_goals first | (simp (maxDischargeDepth := 8) only [q0, q2, q3, q4, q11, q12, q13, q14, RUN, Ed, knd, kndR, resV, binInt, mnmxV, mnmx2, fillL, unV, lenV, extractV, partV, loadAt, Nat.reduceAdd, Nat.reduceBEq, Nat.reduceEqDiff, Nat.reduceLT, Nat.reduceLeDiff, Nat.reduceMul, Nat.reduceSub, reduceIte, Int.reduceEq, Int.reduceNe, Int.reduceLT, Int.reduceLE, Int.reduceAdd, Int.reduceSub, Int.reduceMul, Int.reduceNeg, Int.reduceMod, Int.reduceDiv, Int.reduceTMod, Int.reduceTDiv, Int.reduceToNat, okChain_i, okLoads_nil, okLoads_in, okLoads_eq]; done) | (simp (maxDischargeDepth := 8) only [q0, q2, q3, q4, q11, q12, q13, q14, RUN, Ed, knd, kndR, resV, binInt, mnmxV, mnmx2, fillL, unV, lenV, extractV, partV, loadAt, Nat.reduceAdd, Nat.reduceBEq, Nat.reduceEqDiff, Nat.reduceLT, Nat.reduceLeDiff, Nat.reduceMul, Nat.reduceSub, reduceIte, Int.reduceEq, Int.reduceNe, Int.reduceLT, Int.reduceLE, Int.reduceAdd, Int.reduceSub, Int.reduceMul, Int.reduceNeg, Int.reduceMod, Int.reduceDiv, Int.reduceTMod, Int.reduceTDiv, Int.reduceToNat, okChain_i, okLoads_nil, okLoads_in, okLoads_eq]; rfl))
    (by
      rintro ρ G' ⟨⟨q0, q2, q3, q4, q11, q12, q13, q14⟩, rfl⟩
      rw [List.take_length] at q13
      have hlt : ¬ (L.length : Int) < (L.length : Int) := by omega
      refine ⟨?ρ4, G', ?run4, ⟨?_, ?_, ?_, ?_, ?_, ?_, ?_, ?_⟩, rfl⟩
      case run4 =>
        simp (maxDischargeDepth := 8) only [l13_0, c13_9, q12, q14, l1, hlt, RUN, Ed, knd, kndR, resV, binInt, mnmxV, mnmx2, fillL, unV, extractV, partV, loadAt, Nat.reduceAdd, Nat.reduceBEq, Nat.reduceEqDiff, Nat.reduceLT, Nat.reduceLeDiff, Nat.reduceMul, Nat.reduceSub, reduceIte, Int.reduceEq, Int.reduceNe, Int.reduceLT, Int.reduceLE, Int.reduceAdd, Int.reduceSub, Int.reduceMul, Int.reduceNeg, Int.reduceMod, Int.reduceDiv, Int.reduceTMod, Int.reduceTDiv, Int.reduceToNat, okChain_i, okLoads_nil, okLoads_in, okLoads_eq]
        rfl
      all_goals simp (maxDischargeDepth := 8) only [q0, q2, q3, q4, q11, q12, q13, q14, RUN, Ed, knd, kndR, resV, binInt, mnmxV, mnmx2, fillL, unV, lenV, extractV, partV, loadAt, Nat.reduceAdd, Nat.reduceBEq, Nat.reduceEqDiff, Nat.reduceLT, Nat.reduceLeDiff, Nat.reduceMul, Nat.reduceSub, reduceIte, Int.reduceEq, Int.reduceNe, Int.reduceLT, Int.reduceLE, Int.reduceAdd, Int.reduceSub, Int.reduceMul, Int.reduceNeg, Int.reduceMod, Int.reduceDiv, Int.reduceTMod, Int.reduceTDiv, Int.reduceToNat, okChain_i, okLoads_nil, okLoads_in, okLoads_eq])
    ρ G ⟨hs, rfl⟩
  exact ⟨ρ', e, h⟩
def u13 : RCode := (.seq (.region c13_16) (.seq (.region c13_17) .ret))
def t13 : RCode := (.seq (.region c13_13) (.seq (.seq (.region c13_14) (.cond (.tmp 82) (.seq (.region c13_15) .ret) .skip)) u13))
theorem b13t : b13 = (.seq (.region c13_0) (.seq (.region c13_1) (.seq (.seq (.region c13_2) (.cond (.tmp 20) (.seq (.region c13_3) .ret) .skip)) (.seq (.seq (.region c13_4) (.cond (.tmp 23) (.seq (.region c13_5) .ret) .skip)) (.seq (.region c13_6) (.seq (.region c13_7) (.seq (.seq (.region c13_8) (.block 0 (.loop l13_0))) t13))))))) := (rfl)
theorem tail13 (x k a b : Int) (w : Value) (L : List Sp) (hL : L.length ≤ 1000) (G : Heap) (hS : SS G w L) (ρ : Fr) (hs : C13 x k a b w (cnt L x) L.length ρ) : Ok (done [.tmp 10] (E Try.prog hints t13 ρ G)) := by
  obtain ⟨q0, q2, q3, q4, q11, q12, q13, q14⟩ := hs
  have hz : [Value.int .i64 0, Value.int .i64 0] = sL (0, 0) := rfl
  obtain ⟨X2, e2⟩ := cover_f w L hL k G hS
  have p1 := cov_in L (max k 1) (by omega) x
  have p2 := cnt_mst L x
  have p3 := cov_is L (max k 1) (by omega)
  generalize cov L (max k 1) L = st at *
  obtain ⟨o, f⟩ := st
  simp only at p1 p3 e2
  obtain ⟨X7, e7⟩ := most_f w L hL ((G ++ X2) ++ [some ⟨true, 65, sL o⟩]) ((hS.more _).more _)
  obtain ⟨X8, e8⟩ := most_f w L hL (((G ++ X2) ++ [some ⟨true, 65, sL o⟩]) ++ X7) (((hS.more _).more _).more _)
  have n2 : ¬ (mst L L < (cnt L x : Int)) := by omega
  have s0 : (sL o)[0]? = some (.int .i64 o.1) := rfl
  have s1 : (sL o)[1]? = some (.int .i64 o.2) := rfl
  have m1 := fun F => mid_f x a b F
  have m2 := fun F => mid_f b x a F
  have m3 := fun F => mid_f a b x F
  have m4 := fun F => mid_f x x a F
  rw [show midP b x a = midP x a b by unfold midP; omega] at m2
  rw [show midP a b x = midP x a b by unfold midP; omega] at m3
  rw [show midP x x a = x by unfold midP; omega] at m4
  have y1 : min (min x a) b ≤ midP x a b := by unfold midP; omega
  have y2 : midP x a b ≤ max (max x a) b := by unfold midP; omega
  have y3 : midP x a b = x ∨ midP x a b = a ∨ midP x a b = b := by unfold midP; omega
  generalize midP x a b = m at *
  simp only [List.append_assoc, List.cons_append, List.nil_append] at e2 e7 e8
  have dm : decide (m = m) = true := by simp
  have dx : decide (x = x) = true := by simp
  have ff : (f == f) = true := by cases f <;> rfl
  have p3' : (f == decide (max k 1 ≤ mst L L)) = true := by rw [← p3]; exact ff
  have fin : ∀ ρ' F, ρ' 0 = .int .i64 x → ρ' 2 = .int .i64 k → ρ' 3 = .int .i64 a → ρ' 4 = .int .i64 b → ρ' 11 = .bool true → ρ' 12 = w → ρ' 16 = .bool f → SS F w L → Ok (done [.tmp 10] (E Try.prog hints u13 ρ' F)) := by
    intro ρ' F z0 z2 z3 z4 z11 z12 z16 hF
    obtain ⟨X9, e9⟩ := most_f w L hL F hF
    by_cases c1 : m = x
    · have d1 : decide (m = x) = true := by simp [c1]
      simp (maxDischargeDepth := 8) only [u13, c13_0, c13_1, c13_2, c13_3, c13_4, c13_5, c13_6, c13_7, c13_8, c13_9, c13_10, c13_11, c13_12, c13_13, c13_14, c13_15, c13_16, c13_17, z0, z2, z3, z4, z11, z12, z16, m1, m2, m3, m4, y1, y2, d1, dm, dx, p3', e9, minE, maxE, RUN, Ed, knd, kndR, resV, binInt, mnmxV, mnmx2, fillL, unV, lenV, extractV, partV, loadAt, Nat.reduceAdd, Nat.reduceBEq, Nat.reduceEqDiff, Nat.reduceLT, Nat.reduceLeDiff, Nat.reduceMul, Nat.reduceSub, reduceIte, Int.reduceEq, Int.reduceNe, Int.reduceLT, Int.reduceLE, Int.reduceAdd, Int.reduceSub, Int.reduceMul, Int.reduceNeg, Int.reduceMod, Int.reduceDiv, Int.reduceTMod, Int.reduceTDiv, Int.reduceToNat, okChain_i, okLoads_nil, okLoads_in, okLoads_eq]
      exact Ok.mk _
    · have d1 : decide (m = x) = false := by simp [c1]
      by_cases c2 : m = a
      · have d2 : decide (m = a) = true := by simp [c2]
        simp (maxDischargeDepth := 8) only [u13, c13_0, c13_1, c13_2, c13_3, c13_4, c13_5, c13_6, c13_7, c13_8, c13_9, c13_10, c13_11, c13_12, c13_13, c13_14, c13_15, c13_16, c13_17, z0, z2, z3, z4, z11, z12, z16, m1, m2, m3, m4, y1, y2, d1, d2, dm, dx, p3', e9, minE, maxE, RUN, Ed, knd, kndR, resV, binInt, mnmxV, mnmx2, fillL, unV, lenV, extractV, partV, loadAt, Nat.reduceAdd, Nat.reduceBEq, Nat.reduceEqDiff, Nat.reduceLT, Nat.reduceLeDiff, Nat.reduceMul, Nat.reduceSub, reduceIte, Int.reduceEq, Int.reduceNe, Int.reduceLT, Int.reduceLE, Int.reduceAdd, Int.reduceSub, Int.reduceMul, Int.reduceNeg, Int.reduceMod, Int.reduceDiv, Int.reduceTMod, Int.reduceTDiv, Int.reduceToNat, okChain_i, okLoads_nil, okLoads_in, okLoads_eq]
        exact Ok.mk _
      · have d2 : decide (m = a) = false := by simp [c2]
        have d3 : decide (m = b) = true := by rcases y3 with h | h | h <;> simp_all
        simp (maxDischargeDepth := 8) only [u13, c13_0, c13_1, c13_2, c13_3, c13_4, c13_5, c13_6, c13_7, c13_8, c13_9, c13_10, c13_11, c13_12, c13_13, c13_14, c13_15, c13_16, c13_17, z0, z2, z3, z4, z11, z12, z16, m1, m2, m3, m4, y1, y2, d1, d2, d3, dm, dx, p3', e9, minE, maxE, RUN, Ed, knd, kndR, resV, binInt, mnmxV, mnmx2, fillL, unV, lenV, extractV, partV, loadAt, Nat.reduceAdd, Nat.reduceBEq, Nat.reduceEqDiff, Nat.reduceLT, Nat.reduceLeDiff, Nat.reduceMul, Nat.reduceSub, reduceIte, Int.reduceEq, Int.reduceNe, Int.reduceLT, Int.reduceLE, Int.reduceAdd, Int.reduceSub, Int.reduceMul, Int.reduceNeg, Int.reduceMod, Int.reduceDiv, Int.reduceTMod, Int.reduceTDiv, Int.reduceToNat, okChain_i, okLoads_nil, okLoads_in, okLoads_eq]
        exact Ok.mk _
  by_cases h1 : max k 1 ≤ (cnt L x : Int)
  · obtain ⟨f1, f2, f3⟩ := p1 h1
    subst f1
    have g2 : ¬ (x < o.1) := by omega
    have g3 : ¬ (o.2 < x) := by omega
    simp (maxDischargeDepth := 8) only [t13, c13_13, c13_14, c13_15, q0, q2, q3, q4, q11, q12, q13, q14, h1, g2, g3, n2, e2, e7, hz, s0, s1, maxE, sL_len, sL_one, sL_take, sL_put, RUN, Ed, knd, kndR, resV, binInt, mnmxV, mnmx2, fillL, unV, lenV, extractV, partV, loadAt, Nat.reduceAdd, Nat.reduceBEq, Nat.reduceEqDiff, Nat.reduceLT, Nat.reduceLeDiff, Nat.reduceMul, Nat.reduceSub, reduceIte, Int.reduceEq, Int.reduceNe, Int.reduceLT, Int.reduceLE, Int.reduceAdd, Int.reduceSub, Int.reduceMul, Int.reduceNeg, Int.reduceMod, Int.reduceDiv, Int.reduceTMod, Int.reduceTDiv, Int.reduceToNat, okChain_i, okLoads_nil, okLoads_in, okLoads_eq]
    refine fin _ _ ?_ ?_ ?_ ?_ ?_ ?_ ?_ ?_
    all_goals first | (simp (maxDischargeDepth := 8) only [q0, q2, q3, q4, q11, q12, q13, q14, RUN, Ed, knd, kndR, resV, binInt, mnmxV, mnmx2, fillL, unV, lenV, extractV, partV, loadAt, Nat.reduceAdd, Nat.reduceBEq, Nat.reduceEqDiff, Nat.reduceLT, Nat.reduceLeDiff, Nat.reduceMul, Nat.reduceSub, reduceIte, Int.reduceEq, Int.reduceNe, Int.reduceLT, Int.reduceLE, Int.reduceAdd, Int.reduceSub, Int.reduceMul, Int.reduceNeg, Int.reduceMod, Int.reduceDiv, Int.reduceTMod, Int.reduceTDiv, Int.reduceToNat, okChain_i, okLoads_nil, okLoads_in, okLoads_eq]; done) | (have := ((hS.more X2).more [some ⟨true, 65, sL o⟩]).more X7; simpa only [List.append_assoc, List.cons_append, List.nil_append] using this)
  · have h1' : ¬ (max k 1 ≤ (cnt L x : Int)) := h1
    simp (maxDischargeDepth := 8) only [t13, c13_13, c13_14, c13_15, q0, q2, q3, q4, q11, q12, q13, q14, h1, n2, e2, e7, hz, s0, s1, maxE, sL_len, sL_one, sL_take, sL_put, RUN, Ed, knd, kndR, resV, binInt, mnmxV, mnmx2, fillL, unV, lenV, extractV, partV, loadAt, Nat.reduceAdd, Nat.reduceBEq, Nat.reduceEqDiff, Nat.reduceLT, Nat.reduceLeDiff, Nat.reduceMul, Nat.reduceSub, reduceIte, Int.reduceEq, Int.reduceNe, Int.reduceLT, Int.reduceLE, Int.reduceAdd, Int.reduceSub, Int.reduceMul, Int.reduceNeg, Int.reduceMod, Int.reduceDiv, Int.reduceTMod, Int.reduceTDiv, Int.reduceToNat, okChain_i, okLoads_nil, okLoads_in, okLoads_eq]
    refine fin _ _ ?_ ?_ ?_ ?_ ?_ ?_ ?_ ?_
    all_goals first | (simp (maxDischargeDepth := 8) only [q0, q2, q3, q4, q11, q12, q13, q14, RUN, Ed, knd, kndR, resV, binInt, mnmxV, mnmx2, fillL, unV, lenV, extractV, partV, loadAt, Nat.reduceAdd, Nat.reduceBEq, Nat.reduceEqDiff, Nat.reduceLT, Nat.reduceLeDiff, Nat.reduceMul, Nat.reduceSub, reduceIte, Int.reduceEq, Int.reduceNe, Int.reduceLT, Int.reduceLE, Int.reduceAdd, Int.reduceSub, Int.reduceMul, Int.reduceNeg, Int.reduceMod, Int.reduceDiv, Int.reduceTMod, Int.reduceTDiv, Int.reduceToNat, okChain_i, okLoads_nil, okLoads_in, okLoads_eq]; done) | (have := ((hS.more X2).more [some ⟨true, 65, sL o⟩]).more X7; simpa only [List.append_assoc, List.cons_append, List.nil_append] using this)
theorem holds (x k a b : Int) (v : Value) (A : List Int) (H : Heap) (hA : TS H v A) : Ok (D Try.prog hints 13 [.int .i64 x, v, .int .i64 k, .int .i64 a, .int .i64 b] H) := by
  obtain ⟨X0, e0⟩ := first_f H
  have l1 := hA.len
  rw [D_eq p13 _ _ (Nat.le_of_ble_eq_true rfl)]
  by_cases h1 : (40 : Int) < (A.length : Int)
  · simp (maxDischargeDepth := 8) only [r13, b13, c13_0, c13_1, c13_2, c13_3, c13_4, c13_5, c13_6, c13_7, c13_8, c13_9, c13_10, c13_11, c13_12, c13_13, c13_14, c13_15, c13_16, c13_17, e0, l1, h1, RUN, Ed, knd, kndR, resV, binInt, mnmxV, mnmx2, fillL, unV, extractV, partV, loadAt, Nat.reduceAdd, Nat.reduceBEq, Nat.reduceEqDiff, Nat.reduceLT, Nat.reduceLeDiff, Nat.reduceMul, Nat.reduceSub, reduceIte, Int.reduceEq, Int.reduceNe, Int.reduceLT, Int.reduceLE, Int.reduceAdd, Int.reduceSub, Int.reduceMul, Int.reduceNeg, Int.reduceMod, Int.reduceDiv, Int.reduceTMod, Int.reduceTDiv, Int.reduceToNat, okChain_i, okLoads_nil, okLoads_in, okLoads_eq]
    exact Ok.mk _
  obtain ⟨w, X1, e1, hS1⟩ := spans_f (H ++ X0) v A (hA.more X0) (by omega)
  have hL : (spn A).length ≤ 1000 := by rw [spn_len]; omega
  generalize spn A = L at *
  simp (maxDischargeDepth := 8) only [r13, b13t, c13_0, c13_1, c13_2, c13_3, c13_4, c13_5, c13_6, c13_7, c13_8, e0, l1, h1, e1, RUN, Ed, knd, kndR, resV, binInt, mnmxV, mnmx2, fillL, unV, extractV, partV, loadAt, Nat.reduceAdd, Nat.reduceBEq, Nat.reduceEqDiff, Nat.reduceLT, Nat.reduceLeDiff, Nat.reduceMul, Nat.reduceSub, reduceIte, Int.reduceEq, Int.reduceNe, Int.reduceLT, Int.reduceLE, Int.reduceAdd, Int.reduceSub, Int.reduceMul, Int.reduceNeg, Int.reduceMod, Int.reduceDiv, Int.reduceTMod, Int.reduceTDiv, Int.reduceToNat, okChain_i, okLoads_nil, okLoads_in, okLoads_eq]
  rw [List.append_assoc] at hS1
  refine cut_loop (fun ρ G => C13 x k a b w 0 0 ρ ∧ G = H ++ (X0 ++ X1)) (fun ρ G => C13 x k a b w (cnt L x) L.length ρ ∧ G = H ++ (X0 ++ X1)) ⟨⟨?_, ?_, ?_, ?_, ?_, ?_, ?_, ?_⟩, rfl⟩ ?_ ?_
  all_goals first | (simp (maxDischargeDepth := 8) only [RUN, Ed, knd, kndR, resV, binInt, mnmxV, mnmx2, fillL, unV, lenV, extractV, partV, loadAt, Nat.reduceAdd, Nat.reduceBEq, Nat.reduceEqDiff, Nat.reduceLT, Nat.reduceLeDiff, Nat.reduceMul, Nat.reduceSub, reduceIte, Int.reduceEq, Int.reduceNe, Int.reduceLT, Int.reduceLE, Int.reduceAdd, Int.reduceSub, Int.reduceMul, Int.reduceNeg, Int.reduceMod, Int.reduceDiv, Int.reduceTMod, Int.reduceTDiv, Int.reduceToNat, okChain_i, okLoads_nil, okLoads_in, okLoads_eq]; done) | (simp (maxDischargeDepth := 8) only [RUN, Ed, knd, kndR, resV, binInt, mnmxV, mnmx2, fillL, unV, lenV, extractV, partV, loadAt, Nat.reduceAdd, Nat.reduceBEq, Nat.reduceEqDiff, Nat.reduceLT, Nat.reduceLeDiff, Nat.reduceMul, Nat.reduceSub, reduceIte, Int.reduceEq, Int.reduceNe, Int.reduceLT, Int.reduceLE, Int.reduceAdd, Int.reduceSub, Int.reduceMul, Int.reduceNeg, Int.reduceMod, Int.reduceDiv, Int.reduceTMod, Int.reduceTDiv, Int.reduceToNat, okChain_i, okLoads_nil, okLoads_in, okLoads_eq]; rfl) | skip
  · rintro ρ G ⟨hs, rfl⟩
    obtain ⟨ρ', e, h⟩ := loop13 x k a b w L hL _ hS1 ρ hs
    exact ⟨ρ', _, e, h, rfl⟩
  · rintro ρ G ⟨hs, rfl⟩
    exact tail13 x k a b w L hL _ hS1 ρ hs
def sh12 : List Sh := [.int .i64, .int .i64, .int .i64, .slice (.int .i64), .int .i64]
def sh13 : List Sh := [.int .i64, .slice (.int .i64), .int .i64, .int .i64, .int .i64]
theorem says_law (H : Heap) (ls : List (List Value)) (o : OpnAll H sh12 ls) : Ok (D Try.prog hints 12 (argsS sh12 ls) H) := by
  obtain ⟨l0, _, rfl, h0, o⟩ := o.uncons
  obtain ⟨l1, _, rfl, h1, o⟩ := o.uncons
  obtain ⟨l2, _, rfl, h2, o⟩ := o.uncons
  obtain ⟨l3, _, rfl, h3, o⟩ := o.uncons
  obtain ⟨l4, _, rfl, h4, o⟩ := o.uncons
  cases o.unnil
  obtain ⟨v, A, rfl, hA⟩ := Opn_ints h3
  simp only [Opn.eq_1] at h0 h1 h2 h4
  obtain ⟨a, rfl, _⟩ := h0
  obtain ⟨b, rfl, _⟩ := h1
  obtain ⟨c, rfl, _⟩ := h2
  obtain ⟨k, rfl, _⟩ := h4
  exact says a b c k v A H hA
theorem holds_law (H : Heap) (ls : List (List Value)) (o : OpnAll H sh13 ls) : Ok (D Try.prog hints 13 (argsS sh13 ls) H) := by
  obtain ⟨l0, _, rfl, h0, o⟩ := o.uncons
  obtain ⟨l1, _, rfl, h1, o⟩ := o.uncons
  obtain ⟨l2, _, rfl, h2, o⟩ := o.uncons
  obtain ⟨l3, _, rfl, h3, o⟩ := o.uncons
  obtain ⟨l4, _, rfl, h4, o⟩ := o.uncons
  cases o.unnil
  obtain ⟨v, A, rfl, hA⟩ := Opn_ints h1
  simp only [Opn.eq_1] at h0 h2 h3 h4
  obtain ⟨x, rfl, _⟩ := h0
  obtain ⟨k, rfl, _⟩ := h2
  obtain ⟨a, rfl, _⟩ := h3
  obtain ⟨b, rfl, _⟩ := h4
  exact holds x k a b v A H hA
end Go.Proofs.Ytbamnfladjkkcaa.Sim
