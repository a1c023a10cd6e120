/- The laws of chapter 4: votes. -/
import Derived.Test.YtbamnfladjkkcaaVot5
import Derived.Test.YtbamnfladjkkcaaSim21
namespace Go.Proofs.Ytbamnfladjkkcaa.Sim
open Go
set_option linter.unusedSimpArgs false
set_option linter.unusedVariables false
/-- Numbers as spans, two by two. -/
def spn : List Int → List Sp
  | a :: b :: l => spOf a b :: spn l
  | _ => []
theorem spn_len : ∀ (A : List Int), (spn A).length = A.length / 2
  | [] => rfl
  | [a] => by simp [spn]
  | a :: b :: l => by simp only [spn, List.length_cons, spn_len l]; omega
theorem spn_get : ∀ (A : List Int) (j : Nat) (a b : Int), A[2 * j]? = some a → A[2 * j + 1]? = some b → (spn A)[j]? = some (spOf a b)
  | [], j, a, b, h, _ => by simp at h
  | [x], j, a, b, _, h => by simp at h
  | x :: y :: l, 0, a, b, h, g => by simp at h g; subst h; subst g; rfl
  | x :: y :: l, j + 1, a, b, h, g => by
    rw [show 2 * (j + 1) = (2 * j + 1) + 1 by omega, List.getElem?_cons_succ, List.getElem?_cons_succ] at h
    rw [show 2 * (j + 1) + 1 = (2 * j + 1 + 1) + 1 by omega, List.getElem?_cons_succ, List.getElem?_cons_succ] at g
    simp only [spn, List.getElem?_cons_succ]
    exact spn_get l j a b h g
theorem spn_norm : ∀ (A : List Int), Norm (spn A)
  | [] => by intro s h; simp [spn] at h
  | [a] => by intro s h; simp [spn] at h
  | a :: b :: l => by
    intro s h
    simp only [spn] at h
    rcases List.mem_cons.1 h with rfl | h
    · simp only [spOf]; omega
    · exact spn_norm l s h
def SO (H G : Heap) (v : Value) (L : List Sp) : Prop := SM 65 2 H G v L.length (spL L) ∧ (L = [] → v = .slice none 0 0)
theorem SO.SS {H G : Heap} {v : Value} {L : List Sp} (h : SO H G v L) : Sim.SS G v L := by
  obtain ⟨h, hn⟩ := h
  by_cases hL : L = []
  · exact .inl ⟨hL, hn hL⟩
  · rcases h with ⟨h1, _, _⟩ | ⟨c, _, h2, h3, _⟩
    · exact (hL (List.eq_nil_of_length_eq_zero h1)).elim
    · exact .inr ⟨hL, c, h2, h3⟩
structure C36 (v w : Value) (j : Nat) (ρ : Fr) : Prop where
  q0 : ρ 0 = v
  q3 : ρ 3 = w
  q4 : ρ 4 = .int .i64 (2 * j : Nat)
theorem round36 (H : Heap) (v : Value) (A : List Int) (hA : TS H v A) (hl : A.length ≤ 1000) (j : Nat) (hj : 2 * j + 1 < A.length) (w : Value) (ρ : Fr) (G : Heap) (hs : C36 v w j ρ) (he : Ext H G) (hm : SO H G w ((spn A).take j)) :
    ∃ ρ' G' w', E Try.prog hints l36_0 ρ G = some (.normal, ρ', G') ∧ C36 v w' (j + 1) ρ' ∧ Ext H G' ∧ SO H G' w' ((spn A).take (j + 1)) := by
  obtain ⟨q0, q3, q4⟩ := hs
  have l1 := hA.len
  have hg1 : A[2 * j]? = some A[2 * j] := List.getElem?_eq_getElem (by omega)
  have hg2 : A[2 * j + 1]? = some A[2 * j + 1] := List.getElem?_eq_getElem (by omega)
  have hb := spn_get A j _ _ hg1 hg2
  have hle : ((spn A).take j).length = j := by rw [List.length_take, spn_len]; omega
  obtain ⟨X, rfl⟩ := he
  obtain ⟨c, x1, ty, cells, x2, x3⟩ := (hA.more X).idx hg1
  obtain ⟨c', y1, ty', cells', y2, y3⟩ := (hA.more X).idx hg2
  have i1 := live_ltG x2
  have i2 := live_ltG y2
  have hc : (((2 * j : Nat) : Int) + 1) = ((2 * j + 1 : Nat) : Int) := by omega
  have hc2 : (((2 * j : Nat) : Int) + 2) = ((2 * (j + 1) : Nat) : Int) := by omega
  have hlt : ((2 * j + 1 : Nat) : Int) < (A.length : Int) := by omega
  have w1 := wrap64 ((2 * j + 1 : Nat) : Int) (by omega) (by omega)
  have w2 := wrap64 ((2 * (j + 1) : Nat) : Int) (by omega) (by omega)
  have hone := sL_one (spOf A[2 * j] A[2 * j + 1])
  have hF : Ext (H ++ X) ((H ++ X) ++ [some ⟨true, 65, sL (spOf A[2 * j] A[2 * j + 1])⟩, some ⟨true, 65, sL (spOf A[2 * j] A[2 * j + 1])⟩]) := Ext.more _ _
  obtain ⟨w', F', ea, hm', he', _, _, _⟩ := hm.1.append (bytes := 16) (Ext.more H X) hF (j := (H ++ X).length + 1) (m := 1) (e := 2) (cs := sL (spOf A[2 * j] A[2 * j + 1])) ((live_app_add _ _ _).trans rfl) (by omega) rfl (by omega) hone
  have hO : SO H F' w' ((spn A).take (j + 1)) := by
    rw [take_get (spn A) j _ hb]
    refine ⟨by simpa [spL_app, spL, hle] using hm', fun h => by simp at h⟩
  simp only [List.length_append, Nat.add_assoc, List.append_assoc, List.cons_append, List.nil_append] at ea
  generalize A[2 * j] = a at *
  generalize A[2 * j + 1] = b at *
  have e52 := fun F => of_f a b F
  refine ⟨?ρ1, F', w', ?run1, ⟨?_, ?_, ?_⟩, he', hO⟩
  case run1 =>
    simp (maxDischargeDepth := 8) only [l36_0, c36_0, c36_1, c36_2, c36_3, c36_4, c36_5, c36_6, q0, q3, q4, l1, hc, hc2, hlt, w1, w2, x1, x2, x3, y1, y2, y3, i1, i2, e52, ea, sL_len, sL_one, sL_take, RUN, Ed, knd, kndR, resV, binInt, mnmxV, mnmx2, fillL, unV, extractV, partV, loadAt, Nat.reduceAdd, Nat.reduceBEq, Nat.reduceEqDiff, Nat.reduceLT, Nat.reduceLeDiff, Nat.reduceMul, Nat.reduceSub, reduceIte, Int.reduceEq, Int.reduceNe, Int.reduceLT, Int.reduceLE, Int.reduceAdd, Int.reduceSub, Int.reduceMul, Int.reduceNeg, Int.reduceMod, Int.reduceDiv, Int.reduceTMod, Int.reduceTDiv, Int.reduceToNat, okChain_i, okLoads_nil, okLoads_in, okLoads_eq]
    rfl
  all_goals first | (simp (maxDischargeDepth := 8) only [q0, q3, q4, RUN, Ed, knd, kndR, resV, binInt, mnmxV, mnmx2, fillL, unV, lenV, extractV, partV, loadAt, Nat.reduceAdd, Nat.reduceBEq, Nat.reduceEqDiff, Nat.reduceLT, Nat.reduceLeDiff, Nat.reduceMul, Nat.reduceSub, reduceIte, Int.reduceEq, Int.reduceNe, Int.reduceLT, Int.reduceLE, Int.reduceAdd, Int.reduceSub, Int.reduceMul, Int.reduceNeg, Int.reduceMod, Int.reduceDiv, Int.reduceTMod, Int.reduceTDiv, Int.reduceToNat, okChain_i, okLoads_nil, okLoads_in, okLoads_eq]; done) | (simp (maxDischargeDepth := 8) only [q0, q3, q4, RUN, Ed, knd, kndR, resV, binInt, mnmxV, mnmx2, fillL, unV, lenV, extractV, partV, loadAt, Nat.reduceAdd, Nat.reduceBEq, Nat.reduceEqDiff, Nat.reduceLT, Nat.reduceLeDiff, Nat.reduceMul, Nat.reduceSub, reduceIte, Int.reduceEq, Int.reduceNe, Int.reduceLT, Int.reduceLE, Int.reduceAdd, Int.reduceSub, Int.reduceMul, Int.reduceNeg, Int.reduceMod, Int.reduceDiv, Int.reduceTMod, Int.reduceTDiv, Int.reduceToNat, okChain_i, okLoads_nil, okLoads_in, okLoads_eq]; rfl)
theorem spans_f (H : Heap) (v : Value) (A : List Int) (hA : TS H v A) (hl : A.length ≤ 1000) : ∃ w X, D Try.prog hints 36 [v] H = some (w, H ++ X) ∧ SS (H ++ X) w (spn A) := by
  have l1 := hA.len
  have key : ∀ ρ, C36 v (.slice none 0 0) 0 ρ → ∃ w X, done [.tmp 2] (andThen (blk 0 (E Try.prog hints (.loop l36_0) ρ H)) (E Try.prog hints (.seq (.region c36_6) .ret))) = some (w, H ++ X) ∧ SS (H ++ X) w (spn A) := by
    intro ρ hs
    obtain ⟨ρ', G', e, w, r3, ⟨X, rfl⟩, hm⟩ := loop_inv (P := Try.prog) (hs := hints) (b := l36_0) (id := 0)
      (fun j ρ G => ∃ w, C36 v w j ρ ∧ Ext H G ∧ SO H G w ((spn A).take j)) (fun ρ G => ∃ w, ρ 3 = w ∧ Ext H G ∧ SO H G w (spn A)) (A.length / 2)
      (fun j ρ G hj ⟨w, hs, he, hm⟩ => by
        obtain ⟨ρ', G', w', h1, h2, h3, h4⟩ := round36 H v A hA hl j (by omega) w ρ G hs he hm
        exact ⟨ρ', G', h1, w', h2, h3, h4⟩)
      (fun ρ G ⟨w, ⟨q0, q3, q4⟩, he, hm⟩ => by
        rw [List.take_of_length_le (by rw [spn_len]; omega)] at hm
        have hc : (((2 * (A.length / 2) : Nat) : Int) + 1) = ((2 * (A.length / 2) + 1 : Nat) : Int) := by omega
        have hlt : ¬ ((2 * (A.length / 2) + 1 : Nat) : Int) < (A.length : Int) := by omega
        have w1 := wrap64 ((2 * (A.length / 2) + 1 : Nat) : Int) (by omega) (by omega)
        refine ⟨?ρ2, G, ?run2, w, ?_, he, hm⟩
        case run2 =>
          simp (maxDischargeDepth := 8) only [l36_0, c36_3, q0, q4, l1, hc, hlt, w1, RUN, Ed, knd, kndR, resV, binInt, mnmxV, mnmx2, fillL, unV, extractV, partV, loadAt, Nat.reduceAdd, Nat.reduceBEq, Nat.reduceEqDiff, Nat.reduceLT, Nat.reduceLeDiff, Nat.reduceMul, Nat.reduceSub, reduceIte, Int.reduceEq, Int.reduceNe, Int.reduceLT, Int.reduceLE, Int.reduceAdd, Int.reduceSub, Int.reduceMul, Int.reduceNeg, Int.reduceMod, Int.reduceDiv, Int.reduceTMod, Int.reduceTDiv, Int.reduceToNat, okChain_i, okLoads_nil, okLoads_in, okLoads_eq]
          rfl
        simp (maxDischargeDepth := 8) only [q3, RUN, Ed, knd, kndR, resV, binInt, mnmxV, mnmx2, fillL, unV, lenV, extractV, partV, loadAt, Nat.reduceAdd, Nat.reduceBEq, Nat.reduceEqDiff, Nat.reduceLT, Nat.reduceLeDiff, Nat.reduceMul, Nat.reduceSub, reduceIte, Int.reduceEq, Int.reduceNe, Int.reduceLT, Int.reduceLE, Int.reduceAdd, Int.reduceSub, Int.reduceMul, Int.reduceNeg, Int.reduceMod, Int.reduceDiv, Int.reduceTMod, Int.reduceTDiv, Int.reduceToNat, okChain_i, okLoads_nil, okLoads_in, okLoads_eq])
      ρ H ⟨_, hs, Ext.refl H, SM.nil _ _ _ _, fun _ => rfl⟩
    rw [e]
    refine ⟨w, X, ?_, hm.SS⟩
    simp (maxDischargeDepth := 8) only [c36_6, r3, RUN, Ed, knd, kndR, resV, binInt, mnmxV, mnmx2, fillL, unV, lenV, extractV, partV, loadAt, Nat.reduceAdd, Nat.reduceBEq, Nat.reduceEqDiff, Nat.reduceLT, Nat.reduceLeDiff, Nat.reduceMul, Nat.reduceSub, reduceIte, Int.reduceEq, Int.reduceNe, Int.reduceLT, Int.reduceLE, Int.reduceAdd, Int.reduceSub, Int.reduceMul, Int.reduceNeg, Int.reduceMod, Int.reduceDiv, Int.reduceTMod, Int.reduceTDiv, Int.reduceToNat, okChain_i, okLoads_nil, okLoads_in, okLoads_eq]
  rw [D_eq p36 _ _ (Nat.le_of_ble_eq_true rfl)]
  simp (maxDischargeDepth := 8) only [r36, b36, c36_0, c36_1, c36_2, RUN, Ed, knd, kndR, resV, binInt, mnmxV, mnmx2, fillL, unV, lenV, extractV, partV, loadAt, Nat.reduceAdd, Nat.reduceBEq, Nat.reduceEqDiff, Nat.reduceLT, Nat.reduceLeDiff, Nat.reduceMul, Nat.reduceSub, reduceIte, Int.reduceEq, Int.reduceNe, Int.reduceLT, Int.reduceLE, Int.reduceAdd, Int.reduceSub, Int.reduceMul, Int.reduceNeg, Int.reduceMod, Int.reduceDiv, Int.reduceTMod, Int.reduceTDiv, Int.reduceToNat, okChain_i, okLoads_nil, okLoads_in, okLoads_eq]
  refine key _ ⟨?_, ?_, ?_⟩
  all_goals first | (simp (maxDischargeDepth := 8) only [RUN, Ed, knd, kndR, resV, binInt, mnmxV, mnmx2, fillL, unV, lenV, extractV, partV, loadAt, Nat.reduceAdd, Nat.reduceBEq, Nat.reduceEqDiff, Nat.reduceLT, Nat.reduceLeDiff, Nat.reduceMul, Nat.reduceSub, reduceIte, Int.reduceEq, Int.reduceNe, Int.reduceLT, Int.reduceLE, Int.reduceAdd, Int.reduceSub, Int.reduceMul, Int.reduceNeg, Int.reduceMod, Int.reduceDiv, Int.reduceTMod, Int.reduceTDiv, Int.reduceToNat, okChain_i, okLoads_nil, okLoads_in, okLoads_eq]; done) | (simp (maxDischargeDepth := 8) only [RUN, Ed, knd, kndR, resV, binInt, mnmxV, mnmx2, fillL, unV, lenV, extractV, partV, loadAt, Nat.reduceAdd, Nat.reduceBEq, Nat.reduceEqDiff, Nat.reduceLT, Nat.reduceLeDiff, Nat.reduceMul, Nat.reduceSub, reduceIte, Int.reduceEq, Int.reduceNe, Int.reduceLT, Int.reduceLE, Int.reduceAdd, Int.reduceSub, Int.reduceMul, Int.reduceNeg, Int.reduceMod, Int.reduceDiv, Int.reduceTMod, Int.reduceTDiv, Int.reduceToNat, okChain_i, okLoads_nil, okLoads_in, okLoads_eq]; rfl)
theorem sameSp_t (s : Sp) (H : Heap) : D Try.prog hints 41 [.agg ⟨sL s⟩, .agg ⟨sL s⟩] H = some (.bool true, H ++ [some ⟨true, 65, sL s⟩, some ⟨true, 65, sL s⟩]) := by
  rw [sameSp_f]; simp
theorem says (a b c k : Int) (v : Value) (A : List Int) (H : Heap) (hA : TS H v A) : Ok (D Try.prog hints 12 [.int .i64 a, .int .i64 b, .int .i64 c, v, .int .i64 k] H) := by
  obtain ⟨X0, e0⟩ := first_f H
  have l1 := hA.len
  have hz : [Value.int .i64 0, Value.int .i64 0] = sL (0, 0) := rfl
  rw [D_eq p12 _ _ (Nat.le_of_ble_eq_true rfl)]
  by_cases h1 : (40 : Int) < (A.length : Int)
  · simp (maxDischargeDepth := 8) only [r12, b12, c12_0, c12_1, c12_2, c12_3, c12_4, c12_5, c12_6, c12_7, c12_8, c12_9, e0, l1, h1, RUN, Ed, knd, kndR, resV, binInt, mnmxV, mnmx2, fillL, unV, extractV, partV, loadAt, Nat.reduceAdd, Nat.reduceBEq, Nat.reduceEqDiff, Nat.reduceLT, Nat.reduceLeDiff, Nat.reduceMul, Nat.reduceSub, reduceIte, Int.reduceEq, Int.reduceNe, Int.reduceLT, Int.reduceLE, Int.reduceAdd, Int.reduceSub, Int.reduceMul, Int.reduceNeg, Int.reduceMod, Int.reduceDiv, Int.reduceTMod, Int.reduceTDiv, Int.reduceToNat, okChain_i, okLoads_nil, okLoads_in, okLoads_eq]
    exact Ok.mk _
  obtain ⟨w, X1, e1, hS1⟩ := spans_f (H ++ X0) v A (hA.more X0) (by omega)
  have hL : (spn A).length ≤ 1000 := by rw [spn_len]; omega
  generalize spn A = L at *
  obtain ⟨X2, e2⟩ := cover_f w L hL k ((H ++ X0) ++ X1) hS1
  obtain ⟨X3, e3⟩ := cover2_f w L hL k ((((H ++ X0) ++ X1) ++ X2) ++ [some ⟨true, 65, sL (cov L (max k 1) L).1⟩]) ((hS1.more X2).more _)
  have e4 := fun F => mid_f a b c F
  have e5 := fun F => mid2_f a b c F
  generalize cov L (max k 1) L = st at *
  have e6 := fun F => sameSp_t st.1 F
  obtain ⟨X7, e7⟩ := most_f w L hL ((((((((H ++ X0) ++ X1) ++ X2) ++ [some ⟨true, 65, sL st.1⟩]) ++ X3) ++ [some ⟨true, 65, sL st.1⟩])) ++ [some ⟨true, 65, sL st.1⟩, some ⟨true, 65, sL st.1⟩]) ((((((hS1.more _).more _).more _).more _).more _))
  obtain ⟨X8, e8⟩ := mostIn_f w L hL (((((((((H ++ X0) ++ X1) ++ X2) ++ [some ⟨true, 65, sL st.1⟩]) ++ X3) ++ [some ⟨true, 65, sL st.1⟩])) ++ [some ⟨true, 65, sL st.1⟩, some ⟨true, 65, sL st.1⟩]) ++ X7) (((((((hS1.more _).more _).more _).more _).more _).more _))
  obtain ⟨o, f⟩ := st
  simp only [List.append_assoc, List.cons_append, List.nil_append] at e1 e2 e3 e7 e8
  have hbb : (f == f) = true := by cases f <;> rfl
  have hd1 : decide (midP a b c = midP a b c) = true := by simp
  have hd2 : decide (mst L L = mst L L) = true := by simp
  simp (maxDischargeDepth := 8) only [r12, b12, c12_0, c12_1, c12_2, c12_3, c12_4, c12_5, c12_6, c12_7, c12_8, c12_9, e0, l1, h1, e1, e2, e3, e4, e5, e6, e7, e8, hz, hbb, hd1, hd2, sL_len, sL_one, sL_take, sL_put, RUN, Ed, knd, kndR, resV, binInt, mnmxV, mnmx2, fillL, unV, extractV, partV, loadAt, Nat.reduceAdd, Nat.reduceBEq, Nat.reduceEqDiff, Nat.reduceLT, Nat.reduceLeDiff, Nat.reduceMul, Nat.reduceSub, reduceIte, Int.reduceEq, Int.reduceNe, Int.reduceLT, Int.reduceLE, Int.reduceAdd, Int.reduceSub, Int.reduceMul, Int.reduceNeg, Int.reduceMod, Int.reduceDiv, Int.reduceTMod, Int.reduceTDiv, Int.reduceToNat, okChain_i, okLoads_nil, okLoads_in, okLoads_eq]
  exact Ok.mk _
end Go.Proofs.Ytbamnfladjkkcaa.Sim
