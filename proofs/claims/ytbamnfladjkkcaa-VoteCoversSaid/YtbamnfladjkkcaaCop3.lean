/- ContactPlays over the plain heap. -/
import Derived.Test.YtbamnfladjkkcaaCop2
import Derived.Test.YtbamnfladjkkcaaSim21
namespace Go.Proofs.Ytbamnfladjkkcaa.Sim
open Go
set_option linter.unusedSimpArgs false
set_option linter.unusedVariables false
abbrev Do3 := Bool × Bool × Bool
def d3L (a : Do3) : List Value := [.bool a.1, .bool a.2.1, .bool a.2.2]
def DoS (H : Heap) (v : Value) (A : List Do3) : Prop := (A = [] ∧ ∃ e, v = .slice none 0 e) ∨ ∃ i e ty cells, v = .slice (some ⟨i, 0, none⟩) A.length e ∧ live H i = some ⟨false, ty, cells⟩ ∧ ∀ j a, A[j]? = some a → j * 3 + 3 ≤ cells.length ∧ (cells.drop (j * 3)).take 3 = d3L a
theorem DoS.len {H : Heap} {v : Value} {A : List Do3} (h : DoS H v A) : lenV false v = some (.int .i64 A.length) := by
  rcases h with ⟨rfl, e, rfl⟩ | ⟨i, e, ty, cells, rfl, _, _⟩ <;> rfl
theorem DoS.more {H : Heap} {v : Value} {A : List Do3} (h : DoS H v A) (X : Heap) : DoS (H ++ X) v A := by
  rcases h with h | ⟨i, e, ty, cells, h1, h2, h3⟩
  · exact .inl h
  · exact .inr ⟨i, e, ty, cells, h1, live_more0 h2 X, h3⟩
theorem DoS.idx {H : Heap} {v : Value} {A : List Do3} (h : DoS H v A) {j : Nat} {a : Do3} (ha : A[j]? = some a) : ∃ i, idxSV 3 v (.int .i64 j) = some (.pointer (some ⟨i, j * 3, none⟩)) ∧ ∃ ty cells, live H i = some ⟨false, ty, cells⟩ ∧ j * 3 + 3 ≤ cells.length ∧ (cells.drop (j * 3)).take 3 = d3L a ∧ cells[j * 3]? = some (.bool a.1) := by
  rcases h with ⟨rfl, e, rfl⟩ | ⟨i, e, ty, cells, rfl, h2, h3⟩
  · simp at ha
  · have hj : j < A.length := by
      rcases Nat.lt_or_ge j A.length with q | q
      · exact q
      · rw [List.getElem?_eq_none q] at ha; cases ha
    obtain ⟨h4, h5⟩ := h3 j a ha
    refine ⟨i, by rw [idxS_s _ _ _ _ _ _ _ (by omega) (by omega)]; simp, ty, cells, h2, h4, h5, ?_⟩
    have : ((cells.drop (j * 3)).take 3)[0]? = some (.bool a.1) := by rw [h5]; rfl
    rw [List.getElem?_take_of_lt (by omega), List.getElem?_drop] at this
    exact this
def TS (H : Heap) (v : Value) (A : List Int) : Prop := (A = [] ∧ ∃ e, v = .slice none 0 e) ∨ ∃ (i e : Nat) (ty : TypeId) (cells : List Value), v = .slice (some ⟨i, 0, none⟩) A.length e ∧ live H i = some ⟨false, ty, cells⟩ ∧ ∀ (j : Nat) (a : Int), A[j]? = some a → cells[j]? = some (.int .i64 a)
theorem TS.len {H : Heap} {v : Value} {A : List Int} (h : TS H v A) : lenV false v = some (.int .i64 A.length) := by
  rcases h with ⟨rfl, e, rfl⟩ | ⟨i, e, ty, cells, rfl, _, _⟩ <;> rfl
theorem TS.more {H : Heap} {v : Value} {A : List Int} (h : TS H v A) (X : Heap) : TS (H ++ X) v A := by
  rcases h with h | ⟨i, e, ty, cells, h1, h2, h3⟩
  · exact .inl h
  · exact .inr ⟨i, e, ty, cells, h1, live_more0 h2 X, h3⟩
theorem TS.idx {H : Heap} {v : Value} {A : List Int} (h : TS H v A) {j : Nat} {a : Int} (ha : A[j]? = some a) : ∃ i, idxSV 1 v (.int .i64 j) = some (.pointer (some ⟨i, j, none⟩)) ∧ ∃ ty cells, live H i = some ⟨false, ty, cells⟩ ∧ cells[j]? = some (.int .i64 a) := by
  rcases h with ⟨rfl, e, rfl⟩ | ⟨i, e, ty, cells, rfl, h2, h3⟩
  · simp at ha
  · have hj : j < A.length := by
      rcases Nat.lt_or_ge j A.length with q | q
      · exact q
      · rw [List.getElem?_eq_none q] at ha; cases ha
    exact ⟨i, by rw [idxS_s _ _ _ _ _ _ _ (by omega) (by omega)]; simp, ty, cells, h2, h3 j a ha⟩
theorem Opn_dos {H : Heap} {l : List Value} (h : Opn H (.slice (.agg ((.cons (.bool) (.cons (.bool) (.cons (.bool) .nil)))))) l) : ∃ v A, l = [v] ∧ DoS H v A := by
  simp only [Opn, OpnL] at h
  obtain ⟨i, x, ty, L, rfl, hl, hc, hm⟩ := h
  obtain ⟨M, rfl, hM⟩ := rows_map d3L (fun a => True) L (fun c hc' => by
    obtain ⟨_, _, rfl, ⟨a, rfl⟩, _, _, rfl, ⟨b, rfl⟩, _, _, rfl, ⟨e, rfl⟩, rfl⟩ := hc c hc'
    exact ⟨(a, b, e), rfl, trivial⟩)
  rw [List.length_map] at hm ⊢
  refine ⟨_, M, rfl, ?_⟩
  unfold argV
  by_cases h0 : M.length = 0
  · rw [if_pos h0]
    exact .inl ⟨List.eq_nil_of_length_eq_zero h0, x, rfl⟩
  · rw [if_neg h0]
    refine .inr ⟨i, 0, ty, _, rfl, hm (by omega), ?_⟩
    clear hM hm hc hl h0
    induction M with
    | nil => intro j a h; simp at h
    | cons b M ih =>
      intro j a h
      have hl3 : (d3L b).length = 3 := rfl
      cases j with
      | zero =>
        simp at h; subst h
        rw [List.map_cons, List.flatten_cons]
        refine ⟨by rw [List.length_append]; omega, ?_⟩
        rw [Nat.zero_mul, List.drop_zero, List.take_left' hl3]
      | succ j =>
        simp only [List.getElem?_cons_succ] at h
        obtain ⟨h1, h2⟩ := ih j a h
        rw [List.map_cons, List.flatten_cons]
        refine ⟨by rw [List.length_append]; omega, ?_⟩
        rw [← h2, show (j + 1) * 3 = (d3L b).length + j * 3 by rw [hl3]; omega, List.drop_append, List.drop_eq_nil_of_le (by omega), List.nil_append, Nat.add_sub_cancel_left]
theorem Opn_ints {H : Heap} {l : List Value} (h : Opn H (.slice (.int .i64)) l) : ∃ v A, l = [v] ∧ TS H v A := by
  simp only [Opn] at h
  obtain ⟨i, x, ty, L, rfl, hl, hc, hm⟩ := h
  obtain ⟨M, rfl, hM⟩ := rows_map (fun a : Int => [Value.int .i64 a]) (fun a => True) L (fun c hc' => by
    obtain ⟨a, rfl, _⟩ := hc c hc'
    exact ⟨a, rfl, trivial⟩)
  have hf : (M.map (fun a : Int => [Value.int .i64 a])).flatten = M.map (Value.int .i64) := by
    clear hM hm hc hl
    induction M with
    | nil => rfl
    | cons a M ih => simp [ih]
  rw [hf] at hm
  rw [List.length_map] at hm ⊢
  refine ⟨_, M, rfl, ?_⟩
  unfold argV
  by_cases h0 : M.length = 0
  · rw [if_pos h0]
    exact .inl ⟨List.eq_nil_of_length_eq_zero h0, x, rfl⟩
  · rw [if_neg h0]
    exact .inr ⟨i, 0, ty, _, rfl, hm (by omega), fun j a h => by simp [h]⟩
structure S3 (v u : Value) (p q k : Nat) (ρ : Fr) : Prop where
  q2 : ρ 2 = v
  q3 : ρ 3 = u
  q9 : ρ 9 = .bool true
  q10 : ρ 10 = .pointer (some ⟨p, 0, none⟩)
  q11 : ρ 11 = .pointer (some ⟨q, 0, none⟩)
  q12 : ρ 12 = .int .i64 k
structure M3 (H : Heap) (p q k : Nat) (seen : Bool) (x : CS) (G : Heap) : Prop where
  ci : CI x k
  kp : live G p = some ⟨true, 80, x.I⟩
  kq : live G q = some ⟨true, 31, x.R seen⟩
  old : ∀ j b, j ≠ p → j ≠ q → live H j = some b → live G j = some b
def pA : RCode := (.seq (.region c3_12) (.cond (.tmp 52) (.seq (.draw c3_13) (.seq (.region c3_14) (.region c3_15))) .skip))
def pB : RCode := (.seq (.draw c3_16) (.seq (.draw c3_17) (.seq (.region c3_18) (.seq (.region c3_19) (.cond (.tmp 153) (.seq (.region c3_20) .ret) .skip)))))
theorem l3t : l3_0 = (.seq (.seq (.region c3_11) (.cond (.tmp 38) .skip (.exit 0))) (.seq (.block 1 (.seq pA pB)) (.region c3_21))) := rfl
theorem setA (H : Heap) (v u : Value) (T : List Int) (hT : TS H u T) (p q : Nat) (hpq : p ≠ q) (hpo : ∀ ty cells, live H p ≠ some ⟨false, ty, cells⟩) (hqo : ∀ ty cells, live H q ≠ some ⟨false, ty, cells⟩) (k : Nat) (seen : Bool) (x : CS) (ρ : Fr) (G : Heap) (hs : S3 v u p q k ρ) (hm : M3 H p q k seen x G) :
    ∃ ρ' G', E Try.prog hints pA ρ G = some (.normal, ρ', G') ∧ S3 v u p q k ρ' ∧ ∃ x', M3 H p q k seen x' G' := by
  obtain ⟨q2, q3, q9, q10, q11, q12⟩ := hs
  have l1 := hT.len
  by_cases hk : k < T.length
  · have ha : T[k]? = some T[k] := List.getElem?_eq_getElem hk
    obtain ⟨i, e1, ty, cells, e2, e3⟩ := hT.idx ha
    generalize T[k] = a at e3
    have hlt : (k : Int) < (T.length : Int) := by omega
    obtain ⟨ci, kp, kq, old⟩ := hm
    have hip : i ≠ p := by rintro rfl; exact hpo _ _ e2
    have hiq : i ≠ q := by rintro rfl; exact hqo _ _ e2
    have f0 := old i _ hip hiq e2
    have i0 := live_lt f0
    obtain ⟨m, hm⟩ : ∃ m, IntKind.i64.wrap (BitVec.ofInt IntKind.i64.bits a &&& BitVec.ofInt IntKind.i64.bits 15).toNat = m := ⟨_, rfl⟩
    by_cases h0 : m = 0
    · subst h0
      obtain ⟨c16, h16⟩ : ∃ c16, decide (0 < IntKind.i64.wrap (BitVec.ofInt IntKind.i64.bits a &&& BitVec.ofInt IntKind.i64.bits 16).toNat) = c16 := ⟨_, rfl⟩
      obtain ⟨c32, h32⟩ : ∃ c32, decide (0 < IntKind.i64.wrap (BitVec.ofInt IntKind.i64.bits a &&& BitVec.ofInt IntKind.i64.bits 32).toNat) = c32 := ⟨_, rfl⟩
      have es := setG_f p x c16 c32 G kp
      have ip := live_lt kp
      have iq := live_lt kq
      obtain ⟨G1, hG1⟩ : ∃ G1, G1 = G.set p (some ⟨true, 80, (jmd x c16 c32).I⟩) := ⟨_, rfl⟩
      have f1 : live G1 i = some ⟨false, ty, cells⟩ := by rw [hG1, live_set_ne _ _ _ _ (by omega)]; exact f0
      have kp1 : live G1 p = some ⟨true, 80, (jmd x c16 c32).I⟩ := by rw [hG1]; exact live_set_eq _ _ _ ip
      have kq1 : live G1 q = some ⟨true, 31, x.R seen⟩ := by rw [hG1, live_set_ne _ _ _ _ hpq]; exact kq
      have old1 : ∀ j b, j ≠ p → j ≠ q → live H j = some b → live G1 j = some b := fun j b h1 h2 h => by rw [hG1, live_set_ne _ _ _ _ (by omega)]; exact old j b h1 h2 h
      rw [← hG1] at es
      have i1 := live_lt f1
      have iq1 := live_lt kq1
      clear hG1
      have fset : ∀ l, live (G1.set q (some ⟨true, 31, l⟩)) i = some ⟨false, ty, cells⟩ := fun l => by rw [live_set_ne _ _ _ _ (by omega)]; exact f1
      have hM : M3 H p q k seen (jmd x c16 c32) (G1.set q (some ⟨true, 31, (jmd x c16 c32).R seen⟩)) := ⟨ci.jmd _ _, by rw [live_set_ne _ _ _ _ (by omega)]; exact kp1, live_set_eq _ _ _ iq1, fun j b h1 h2 h => by rw [live_set_ne _ _ _ _ (by omega)]; exact old1 j b h1 h2 h⟩
      obtain ⟨d, b, told, since, wrong, fr, r0, jo, js⟩ := x
      simp only [CS.R, jmd] at kq1 hM
      cases jo <;> cases js
      · refine ⟨?ρff, ?Gff, ?runff, ⟨?_, ?_, ?_, ?_, ?_, ?_⟩, jmd ⟨d, b, told, since, wrong, fr, r0, false, false⟩ c16 c32, ?invff⟩
        case runff =>
          simp (maxDischargeDepth := 8) only [pA, c3_12, c3_13, c3_14, c3_15, q2, q3, q9, q10, q11, q12, l1, hlt, e1, f0, i0, e3, hm, h16, h32, es, f1, i1, kq1, iq1, fset, okChain_all, RUN, Ed, knd, kndR, resV, binInt, mnmxV, mnmx2, fillL, unV, extractV, partV, loadAt, Nat.reduceAdd, Nat.reduceBEq, Nat.reduceEqDiff, Nat.reduceLT, Nat.reduceLeDiff, Nat.reduceMul, Nat.reduceSub, reduceIte, Int.reduceEq, Int.reduceNe, Int.reduceLT, Int.reduceLE, Int.reduceAdd, Int.reduceSub, Int.reduceMul, Int.reduceNeg, Int.reduceMod, Int.reduceDiv, Int.reduceTMod, Int.reduceTDiv, Int.reduceToNat]
          rfl
        case invff => exact hM
        all_goals simp (maxDischargeDepth := 8) only [q2, q3, q9, q10, q11, q12, RUN, Ed, knd, kndR, resV, binInt, mnmxV, mnmx2, fillL, unV, lenV, extractV, partV, loadAt, Nat.reduceAdd, Nat.reduceBEq, Nat.reduceEqDiff, Nat.reduceLT, Nat.reduceLeDiff, Nat.reduceMul, Nat.reduceSub, reduceIte, Int.reduceEq, Int.reduceNe, Int.reduceLT, Int.reduceLE, Int.reduceAdd, Int.reduceSub, Int.reduceMul, Int.reduceNeg, Int.reduceMod, Int.reduceDiv, Int.reduceTMod, Int.reduceTDiv, Int.reduceToNat, okChain_i, okLoads_nil, okLoads_in, okLoads_eq]
      · refine ⟨?ρft, ?Gft, ?runft, ⟨?_, ?_, ?_, ?_, ?_, ?_⟩, jmd ⟨d, b, told, since, wrong, fr, r0, false, true⟩ c16 c32, ?invft⟩
        case runft =>
          simp (maxDischargeDepth := 8) only [pA, c3_12, c3_13, c3_14, c3_15, q2, q3, q9, q10, q11, q12, l1, hlt, e1, f0, i0, e3, hm, h16, h32, es, f1, i1, kq1, iq1, fset, okChain_all, RUN, Ed, knd, kndR, resV, binInt, mnmxV, mnmx2, fillL, unV, extractV, partV, loadAt, Nat.reduceAdd, Nat.reduceBEq, Nat.reduceEqDiff, Nat.reduceLT, Nat.reduceLeDiff, Nat.reduceMul, Nat.reduceSub, reduceIte, Int.reduceEq, Int.reduceNe, Int.reduceLT, Int.reduceLE, Int.reduceAdd, Int.reduceSub, Int.reduceMul, Int.reduceNeg, Int.reduceMod, Int.reduceDiv, Int.reduceTMod, Int.reduceTDiv, Int.reduceToNat]
          rfl
        case invft => exact hM
        all_goals simp (maxDischargeDepth := 8) only [q2, q3, q9, q10, q11, q12, RUN, Ed, knd, kndR, resV, binInt, mnmxV, mnmx2, fillL, unV, lenV, extractV, partV, loadAt, Nat.reduceAdd, Nat.reduceBEq, Nat.reduceEqDiff, Nat.reduceLT, Nat.reduceLeDiff, Nat.reduceMul, Nat.reduceSub, reduceIte, Int.reduceEq, Int.reduceNe, Int.reduceLT, Int.reduceLE, Int.reduceAdd, Int.reduceSub, Int.reduceMul, Int.reduceNeg, Int.reduceMod, Int.reduceDiv, Int.reduceTMod, Int.reduceTDiv, Int.reduceToNat, okChain_i, okLoads_nil, okLoads_in, okLoads_eq]
      · refine ⟨?ρtf, ?Gtf, ?runtf, ⟨?_, ?_, ?_, ?_, ?_, ?_⟩, jmd ⟨d, b, told, since, wrong, fr, r0, true, false⟩ c16 c32, ?invtf⟩
        case runtf =>
          simp (maxDischargeDepth := 8) only [pA, c3_12, c3_13, c3_14, c3_15, q2, q3, q9, q10, q11, q12, l1, hlt, e1, f0, i0, e3, hm, h16, h32, es, f1, i1, kq1, iq1, fset, okChain_all, RUN, Ed, knd, kndR, resV, binInt, mnmxV, mnmx2, fillL, unV, extractV, partV, loadAt, Nat.reduceAdd, Nat.reduceBEq, Nat.reduceEqDiff, Nat.reduceLT, Nat.reduceLeDiff, Nat.reduceMul, Nat.reduceSub, reduceIte, Int.reduceEq, Int.reduceNe, Int.reduceLT, Int.reduceLE, Int.reduceAdd, Int.reduceSub, Int.reduceMul, Int.reduceNeg, Int.reduceMod, Int.reduceDiv, Int.reduceTMod, Int.reduceTDiv, Int.reduceToNat]
          rfl
        case invtf => exact hM
        all_goals simp (maxDischargeDepth := 8) only [q2, q3, q9, q10, q11, q12, RUN, Ed, knd, kndR, resV, binInt, mnmxV, mnmx2, fillL, unV, lenV, extractV, partV, loadAt, Nat.reduceAdd, Nat.reduceBEq, Nat.reduceEqDiff, Nat.reduceLT, Nat.reduceLeDiff, Nat.reduceMul, Nat.reduceSub, reduceIte, Int.reduceEq, Int.reduceNe, Int.reduceLT, Int.reduceLE, Int.reduceAdd, Int.reduceSub, Int.reduceMul, Int.reduceNeg, Int.reduceMod, Int.reduceDiv, Int.reduceTMod, Int.reduceTDiv, Int.reduceToNat, okChain_i, okLoads_nil, okLoads_in, okLoads_eq]
      · refine ⟨?ρtt, ?Gtt, ?runtt, ⟨?_, ?_, ?_, ?_, ?_, ?_⟩, jmd ⟨d, b, told, since, wrong, fr, r0, true, true⟩ c16 c32, ?invtt⟩
        case runtt =>
          simp (maxDischargeDepth := 8) only [pA, c3_12, c3_13, c3_14, c3_15, q2, q3, q9, q10, q11, q12, l1, hlt, e1, f0, i0, e3, hm, h16, h32, es, f1, i1, kq1, iq1, fset, okChain_all, RUN, Ed, knd, kndR, resV, binInt, mnmxV, mnmx2, fillL, unV, extractV, partV, loadAt, Nat.reduceAdd, Nat.reduceBEq, Nat.reduceEqDiff, Nat.reduceLT, Nat.reduceLeDiff, Nat.reduceMul, Nat.reduceSub, reduceIte, Int.reduceEq, Int.reduceNe, Int.reduceLT, Int.reduceLE, Int.reduceAdd, Int.reduceSub, Int.reduceMul, Int.reduceNeg, Int.reduceMod, Int.reduceDiv, Int.reduceTMod, Int.reduceTDiv, Int.reduceToNat]
          rfl
        case invtt => exact hM
        all_goals simp (maxDischargeDepth := 8) only [q2, q3, q9, q10, q11, q12, RUN, Ed, knd, kndR, resV, binInt, mnmxV, mnmx2, fillL, unV, lenV, extractV, partV, loadAt, Nat.reduceAdd, Nat.reduceBEq, Nat.reduceEqDiff, Nat.reduceLT, Nat.reduceLeDiff, Nat.reduceMul, Nat.reduceSub, reduceIte, Int.reduceEq, Int.reduceNe, Int.reduceLT, Int.reduceLE, Int.reduceAdd, Int.reduceSub, Int.reduceMul, Int.reduceNeg, Int.reduceMod, Int.reduceDiv, Int.reduceTMod, Int.reduceTDiv, Int.reduceToNat, okChain_i, okLoads_nil, okLoads_in, okLoads_eq]
    · have hd : decide (m = 0) = false := by simpa using h0
      refine ⟨?ρ2, G, ?run2, ⟨?_, ?_, ?_, ?_, ?_, ?_⟩, x, ⟨ci, kp, kq, old⟩⟩
      case run2 =>
        simp (maxDischargeDepth := 8) only [pA, c3_12, q2, q3, q9, q10, q11, q12, l1, hlt, e1, f0, i0, e3, hm, hd, RUN, Ed, knd, kndR, resV, binInt, mnmxV, mnmx2, fillL, unV, extractV, partV, loadAt, Nat.reduceAdd, Nat.reduceBEq, Nat.reduceEqDiff, Nat.reduceLT, Nat.reduceLeDiff, Nat.reduceMul, Nat.reduceSub, reduceIte, Int.reduceEq, Int.reduceNe, Int.reduceLT, Int.reduceLE, Int.reduceAdd, Int.reduceSub, Int.reduceMul, Int.reduceNeg, Int.reduceMod, Int.reduceDiv, Int.reduceTMod, Int.reduceTDiv, Int.reduceToNat, okChain_i, okLoads_nil, okLoads_in, okLoads_eq]
        rfl
      all_goals simp (maxDischargeDepth := 8) only [q2, q3, q9, q10, q11, q12, RUN, Ed, knd, kndR, resV, binInt, mnmxV, mnmx2, fillL, unV, lenV, extractV, partV, loadAt, Nat.reduceAdd, Nat.reduceBEq, Nat.reduceEqDiff, Nat.reduceLT, Nat.reduceLeDiff, Nat.reduceMul, Nat.reduceSub, reduceIte, Int.reduceEq, Int.reduceNe, Int.reduceLT, Int.reduceLE, Int.reduceAdd, Int.reduceSub, Int.reduceMul, Int.reduceNeg, Int.reduceMod, Int.reduceDiv, Int.reduceTMod, Int.reduceTDiv, Int.reduceToNat, okChain_i, okLoads_nil, okLoads_in, okLoads_eq]
  · have hlt : ¬ (k : Int) < (T.length : Int) := by omega
    refine ⟨?ρ3, G, ?run3, ⟨?_, ?_, ?_, ?_, ?_, ?_⟩, x, hm⟩
    case run3 =>
      simp (maxDischargeDepth := 8) only [pA, c3_12, q2, q3, q9, q10, q11, q12, l1, hlt, RUN, Ed, knd, kndR, resV, binInt, mnmxV, mnmx2, fillL, unV, extractV, partV, loadAt, Nat.reduceAdd, Nat.reduceBEq, Nat.reduceEqDiff, Nat.reduceLT, Nat.reduceLeDiff, Nat.reduceMul, Nat.reduceSub, reduceIte, Int.reduceEq, Int.reduceNe, Int.reduceLT, Int.reduceLE, Int.reduceAdd, Int.reduceSub, Int.reduceMul, Int.reduceNeg, Int.reduceMod, Int.reduceDiv, Int.reduceTMod, Int.reduceTDiv, Int.reduceToNat, okChain_i, okLoads_nil, okLoads_in, okLoads_eq]
      rfl
    all_goals simp (maxDischargeDepth := 8) only [q2, q3, q9, q10, q11, q12, RUN, Ed, knd, kndR, resV, binInt, mnmxV, mnmx2, fillL, unV, lenV, extractV, partV, loadAt, Nat.reduceAdd, Nat.reduceBEq, Nat.reduceEqDiff, Nat.reduceLT, Nat.reduceLeDiff, Nat.reduceMul, Nat.reduceSub, reduceIte, Int.reduceEq, Int.reduceNe, Int.reduceLT, Int.reduceLE, Int.reduceAdd, Int.reduceSub, Int.reduceMul, Int.reduceNeg, Int.reduceMod, Int.reduceDiv, Int.reduceTMod, Int.reduceTDiv, Int.reduceToNat, okChain_i, okLoads_nil, okLoads_in, okLoads_eq]
end Go.Proofs.Ytbamnfladjkkcaa.Sim
