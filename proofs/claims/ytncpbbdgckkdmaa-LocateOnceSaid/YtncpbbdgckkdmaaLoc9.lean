/- LocateOnce over the plain heap. -/
import Derived.Test.YtncpbbdgckkdmaaLoc4
import Derived.Test.YtncpbbdgckkdmaaSim21
import Derived.Test.YtncpbbdgckkdmaaSim19
namespace Go.Proofs.Ytncpbbdgckkdmaa.Sim
open Go
set_option linter.unusedSimpArgs false
set_option linter.unusedVariables false
/-- Three samples. -/
abbrev Sm := (Int × Bool) × (Int × Bool) × (Int × Bool)
def smA (s : Sm) : List Value := smp s.1.1 s.1.2 s.2.1.1 s.2.1.2 s.2.2.1 s.2.2.2
def RS (H : Heap) (v : Value) (A : List Sm) : Prop := (A = [] ∧ ∃ e, v = .slice none 0 e) ∨ ∃ i e ty cells, v = .slice (some ⟨i, 0, none⟩) A.length e ∧ live H i = some ⟨false, ty, cells⟩ ∧ ∀ j a, A[j]? = some a → j * 6 + 6 ≤ cells.length ∧ (cells.drop (j * 6)).take 6 = smA a
theorem RS.len {H : Heap} {v : Value} {A : List Sm} (h : RS H v A) : lenV false v = some (.int .i64 A.length) := by
  rcases h with ⟨rfl, e, rfl⟩ | ⟨i, e, ty, cells, rfl, _, _⟩ <;> rfl
theorem RS.idx {H : Heap} {v : Value} {A : List Sm} (h : RS H v A) {j : Nat} {a : Sm} (ha : A[j]? = some a) : ∃ i, idxSV 6 v (.int .i64 j) = some (.pointer (some ⟨i, j * 6, none⟩)) ∧ ∃ ty cells, live H i = some ⟨false, ty, cells⟩ ∧ j * 6 + 6 ≤ cells.length ∧ (cells.drop (j * 6)).take 6 = smA a := by
  rcases h with ⟨rfl, e, rfl⟩ | ⟨i, e, ty, cells, rfl, h2, h3⟩
  · simp at ha
  · have hj : j < A.length := by
      rcases Nat.lt_or_ge j A.length with q | q
      · exact q
      · rw [List.getElem?_eq_none q] at ha; cases ha
    exact ⟨i, by rw [idxS_s _ _ _ _ _ _ _ (by omega) (by omega)]; simp, ty, cells, h2, h3 j a ha⟩
theorem Opn_sms {H : Heap} {l : List Value} (h : Opn H (.slice (.agg ((.cons (.agg ((.cons (.int .i64) (.cons (.bool) .nil)))) (.cons (.agg ((.cons (.int .i64) (.cons (.bool) .nil)))) (.cons (.agg ((.cons (.int .i64) (.cons (.bool) .nil)))) .nil)))))) l) : ∃ v A, l = [v] ∧ RS H v A := by
  simp only [Opn, OpnL] at h
  obtain ⟨i, x, ty, L, rfl, hl, hc, hm⟩ := h
  obtain ⟨M, rfl, hM⟩ := rows_map smA (fun a => True) L (fun c hc' => by
    obtain ⟨_, _, rfl, ⟨_, _, rfl, ⟨v0, rfl, _⟩, _, _, rfl, ⟨f0, rfl⟩, rfl⟩, _, _, rfl, ⟨_, _, rfl, ⟨v1, rfl, _⟩, _, _, rfl, ⟨f1, rfl⟩, rfl⟩, _, _, rfl, ⟨_, _, rfl, ⟨v2, rfl, _⟩, _, _, rfl, ⟨f2, rfl⟩, rfl⟩, rfl⟩ := hc c hc'
    exact ⟨((v0, f0), (v1, f1), (v2, f2)), rfl, trivial⟩)
  rw [List.length_map] at hm ⊢
  refine ⟨_, M, rfl, ?_⟩
  unfold argV
  by_cases h0 : M.length = 0
  · rw [if_pos h0]
    exact .inl ⟨List.eq_nil_of_length_eq_zero h0, x, rfl⟩
  · rw [if_neg h0]
    refine .inr ⟨i, 0, ty, _, rfl, hm (by omega), ?_⟩
    clear hM hm hc hl h0
    induction M with
    | nil => intro j a h; simp at h
    | cons b M ih =>
      intro j a h
      have hl6 : (smA b).length = 6 := rfl
      cases j with
      | zero =>
        simp at h; subst h
        rw [List.map_cons, List.flatten_cons]
        refine ⟨by rw [List.length_append]; omega, ?_⟩
        rw [Nat.zero_mul, List.drop_zero, List.take_left' hl6]
      | succ j =>
        simp only [List.getElem?_cons_succ] at h
        obtain ⟨h1, h2⟩ := ih j a h
        rw [List.map_cons, List.flatten_cons]
        refine ⟨by rw [List.length_append]; omega, ?_⟩
        rw [← h2, show (j + 1) * 6 = (smA b).length + j * 6 by rw [hl6]; omega, List.drop_append, List.drop_eq_nil_of_le (by omega), List.nil_append, Nat.add_sub_cancel_left]
def Bk (j : Nat) (s : Int × Bool) : Prop := 0 ≤ s.1 ∧ s.1 ≤ j
theorem Bk.bd {j : Nat} {s : Int × Bool} (h : Bk j s) (hj : j ≤ 60) : Bd s := ⟨h.1, by have := h.2; omega⟩
theorem Bk.lk {j : Nat} {s : Int × Bool} (h : Bk j s) (n t v : Int) (f : Bool) : Bk (j + 1) (lk n t s v f) := by
  obtain ⟨h0, h1⟩ := h
  unfold Sim.lk fst
  split
  · split
    · exact ⟨by simp, by simp; omega⟩
    · split
      · exact ⟨by simp, by simp; omega⟩
      · exact ⟨by simp only; omega, by simp only; omega⟩
  · exact ⟨h0, by omega⟩
/-- The one bus is locked; the others are alike. -/
def Rl (b : Bool) (X x : Int × Bool) : Prop := if b = true then X.2 = true else X = x
theorem Rl.lk {b : Bool} {X x : Int × Bool} (h : Rl b X x) (n t v : Int) (f : Bool) : Rl b (lk n t X v f) (lk n t x v f) := by
  unfold Rl at *
  cases b
  · rw [if_neg (by simp)] at *; rw [h]
  · rw [if_pos rfl] at *
    obtain ⟨c, s⟩ := X
    simp only at h
    subst h
    rw [lk_t]
structure S7 (v : Value) (q : Nat) (raw : Int) (g g' j : Nat) (ρ : Fr) : Prop where
  q1 : ρ 1 = v
  q2 : ρ 2 = .int .i64 q
  q3 : ρ 3 = .int .i64 raw
  q9 : ρ 9 = .bool true
  q11 : ρ 11 = .pointer (some ⟨g, 0, none⟩)
  q12 : ρ 12 = .pointer (some ⟨g', 0, none⟩)
  q13 : ρ 13 = .int .i64 j
/-- The three looks. -/
theorem inner7 (v : Value) (q : Nat) (hq : q < 3) (raw : Int) (g g' j p14 p15 : Nat) (P0 P1 P2 u0 u1 u2 : Bool) (h0 : if q = 0 then P0 = true else P0 = u0) (h1 : if q = 1 then P1 = true else P1 = u1) (h2 : if q = 2 then P2 = true else P2 = u2)
    (ρ : Fr) (F : Heap) (hs : S7 v q raw g g' j ρ) (r14 : ρ 14 = .pointer (some ⟨p14, 0, none⟩)) (r15 : ρ 15 = .pointer (some ⟨p15, 0, none⟩)) (r16 : ρ 16 = .int .i64 0) (k14 : live F p14 = some ⟨true, 39, [.bool P0, .bool P1, .bool P2]⟩) (k15 : live F p15 = some ⟨true, 39, [.bool u0, .bool u1, .bool u2]⟩) :
    ∃ ρ', E Try.prog hints (.loop l7_0) ρ F = some (.exit 2, ρ', F) ∧ S7 v q raw g g' j ρ' := by
  obtain ⟨q1, q2, q3, q9, q11, q12, q13⟩ := hs
  have i14 := live_lt k14
  have i15 := live_lt k15
  have a0 : idxAV 3 1 (.pointer (some ⟨p14, 0, none⟩)) (.int .i64 0) = some (.pointer (some ⟨p14, 0, none⟩)) := rfl
  have a1 : idxAV 3 1 (.pointer (some ⟨p14, 0, none⟩)) (.int .i64 1) = some (.pointer (some ⟨p14, 1, none⟩)) := rfl
  have a2 : idxAV 3 1 (.pointer (some ⟨p14, 0, none⟩)) (.int .i64 2) = some (.pointer (some ⟨p14, 2, none⟩)) := rfl
  have b0 : idxAV 3 1 (.pointer (some ⟨p15, 0, none⟩)) (.int .i64 0) = some (.pointer (some ⟨p15, 0, none⟩)) := rfl
  have b1 : idxAV 3 1 (.pointer (some ⟨p15, 0, none⟩)) (.int .i64 1) = some (.pointer (some ⟨p15, 1, none⟩)) := rfl
  have b2 : idxAV 3 1 (.pointer (some ⟨p15, 0, none⟩)) (.int .i64 2) = some (.pointer (some ⟨p15, 2, none⟩)) := rfl
  have bself : ∀ b : Bool, (b == b) = true := fun b => by simp
  have hq3 : q = 0 ∨ q = 1 ∨ q = 2 := by omega
  rcases hq3 with rfl | rfl | rfl
  · simp at h0 h1 h2
    subst h0; subst h1; subst h2
    have q2' : ρ 2 = .int .i64 0 := q2
    refine ⟨?ρ1, ?run1, ?s1⟩
    case run1 =>
      rw [El]; simp (maxDischargeDepth := 8) only [l7_0, c7_17, c7_18, c7_19, c7_20, q1, q2', q3, q9, q11, q12, q13, r14, r15, r16, k14, k15, i14, i15, a0, a1, a2, b0, b1, b2, bself, okChain_all, RUN, Ed, knd, kndR, resV, binInt, mnmxV, mnmx2, fillL, unV, lenV, extractV, partV, loadAt, Nat.reduceAdd, Nat.reduceBEq, Nat.reduceEqDiff, Nat.reduceLT, Nat.reduceLeDiff, Nat.reduceMul, Nat.reduceSub, reduceIte, Int.reduceEq, Int.reduceNe, Int.reduceLT, Int.reduceLE, Int.reduceAdd, Int.reduceSub, Int.reduceMul, Int.reduceNeg, Int.reduceMod, Int.reduceDiv, Int.reduceTMod, Int.reduceTDiv, Int.reduceToNat]
      rw [El]; simp (maxDischargeDepth := 8) only [l7_0, c7_17, c7_18, c7_19, c7_20, q1, q2', q3, q9, q11, q12, q13, r14, r15, r16, k14, k15, i14, i15, a0, a1, a2, b0, b1, b2, bself, okChain_all, RUN, Ed, knd, kndR, resV, binInt, mnmxV, mnmx2, fillL, unV, lenV, extractV, partV, loadAt, Nat.reduceAdd, Nat.reduceBEq, Nat.reduceEqDiff, Nat.reduceLT, Nat.reduceLeDiff, Nat.reduceMul, Nat.reduceSub, reduceIte, Int.reduceEq, Int.reduceNe, Int.reduceLT, Int.reduceLE, Int.reduceAdd, Int.reduceSub, Int.reduceMul, Int.reduceNeg, Int.reduceMod, Int.reduceDiv, Int.reduceTMod, Int.reduceTDiv, Int.reduceToNat]
      rw [El]; simp (maxDischargeDepth := 8) only [l7_0, c7_17, c7_18, c7_19, c7_20, q1, q2', q3, q9, q11, q12, q13, r14, r15, r16, k14, k15, i14, i15, a0, a1, a2, b0, b1, b2, bself, okChain_all, RUN, Ed, knd, kndR, resV, binInt, mnmxV, mnmx2, fillL, unV, lenV, extractV, partV, loadAt, Nat.reduceAdd, Nat.reduceBEq, Nat.reduceEqDiff, Nat.reduceLT, Nat.reduceLeDiff, Nat.reduceMul, Nat.reduceSub, reduceIte, Int.reduceEq, Int.reduceNe, Int.reduceLT, Int.reduceLE, Int.reduceAdd, Int.reduceSub, Int.reduceMul, Int.reduceNeg, Int.reduceMod, Int.reduceDiv, Int.reduceTMod, Int.reduceTDiv, Int.reduceToNat]
      rw [El]; simp (maxDischargeDepth := 8) only [l7_0, c7_17, c7_18, c7_19, c7_20, q1, q2', q3, q9, q11, q12, q13, r14, r15, r16, k14, k15, i14, i15, a0, a1, a2, b0, b1, b2, bself, okChain_all, RUN, Ed, knd, kndR, resV, binInt, mnmxV, mnmx2, fillL, unV, lenV, extractV, partV, loadAt, Nat.reduceAdd, Nat.reduceBEq, Nat.reduceEqDiff, Nat.reduceLT, Nat.reduceLeDiff, Nat.reduceMul, Nat.reduceSub, reduceIte, Int.reduceEq, Int.reduceNe, Int.reduceLT, Int.reduceLE, Int.reduceAdd, Int.reduceSub, Int.reduceMul, Int.reduceNeg, Int.reduceMod, Int.reduceDiv, Int.reduceTMod, Int.reduceTDiv, Int.reduceToNat]
      rfl
    case s1 => constructor <;> simp (maxDischargeDepth := 8) only [q1, q2, q3, q9, q11, q12, q13, RUN, Ed, knd, kndR, resV, binInt, mnmxV, mnmx2, fillL, unV, lenV, extractV, partV, loadAt, Nat.reduceAdd, Nat.reduceBEq, Nat.reduceEqDiff, Nat.reduceLT, Nat.reduceLeDiff, Nat.reduceMul, Nat.reduceSub, reduceIte, Int.reduceEq, Int.reduceNe, Int.reduceLT, Int.reduceLE, Int.reduceAdd, Int.reduceSub, Int.reduceMul, Int.reduceNeg, Int.reduceMod, Int.reduceDiv, Int.reduceTMod, Int.reduceTDiv, Int.reduceToNat, okChain_i, okLoads_nil, okLoads_in, okLoads_eq]
  · simp at h0 h1 h2
    subst h0; subst h1; subst h2
    have q2' : ρ 2 = .int .i64 1 := q2
    refine ⟨?ρ2, ?run2, ?s2⟩
    case run2 =>
      rw [El]; simp (maxDischargeDepth := 8) only [l7_0, c7_17, c7_18, c7_19, c7_20, q1, q2', q3, q9, q11, q12, q13, r14, r15, r16, k14, k15, i14, i15, a0, a1, a2, b0, b1, b2, bself, okChain_all, RUN, Ed, knd, kndR, resV, binInt, mnmxV, mnmx2, fillL, unV, lenV, extractV, partV, loadAt, Nat.reduceAdd, Nat.reduceBEq, Nat.reduceEqDiff, Nat.reduceLT, Nat.reduceLeDiff, Nat.reduceMul, Nat.reduceSub, reduceIte, Int.reduceEq, Int.reduceNe, Int.reduceLT, Int.reduceLE, Int.reduceAdd, Int.reduceSub, Int.reduceMul, Int.reduceNeg, Int.reduceMod, Int.reduceDiv, Int.reduceTMod, Int.reduceTDiv, Int.reduceToNat]
      rw [El]; simp (maxDischargeDepth := 8) only [l7_0, c7_17, c7_18, c7_19, c7_20, q1, q2', q3, q9, q11, q12, q13, r14, r15, r16, k14, k15, i14, i15, a0, a1, a2, b0, b1, b2, bself, okChain_all, RUN, Ed, knd, kndR, resV, binInt, mnmxV, mnmx2, fillL, unV, lenV, extractV, partV, loadAt, Nat.reduceAdd, Nat.reduceBEq, Nat.reduceEqDiff, Nat.reduceLT, Nat.reduceLeDiff, Nat.reduceMul, Nat.reduceSub, reduceIte, Int.reduceEq, Int.reduceNe, Int.reduceLT, Int.reduceLE, Int.reduceAdd, Int.reduceSub, Int.reduceMul, Int.reduceNeg, Int.reduceMod, Int.reduceDiv, Int.reduceTMod, Int.reduceTDiv, Int.reduceToNat]
      rw [El]; simp (maxDischargeDepth := 8) only [l7_0, c7_17, c7_18, c7_19, c7_20, q1, q2', q3, q9, q11, q12, q13, r14, r15, r16, k14, k15, i14, i15, a0, a1, a2, b0, b1, b2, bself, okChain_all, RUN, Ed, knd, kndR, resV, binInt, mnmxV, mnmx2, fillL, unV, lenV, extractV, partV, loadAt, Nat.reduceAdd, Nat.reduceBEq, Nat.reduceEqDiff, Nat.reduceLT, Nat.reduceLeDiff, Nat.reduceMul, Nat.reduceSub, reduceIte, Int.reduceEq, Int.reduceNe, Int.reduceLT, Int.reduceLE, Int.reduceAdd, Int.reduceSub, Int.reduceMul, Int.reduceNeg, Int.reduceMod, Int.reduceDiv, Int.reduceTMod, Int.reduceTDiv, Int.reduceToNat]
      rw [El]; simp (maxDischargeDepth := 8) only [l7_0, c7_17, c7_18, c7_19, c7_20, q1, q2', q3, q9, q11, q12, q13, r14, r15, r16, k14, k15, i14, i15, a0, a1, a2, b0, b1, b2, bself, okChain_all, RUN, Ed, knd, kndR, resV, binInt, mnmxV, mnmx2, fillL, unV, lenV, extractV, partV, loadAt, Nat.reduceAdd, Nat.reduceBEq, Nat.reduceEqDiff, Nat.reduceLT, Nat.reduceLeDiff, Nat.reduceMul, Nat.reduceSub, reduceIte, Int.reduceEq, Int.reduceNe, Int.reduceLT, Int.reduceLE, Int.reduceAdd, Int.reduceSub, Int.reduceMul, Int.reduceNeg, Int.reduceMod, Int.reduceDiv, Int.reduceTMod, Int.reduceTDiv, Int.reduceToNat]
      rfl
    case s2 => constructor <;> simp (maxDischargeDepth := 8) only [q1, q2, q3, q9, q11, q12, q13, RUN, Ed, knd, kndR, resV, binInt, mnmxV, mnmx2, fillL, unV, lenV, extractV, partV, loadAt, Nat.reduceAdd, Nat.reduceBEq, Nat.reduceEqDiff, Nat.reduceLT, Nat.reduceLeDiff, Nat.reduceMul, Nat.reduceSub, reduceIte, Int.reduceEq, Int.reduceNe, Int.reduceLT, Int.reduceLE, Int.reduceAdd, Int.reduceSub, Int.reduceMul, Int.reduceNeg, Int.reduceMod, Int.reduceDiv, Int.reduceTMod, Int.reduceTDiv, Int.reduceToNat, okChain_i, okLoads_nil, okLoads_in, okLoads_eq]
  · simp at h0 h1 h2
    subst h0; subst h1; subst h2
    have q2' : ρ 2 = .int .i64 2 := q2
    refine ⟨?ρ3, ?run3, ?s3⟩
    case run3 =>
      rw [El]; simp (maxDischargeDepth := 8) only [l7_0, c7_17, c7_18, c7_19, c7_20, q1, q2', q3, q9, q11, q12, q13, r14, r15, r16, k14, k15, i14, i15, a0, a1, a2, b0, b1, b2, bself, okChain_all, RUN, Ed, knd, kndR, resV, binInt, mnmxV, mnmx2, fillL, unV, lenV, extractV, partV, loadAt, Nat.reduceAdd, Nat.reduceBEq, Nat.reduceEqDiff, Nat.reduceLT, Nat.reduceLeDiff, Nat.reduceMul, Nat.reduceSub, reduceIte, Int.reduceEq, Int.reduceNe, Int.reduceLT, Int.reduceLE, Int.reduceAdd, Int.reduceSub, Int.reduceMul, Int.reduceNeg, Int.reduceMod, Int.reduceDiv, Int.reduceTMod, Int.reduceTDiv, Int.reduceToNat]
      rw [El]; simp (maxDischargeDepth := 8) only [l7_0, c7_17, c7_18, c7_19, c7_20, q1, q2', q3, q9, q11, q12, q13, r14, r15, r16, k14, k15, i14, i15, a0, a1, a2, b0, b1, b2, bself, okChain_all, RUN, Ed, knd, kndR, resV, binInt, mnmxV, mnmx2, fillL, unV, lenV, extractV, partV, loadAt, Nat.reduceAdd, Nat.reduceBEq, Nat.reduceEqDiff, Nat.reduceLT, Nat.reduceLeDiff, Nat.reduceMul, Nat.reduceSub, reduceIte, Int.reduceEq, Int.reduceNe, Int.reduceLT, Int.reduceLE, Int.reduceAdd, Int.reduceSub, Int.reduceMul, Int.reduceNeg, Int.reduceMod, Int.reduceDiv, Int.reduceTMod, Int.reduceTDiv, Int.reduceToNat]
      rw [El]; simp (maxDischargeDepth := 8) only [l7_0, c7_17, c7_18, c7_19, c7_20, q1, q2', q3, q9, q11, q12, q13, r14, r15, r16, k14, k15, i14, i15, a0, a1, a2, b0, b1, b2, bself, okChain_all, RUN, Ed, knd, kndR, resV, binInt, mnmxV, mnmx2, fillL, unV, lenV, extractV, partV, loadAt, Nat.reduceAdd, Nat.reduceBEq, Nat.reduceEqDiff, Nat.reduceLT, Nat.reduceLeDiff, Nat.reduceMul, Nat.reduceSub, reduceIte, Int.reduceEq, Int.reduceNe, Int.reduceLT, Int.reduceLE, Int.reduceAdd, Int.reduceSub, Int.reduceMul, Int.reduceNeg, Int.reduceMod, Int.reduceDiv, Int.reduceTMod, Int.reduceTDiv, Int.reduceToNat]
      rw [El]; simp (maxDischargeDepth := 8) only [l7_0, c7_17, c7_18, c7_19, c7_20, q1, q2', q3, q9, q11, q12, q13, r14, r15, r16, k14, k15, i14, i15, a0, a1, a2, b0, b1, b2, bself, okChain_all, RUN, Ed, knd, kndR, resV, binInt, mnmxV, mnmx2, fillL, unV, lenV, extractV, partV, loadAt, Nat.reduceAdd, Nat.reduceBEq, Nat.reduceEqDiff, Nat.reduceLT, Nat.reduceLeDiff, Nat.reduceMul, Nat.reduceSub, reduceIte, Int.reduceEq, Int.reduceNe, Int.reduceLT, Int.reduceLE, Int.reduceAdd, Int.reduceSub, Int.reduceMul, Int.reduceNeg, Int.reduceMod, Int.reduceDiv, Int.reduceTMod, Int.reduceTDiv, Int.reduceToNat]
      rfl
    case s3 => constructor <;> simp (maxDischargeDepth := 8) only [q1, q2, q3, q9, q11, q12, q13, RUN, Ed, knd, kndR, resV, binInt, mnmxV, mnmx2, fillL, unV, lenV, extractV, partV, loadAt, Nat.reduceAdd, Nat.reduceBEq, Nat.reduceEqDiff, Nat.reduceLT, Nat.reduceLeDiff, Nat.reduceMul, Nat.reduceSub, reduceIte, Int.reduceEq, Int.reduceNe, Int.reduceLT, Int.reduceLE, Int.reduceAdd, Int.reduceSub, Int.reduceMul, Int.reduceNeg, Int.reduceMod, Int.reduceDiv, Int.reduceTMod, Int.reduceTDiv, Int.reduceToNat, okChain_i, okLoads_nil, okLoads_in, okLoads_eq]
structure M7 (H : Heap) (h q j : Nat) (n : Int) (F : Heap) (X Y Z x y z : Int × Bool) : Prop where
  B : Bus F (h + 1) (h + 2) (h + 3) (h + 4) 20000 n X Y Z
  B' : Bus F (h + 6) (h + 7) (h + 8) (h + 9) 20000 n x y z
  bX : Bk j X
  bY : Bk j Y
  bZ : Bk j Z
  bx : Bk j x
  bY' : Bk j y
  bz : Bk j z
  r0 : Rl (decide (q = 0)) X x
  r1 : Rl (decide (q = 1)) Y y
  r2 : Rl (decide (q = 2)) Z z
  old : ∀ i b, i < h → live H i = some b → live F i = some b
theorem Rl.to {q k : Nat} {X x : Int × Bool} (h : Rl (decide (q = k)) X x) : if q = k then X.2 = true else X.2 = x.2 := by
  unfold Rl at h
  by_cases hk : q = k
  · rw [if_pos hk]; simpa [hk] using h
  · rw [if_neg hk]; rw [if_neg (by simpa using hk)] at h; rw [h]
theorem round7 (H : Heap) (v : Value) (A : List Sm) (hA : RS H v A) (h q : Nat) (hh : h = H.length) (hq : q < 3) (raw n : Int) (j : Nat) (a : Sm) (ha : A[j]? = some a) (hl : A.length ≤ 60) (ρ : Fr) (F : Heap) (hs : S7 v q raw (h + 1) (h + 6) j ρ) (hm : ∃ X Y Z x y z, M7 H h q j n F X Y Z x y z) :
    ∃ ρ' F', E Try.prog hints l7_1 ρ F = some (.normal, ρ', F') ∧ S7 v q raw (h + 1) (h + 6) (j + 1) ρ' ∧ ∃ X Y Z x y z, M7 H h q (j + 1) n F' X Y Z x y z := by
  obtain ⟨X, Y, Z, x, y, z, ⟨B, B', bX, bY, bZ, bx, bY', bz, r0, r1, r2, old⟩⟩ := hm
  have hs' := hs
  obtain ⟨q1, q2, q3, q9, q11, q12, q13⟩ := hs
  obtain ⟨i, e1, ty, cells, e2, e3, e4⟩ := hA.idx ha
  have l1 := hA.len
  have hk : j < A.length := by
    rcases Nat.lt_or_ge j A.length with q | q
    · exact q
    · rw [List.getElem?_eq_none q] at ha; cases ha
  have hlt : (j : Int) < (A.length : Int) := by omega
  have ih : i < h := by rw [hh]; exact live_lt e2
  have f0 := old i _ ih e2
  have i0 := live_lt f0
  have w := wrap64 ((j : Int) + 1) (by omega) (by omega)
  obtain ⟨⟨v0, f0'⟩, ⟨v1, f1'⟩, ⟨v2, f2'⟩⟩ := a
  simp only [smA] at e4
  have d1 : Dist (h + 1) (h + 2) (h + 3) (h + 4) := by constructor <;> omega
  have d2 : Dist (h + 6) (h + 7) (h + 8) (h + 9) := by constructor <;> omega
  obtain ⟨G1, s1, B1, k1⟩ := lstep_f F _ _ _ _ _ _ _ _ _ v0 f0' v1 f1' v2 f2' d1 (bX.bd (by omega)) (bY.bd (by omega)) (bZ.bd (by omega)) B
  have g1 := live_lt B1.c
  obtain ⟨F1, hF1⟩ : ∃ F1, F1 = G1 ++ [some ⟨true, 39, [.bool (lk n 20000 X v0 f0').2, .bool (lk n 20000 Y v1 f1').2, .bool (lk n 20000 Z v2 f2').2]⟩] := ⟨_, rfl⟩
  have B1' : Bus F1 (h + 6) (h + 7) (h + 8) (h + 9) 20000 n x y z := by
    rw [hF1]
    exact Bus.more ⟨k1 _ _ B'.g (by omega) (by omega) (by omega), k1 _ _ B'.a (by omega) (by omega) (by omega), k1 _ _ B'.b (by omega) (by omega) (by omega), k1 _ _ B'.c (by omega) (by omega) (by omega)⟩ _
  have k14 : live F1 G1.length = some ⟨true, 39, [.bool (lk n 20000 X v0 f0').2, .bool (lk n 20000 Y v1 f1').2, .bool (lk n 20000 Z v2 f2').2]⟩ := by rw [hF1]; exact (live_app_len _ _).trans rfl
  have f1 : live F1 i = some ⟨false, ty, cells⟩ := by rw [hF1]; exact live_more (k1 _ _ f0 (by omega) (by omega) (by omega)) _
  have i1 := live_lt f1
  obtain ⟨G2, s2, B2', k2⟩ := lstep_f F1 _ _ _ _ _ _ _ _ _ v0 f0' v1 f1' v2 f2' d2 (bx.bd (by omega)) (bY'.bd (by omega)) (bz.bd (by omega)) B1'
  have g1' := live_lt (k1 _ _ B'.c (by omega) (by omega) (by omega))
  have k14 := k2 _ _ k14 (by omega) (by omega) (by omega)
  have BB : Bus G2 (h + 1) (h + 2) (h + 3) (h + 4) 20000 n (lk n 20000 X v0 f0') (lk n 20000 Y v1 f1') (lk n 20000 Z v2 f2') := by
    have C := hF1 ▸ B1.more _
    exact ⟨k2 _ _ C.g (by omega) (by omega) (by omega), k2 _ _ C.a (by omega) (by omega) (by omega), k2 _ _ C.b (by omega) (by omega) (by omega), k2 _ _ C.c (by omega) (by omega) (by omega)⟩
  have hM : M7 H h q (j + 1) n (G2 ++ [some ⟨true, 39, [.bool (lk n 20000 x v0 f0').2, .bool (lk n 20000 y v1 f1').2, .bool (lk n 20000 z v2 f2').2]⟩]) _ _ _ _ _ _ := ⟨BB.more _, B2'.more _, bX.lk n 20000 v0 f0', bY.lk n 20000 v1 f1', bZ.lk n 20000 v2 f2', bx.lk n 20000 v0 f0', bY'.lk n 20000 v1 f1', bz.lk n 20000 v2 f2', r0.lk n 20000 v0 f0', r1.lk n 20000 v1 f1', r2.lk n 20000 v2 f2', fun i b hi hb => live_more (k2 _ _ (by rw [hF1]; exact live_more (k1 _ _ (old i b hi hb) (by omega) (by omega) (by omega)) _) (by omega) (by omega) (by omega)) _⟩
  have t0 := (r0.lk n 20000 v0 f0').to
  have t1 := (r1.lk n 20000 v1 f1').to
  have t2 := (r2.lk n 20000 v2 f2').to
  have sl : (smp v0 f0' v1 f1' v2 f2').length = 6 := rfl
  generalize lk n 20000 X v0 f0' = X1 at *
  generalize lk n 20000 Y v1 f1' = Y1 at *
  generalize lk n 20000 Z v2 f2' = Z1 at *
  generalize lk n 20000 x v0 f0' = x1 at *
  generalize lk n 20000 y v1 f1' = y1 at *
  generalize lk n 20000 z v2 f2' = z1 at *
  simp only [K] at s1 s2
  have key : ∀ ρ1 F1 , (S7 v q raw (h + 1) (h + 6) j ρ1 ∧ ρ1 14 = .pointer (some ⟨G1.length, 0, none⟩) ∧ ρ1 15 = .pointer (some ⟨G2.length, 0, none⟩) ∧ ρ1 16 = .int .i64 0 ∧ F1 = G2 ++ [some ⟨true, 39, [.bool x1.2, .bool y1.2, .bool z1.2]⟩]) →
      ∃ ρ' F', andThen (blk 1 (blk 2 (E Try.prog hints (.loop l7_0) ρ1 F1))) (E Try.prog hints (.region c7_21)) = some (.normal, ρ', F') ∧ S7 v q raw (h + 1) (h + 6) (j + 1) ρ' ∧ ∃ X Y Z x y z, M7 H h q (j + 1) n F' X Y Z x y z := by
    rintro ρ1 _ ⟨hs1, a14, a15, a16, rfl⟩
    have k15 : live (G2 ++ [some ⟨true, 39, [.bool x1.2, .bool y1.2, .bool z1.2]⟩]) G2.length = some ⟨true, 39, [.bool x1.2, .bool y1.2, .bool z1.2]⟩ := (live_app_len _ _).trans rfl
    obtain ⟨ρ2, e5, ⟨p1, p2, p3, p9, p11, p12, p13⟩⟩ := inner7 v q hq raw (h + 1) (h + 6) j G1.length G2.length X1.2 Y1.2 Z1.2 x1.2 y1.2 z1.2 t0 t1 t2 ρ1 _ hs1 a14 a15 a16 (live_more k14 _) k15
    rw [e5]
    refine ⟨?ρ3, _, ?run3, ⟨?_, ?_, ?_, ?_, ?_, ?_, ?_⟩, _, _, _, _, _, _, hM⟩
    case run3 =>
      simp (maxDischargeDepth := 8) only [c7_21, p13, w, RUN, Ed, knd, kndR, resV, binInt, mnmxV, mnmx2, fillL, unV, lenV, extractV, partV, loadAt, Nat.reduceAdd, Nat.reduceBEq, Nat.reduceEqDiff, Nat.reduceLT, Nat.reduceLeDiff, Nat.reduceMul, Nat.reduceSub, reduceIte, Int.reduceEq, Int.reduceNe, Int.reduceLT, Int.reduceLE, Int.reduceAdd, Int.reduceSub, Int.reduceMul, Int.reduceNeg, Int.reduceMod, Int.reduceDiv, Int.reduceTMod, Int.reduceTDiv, Int.reduceToNat, okChain_i, okLoads_nil, okLoads_in, okLoads_eq]
      rfl
    all_goals first | (simp (maxDischargeDepth := 8) only [p1, p2, p3, p9, p11, p12, p13, RUN, Ed, knd, kndR, resV, binInt, mnmxV, mnmx2, fillL, unV, lenV, extractV, partV, loadAt, Nat.reduceAdd, Nat.reduceBEq, Nat.reduceEqDiff, Nat.reduceLT, Nat.reduceLeDiff, Nat.reduceMul, Nat.reduceSub, reduceIte, Int.reduceEq, Int.reduceNe, Int.reduceLT, Int.reduceLE, Int.reduceAdd, Int.reduceSub, Int.reduceMul, Int.reduceNeg, Int.reduceMod, Int.reduceDiv, Int.reduceTMod, Int.reduceTDiv, Int.reduceToNat, okChain_i, okLoads_nil, okLoads_in, okLoads_eq]; done) | (simp (maxDischargeDepth := 8) only [p1, p2, p3, p9, p11, p12, p13, RUN, Ed, knd, kndR, resV, binInt, mnmxV, mnmx2, fillL, unV, lenV, extractV, partV, loadAt, Nat.reduceAdd, Nat.reduceBEq, Nat.reduceEqDiff, Nat.reduceLT, Nat.reduceLeDiff, Nat.reduceMul, Nat.reduceSub, reduceIte, Int.reduceEq, Int.reduceNe, Int.reduceLT, Int.reduceLE, Int.reduceAdd, Int.reduceSub, Int.reduceMul, Int.reduceNeg, Int.reduceMod, Int.reduceDiv, Int.reduceTMod, Int.reduceTDiv, Int.reduceToNat, okChain_i, okLoads_nil, okLoads_in, okLoads_eq]; rfl)
  simp (maxDischargeDepth := 8) only [l7_1, c7_13, c7_14, c7_15, c7_16, q1, q2, q3, q9, q11, q12, q13, l1, hlt, e1, f0, i0, e3, e4, s1, ← hF1, f1, i1, s2, RUN, Ed, knd, kndR, resV, binInt, mnmxV, mnmx2, fillL, unV, extractV, partV, loadAt, Nat.reduceAdd, Nat.reduceBEq, Nat.reduceEqDiff, Nat.reduceLT, Nat.reduceLeDiff, Nat.reduceMul, Nat.reduceSub, reduceIte, Int.reduceEq, Int.reduceNe, Int.reduceLT, Int.reduceLE, Int.reduceAdd, Int.reduceSub, Int.reduceMul, Int.reduceNeg, Int.reduceMod, Int.reduceDiv, Int.reduceTMod, Int.reduceTDiv, Int.reduceToNat, okChain_i, okLoads_nil, okLoads_in, okLoads_eq]
  refine key _ _ ⟨⟨?_, ?_, ?_, ?_, ?_, ?_, ?_⟩, ?_, ?_, ?_, rfl⟩
  all_goals simp (maxDischargeDepth := 8) only [q1, q2, q3, q9, q11, q12, q13, RUN, Ed, knd, kndR, resV, binInt, mnmxV, mnmx2, fillL, unV, lenV, extractV, partV, loadAt, Nat.reduceAdd, Nat.reduceBEq, Nat.reduceEqDiff, Nat.reduceLT, Nat.reduceLeDiff, Nat.reduceMul, Nat.reduceSub, reduceIte, Int.reduceEq, Int.reduceNe, Int.reduceLT, Int.reduceLE, Int.reduceAdd, Int.reduceSub, Int.reduceMul, Int.reduceNeg, Int.reduceMod, Int.reduceDiv, Int.reduceTMod, Int.reduceTDiv, Int.reduceToNat, okChain_i, okLoads_nil, okLoads_in, okLoads_eq]
def t7 : RCode := .seq (.region c7_22) (.seq (.region c7_23) .ret)
def u7 : RCode := .seq (.seq (.region c7_12) (.block 0 (.loop l7_1))) t7
def w7 : RCode := .seq (.seq (.region c7_10) (.cond (.tmp 44) (.seq (.region c7_11) .ret) .skip)) u7
theorem b7t : b7 = .seq (.region c7_0) (.seq (.region c7_1) (.seq (.seq (.region c7_2) (.cond (.tmp 19) (.seq (.region c7_3) .ret) .skip)) (.seq (.seq (.region c7_4) (.cond (.tmp 22) (.seq (.region c7_5) .ret) .skip)) (.seq (.region c7_6) (.seq (.region c7_7) (.seq (.region c7_8) (.seq (.region c7_9) w7))))))) := (rfl)
theorem tail7 (v : Value) (q : Nat) (hq : q < 3) (raw : Int) (hr : -9223372036854775808 ≤ raw ∧ raw ≤ 9223372036854775807) (g a b c g' j : Nat) (t n : Int) (X Y Z : Int × Bool) (h0 : if q = 0 then X.2 = true else True) (h1 : if q = 1 then Y.2 = true else True) (h2 : if q = 2 then Z.2 = true else True)
    (ρ : Fr) (F : Heap) (hs : S7 v q raw g g' j ρ) (hB : Bus F g a b c t n X Y Z) : Ok (done [.tmp 8] (E Try.prog hints t7 ρ F)) := by
  obtain ⟨q1, q2, q3, q9, q11, q12, q13⟩ := hs
  have en := fun G => number_f raw 1000 G hr.1 hr.2 (by omega) (by omega)
  have hk0 := Int.emod_nonneg raw (show (1000 : Int) ≠ 0 by decide)
  have hk1 := Int.emod_lt_of_pos raw (show (0 : Int) < 1000 by decide)
  obtain ⟨r, hr'⟩ : ∃ r, r = raw % 1000 := ⟨_, rfl⟩
  rw [← hr'] at en hk0 hk1
  have w := wrap64 (7 + r) (by omega) (by omega)
  have m4 := tmodL r 4 hk0
  have e1 := locked_f F g a b c t n X Y Z hB
  have e2 := fun G => lockNo_f g G (7 + r) (Or.inr (by omega))
  have e3 := fun G => lockNo_f g G (r % 4) (Or.inl (by omega))
  simp only [K] at en e1 e2 e3
  have hq3 : q = 0 ∨ q = 1 ∨ q = 2 := by omega
  rcases hq3 with rfl | rfl | rfl
  · have q2' : ρ 2 = .int .i64 0 := q2
    rw [if_pos rfl] at h0
    rw [h0] at e1
    simp (maxDischargeDepth := 8) only [t7, c7_22, c7_23, q1, q2', q3, q9, q11, q12, q13, en, w, m4, e1, e2, e3, idxV_s, partV, lt3_0, lt3_1, lt3_2, RUN, Ed, knd, kndR, resV, binInt, mnmxV, mnmx2, fillL, unV, lenV, extractV, partV, loadAt, Nat.reduceAdd, Nat.reduceBEq, Nat.reduceEqDiff, Nat.reduceLT, Nat.reduceLeDiff, Nat.reduceMul, Nat.reduceSub, reduceIte, Int.reduceEq, Int.reduceNe, Int.reduceLT, Int.reduceLE, Int.reduceAdd, Int.reduceSub, Int.reduceMul, Int.reduceNeg, Int.reduceMod, Int.reduceDiv, Int.reduceTMod, Int.reduceTDiv, Int.reduceToNat, okChain_i, okLoads_nil, okLoads_in, okLoads_eq]
    exact Ok.mk _
  · have q2' : ρ 2 = .int .i64 1 := q2
    rw [if_pos rfl] at h1
    rw [h1] at e1
    simp (maxDischargeDepth := 8) only [t7, c7_22, c7_23, q1, q2', q3, q9, q11, q12, q13, en, w, m4, e1, e2, e3, idxV_s, partV, lt3_0, lt3_1, lt3_2, RUN, Ed, knd, kndR, resV, binInt, mnmxV, mnmx2, fillL, unV, lenV, extractV, partV, loadAt, Nat.reduceAdd, Nat.reduceBEq, Nat.reduceEqDiff, Nat.reduceLT, Nat.reduceLeDiff, Nat.reduceMul, Nat.reduceSub, reduceIte, Int.reduceEq, Int.reduceNe, Int.reduceLT, Int.reduceLE, Int.reduceAdd, Int.reduceSub, Int.reduceMul, Int.reduceNeg, Int.reduceMod, Int.reduceDiv, Int.reduceTMod, Int.reduceTDiv, Int.reduceToNat, okChain_i, okLoads_nil, okLoads_in, okLoads_eq]
    exact Ok.mk _
  · have q2' : ρ 2 = .int .i64 2 := q2
    rw [if_pos rfl] at h2
    rw [h2] at e1
    simp (maxDischargeDepth := 8) only [t7, c7_22, c7_23, q1, q2', q3, q9, q11, q12, q13, en, w, m4, e1, e2, e3, idxV_s, partV, lt3_0, lt3_1, lt3_2, RUN, Ed, knd, kndR, resV, binInt, mnmxV, mnmx2, fillL, unV, lenV, extractV, partV, loadAt, Nat.reduceAdd, Nat.reduceBEq, Nat.reduceEqDiff, Nat.reduceLT, Nat.reduceLeDiff, Nat.reduceMul, Nat.reduceSub, reduceIte, Int.reduceEq, Int.reduceNe, Int.reduceLT, Int.reduceLE, Int.reduceAdd, Int.reduceSub, Int.reduceMul, Int.reduceNeg, Int.reduceMod, Int.reduceDiv, Int.reduceTMod, Int.reduceTDiv, Int.reduceToNat, okChain_i, okLoads_nil, okLoads_in, okLoads_eq]
    exact Ok.mk _
theorem Rl.lock {q k : Nat} {X x : Int × Bool} (h : Rl (decide (q = k)) X x) : if q = k then X.2 = true else True := by
  have := h.to
  split
  · rename_i hk; rw [if_pos hk] at this; exact this
  · trivial
theorem cycles7 (H : Heap) (v : Value) (A : List Sm) (hA : RS H v A) (hl : A.length ≤ 60) (h q : Nat) (hh : h = H.length) (hq : q < 3) (raw n : Int) (hr : -9223372036854775808 ≤ raw ∧ raw ≤ 9223372036854775807) (ρ : Fr) (F : Heap)
    (q1 : ρ 1 = v) (q2 : ρ 2 = .int .i64 q) (q3 : ρ 3 = .int .i64 raw) (q9 : ρ 9 = .bool true) (q11 : ρ 11 = .pointer (some ⟨h + 1, 0, none⟩)) (q12 : ρ 12 = .pointer (some ⟨h + 6, 0, none⟩)) (hm : ∃ X Y Z x y z, M7 H h q 0 n F X Y Z x y z) : Ok (done [.tmp 8] (E Try.prog hints u7 ρ F)) := by
  have l1 := hA.len
  simp (maxDischargeDepth := 8) only [u7, c7_12, q1, q2, q3, q9, q11, q12, RUN, Ed, knd, kndR, resV, binInt, mnmxV, mnmx2, fillL, unV, lenV, extractV, partV, loadAt, Nat.reduceAdd, Nat.reduceBEq, Nat.reduceEqDiff, Nat.reduceLT, Nat.reduceLeDiff, Nat.reduceMul, Nat.reduceSub, reduceIte, Int.reduceEq, Int.reduceNe, Int.reduceLT, Int.reduceLE, Int.reduceAdd, Int.reduceSub, Int.reduceMul, Int.reduceNeg, Int.reduceMod, Int.reduceDiv, Int.reduceTMod, Int.reduceTDiv, Int.reduceToNat, okChain_i, okLoads_nil, okLoads_in, okLoads_eq]
  refine cut_loop (fun ρ F => S7 v q raw (h + 1) (h + 6) 0 ρ ∧ ∃ X Y Z x y z, M7 H h q 0 n F X Y Z x y z) (fun ρ F => S7 v q raw (h + 1) (h + 6) A.length ρ ∧ ∃ X Y Z x y z, M7 H h q A.length n F X Y Z x y z) ⟨⟨?_, ?_, ?_, ?_, ?_, ?_, ?_⟩, hm⟩ ?_ ?_
  all_goals first | (simp (maxDischargeDepth := 8) only [q1, q2, q3, q9, q11, q12, RUN, Ed, knd, kndR, resV, binInt, mnmxV, mnmx2, fillL, unV, lenV, extractV, partV, loadAt, Nat.reduceAdd, Nat.reduceBEq, Nat.reduceEqDiff, Nat.reduceLT, Nat.reduceLeDiff, Nat.reduceMul, Nat.reduceSub, reduceIte, Int.reduceEq, Int.reduceNe, Int.reduceLT, Int.reduceLE, Int.reduceAdd, Int.reduceSub, Int.reduceMul, Int.reduceNeg, Int.reduceMod, Int.reduceDiv, Int.reduceTMod, Int.reduceTDiv, Int.reduceToNat, okChain_i, okLoads_nil, okLoads_in, okLoads_eq]; done) | (simp (maxDischargeDepth := 8) only [q1, q2, q3, q9, q11, q12, RUN, Ed, knd, kndR, resV, binInt, mnmxV, mnmx2, fillL, unV, lenV, extractV, partV, loadAt, Nat.reduceAdd, Nat.reduceBEq, Nat.reduceEqDiff, Nat.reduceLT, Nat.reduceLeDiff, Nat.reduceMul, Nat.reduceSub, reduceIte, Int.reduceEq, Int.reduceNe, Int.reduceLT, Int.reduceLE, Int.reduceAdd, Int.reduceSub, Int.reduceMul, Int.reduceNeg, Int.reduceMod, Int.reduceDiv, Int.reduceTMod, Int.reduceTDiv, Int.reduceToNat, okChain_i, okLoads_nil, okLoads_in, okLoads_eq]; rfl) | skip
  · rintro ρ F ⟨hs, hm⟩
    refine loop_inv (fun j ρ F => S7 v q raw (h + 1) (h + 6) j ρ ∧ ∃ X Y Z x y z, M7 H h q j n F X Y Z x y z) _ A.length ?_ ?_ ρ F ⟨hs, hm⟩
    · rintro j ρ F hj ⟨hs, hm⟩
      exact round7 H v A hA h q hh hq raw n j A[j] (List.getElem?_eq_getElem hj) hl ρ F hs hm
    · rintro ρ F ⟨⟨q1, q2, q3, q9, q11, q12, q13⟩, hm⟩
      have hlt : ¬ ((A.length : Int) < (A.length : Int)) := by omega
      refine ⟨?ρ2, F, ?run2, ?inv2, hm⟩
      case run2 =>
        simp (maxDischargeDepth := 8) only [l7_1, c7_13, q1, q13, l1, hlt, RUN, Ed, knd, kndR, resV, binInt, mnmxV, mnmx2, fillL, unV, extractV, partV, loadAt, Nat.reduceAdd, Nat.reduceBEq, Nat.reduceEqDiff, Nat.reduceLT, Nat.reduceLeDiff, Nat.reduceMul, Nat.reduceSub, reduceIte, Int.reduceEq, Int.reduceNe, Int.reduceLT, Int.reduceLE, Int.reduceAdd, Int.reduceSub, Int.reduceMul, Int.reduceNeg, Int.reduceMod, Int.reduceDiv, Int.reduceTMod, Int.reduceTDiv, Int.reduceToNat, okChain_i, okLoads_nil, okLoads_in, okLoads_eq]
        rfl
      case inv2 => constructor <;> simp (maxDischargeDepth := 8) only [q1, q2, q3, q9, q11, q12, q13, RUN, Ed, knd, kndR, resV, binInt, mnmxV, mnmx2, fillL, unV, lenV, extractV, partV, loadAt, Nat.reduceAdd, Nat.reduceBEq, Nat.reduceEqDiff, Nat.reduceLT, Nat.reduceLeDiff, Nat.reduceMul, Nat.reduceSub, reduceIte, Int.reduceEq, Int.reduceNe, Int.reduceLT, Int.reduceLE, Int.reduceAdd, Int.reduceSub, Int.reduceMul, Int.reduceNeg, Int.reduceMod, Int.reduceDiv, Int.reduceTMod, Int.reduceTDiv, Int.reduceToNat, okChain_i, okLoads_nil, okLoads_in, okLoads_eq]
  · rintro ρ F ⟨hs, X, Y, Z, x, y, z, hm⟩
    exact tail7 v q hq raw hr _ _ _ _ _ _ _ _ X Y Z hm.r0.lock hm.r1.lock hm.r2.lock ρ F hs hm.B
theorem once (n raw bus : Int) (hn : -9223372036854775808 ≤ n ∧ n ≤ 9223372036854775807) (hr : -9223372036854775808 ≤ raw ∧ raw ≤ 9223372036854775807) (hb : -9223372036854775808 ≤ bus ∧ bus ≤ 9223372036854775807) (v : Value) (A : List Sm) (H : Heap) (hA : RS H v A) : Ok (K 7 [.int .i64 n, v, .int .i64 bus, .int .i64 raw] H) := by
  obtain ⟨G, e0, hkeep⟩ := first_f H
  have hA2 : RS G v A := by
    rcases hA with h | ⟨i, e, ty, cells, h1, h2, h3⟩
    · exact .inl h
    · exact .inr ⟨i, e, ty, cells, h1, hkeep _ _ h2, h3⟩
  have l1 := hA.len
  have ec := config0_f n G hn.1 hn.2
  have eb := fun G => number_f bus 3 G hb.1 hb.2 (by omega) (by omega)
  have hk0 := Int.emod_nonneg bus (show (3 : Int) ≠ 0 by decide)
  have hk1 := Int.emod_lt_of_pos bus (show (0 : Int) < 3 by decide)
  obtain ⟨q, hq⟩ := Int.eq_ofNat_of_zero_le hk0
  rw [hq] at eb hk1
  have hq3 : q < 3 := by omega
  obtain ⟨cc, hcc⟩ : ∃ cc, cc = cv0 n G.length := ⟨_, rfl⟩
  have hB := (cfgB n G.length).1
  have hB1 := (cfgB n G.length).2
  rw [← hcc] at ec hB hB1
  have one : (cfgL cc).all Value.oneCell' = true := by rw [hcc]; rfl
  obtain ⟨H1, hH1⟩ : ∃ H1, H1 = G ++ [some ⟨true, 26, cfgL cc⟩, some ⟨true, 26, cfgL cc⟩, ocvB, some ⟨true, 26, cfgL cc⟩] := ⟨_, rfl⟩
  have k10 : live H1 (G.length + 3) = some ⟨true, 26, cfgL cc⟩ := by rw [hH1]; exact (live_app_add _ _ _).trans rfl
  have i10 := live_lt k10
  have hA3 : RS H1 v A := by
    rw [hH1]
    rcases hA2 with h | ⟨i, e, ty, cells, h1, h2, h3⟩
    · exact .inl h
    · exact .inr ⟨i, e, ty, cells, h1, live_more h2 _, h3⟩
  have e2 := lnew_f cc H1
  have b1 := bus_new cc H1 cc.a1
  rw [hB] at e2
  obtain ⟨H2, hH2⟩ : ∃ H2, H2 = H1 ++ [some ⟨true, 26, cfgL cc⟩, busB 20000 (H1.length + 2) (H1.length + 3) (H1.length + 4), F cc.a1 0 false, F cc.a1 0 false, F cc.a1 0 false] := ⟨_, rfl⟩
  rw [← hH2] at e2 b1
  have hl2 : H2.length = H1.length + 5 := by rw [hH2]; simp
  have k10' : live H2 (G.length + 3) = some ⟨true, 26, cfgL cc⟩ := by rw [hH2]; exact live_more k10 _
  have i10' := live_lt k10'
  have e3 := lnew_f cc H2
  have b2 := bus_new cc H2 cc.a1
  rw [hB] at e3
  obtain ⟨H3, hH3⟩ : ∃ H3, H3 = H2 ++ [some ⟨true, 26, cfgL cc⟩, busB 20000 (H2.length + 2) (H2.length + 3) (H2.length + 4), F cc.a1 0 false, F cc.a1 0 false, F cc.a1 0 false] := ⟨_, rfl⟩
  rw [← hH3] at e3 b2
  have b1' : Bus H3 (H1.length + 1) (H1.length + 2) (H1.length + 3) (H1.length + 4) 20000 cc.a1 (0, false) (0, false) (0, false) := by rw [hH3]; exact b1.more _
  have old : ∀ i b, i < H1.length → live H1 i = some b → live H3 i = some b := fun i b _ hb => by rw [hH3, hH2]; exact live_more (live_more hb _) _
  rw [hl2] at e3 b2
  have d1 : Dist (H1.length + 1) (H1.length + 2) (H1.length + 3) (H1.length + 4) := by constructor <;> omega
  have z0 : Bk 0 (0, false) := ⟨by decide, by decide⟩
  have z1 : Bk 0 (0, true) := ⟨by decide, by decide⟩
  rw [K, D_eq p7 _ _ (Nat.le_of_ble_eq_true rfl)]
  simp only [K] at e0 ec eb e2 e3
  by_cases h60 : (60 : Int) < (A.length : Int)
  · simp (maxDischargeDepth := 8) only [r7, b7t, c7_0, c7_1, c7_2, c7_3, c7_4, c7_5, e0, l1, h60, RUN, Ed, knd, kndR, resV, binInt, mnmxV, mnmx2, fillL, unV, extractV, partV, loadAt, Nat.reduceAdd, Nat.reduceBEq, Nat.reduceEqDiff, Nat.reduceLT, Nat.reduceLeDiff, Nat.reduceMul, Nat.reduceSub, reduceIte, Int.reduceEq, Int.reduceNe, Int.reduceLT, Int.reduceLE, Int.reduceAdd, Int.reduceSub, Int.reduceMul, Int.reduceNeg, Int.reduceMod, Int.reduceDiv, Int.reduceTMod, Int.reduceTDiv, Int.reduceToNat, okChain_i, okLoads_nil, okLoads_in, okLoads_eq]
    exact Ok.mk _
  have hl : A.length ≤ 60 := by omega
  have hq' : q = 0 ∨ q = 1 ∨ q = 2 := by omega
  rcases hq' with rfl | rfl | rfl
  · have w4 : IntKind.i64.wrap (4 + ((0 : Nat) : Int)) = 4 := by decide
    have el := lock4_f H3 _ _ _ _ _ _ _ _ _ b1'
    have bl := b1'.setA d1 (0, true)
    simp only [K] at el
    have hM : M7 H1 H1.length 0 0 cc.a1 (H3.set (H1.length + 2) (F cc.a1 0 true)) (0, true) (0, false) (0, false) (0, false) (0, false) (0, false) := ⟨bl, ⟨by rw [live_set_ne _ _ _ _ (by omega)]; exact b2.g, by rw [live_set_ne _ _ _ _ (by omega)]; exact b2.a, by rw [live_set_ne _ _ _ _ (by omega)]; exact b2.b, by rw [live_set_ne _ _ _ _ (by omega)]; exact b2.c⟩, z1, z0, z0, z0, z0, z0, rfl, rfl, rfl, fun i b hi hb => by rw [live_set_ne _ _ _ _ (by omega)]; exact old i b hi hb⟩
    simp (maxDischargeDepth := 8) only [r7, b7t, c7_0, c7_1, c7_2, c7_3, c7_4, c7_5, c7_6, c7_7, c7_8, c7_9, w7, c7_10, c7_11, e0, l1, h60, ec, eb, one, cfg_len, cfg_take, ← hH1, k10, i10, e2, k10', i10', e3, w4, el, RUN, Ed, knd, kndR, resV, binInt, mnmxV, mnmx2, fillL, unV, extractV, partV, loadAt, Nat.reduceAdd, Nat.reduceBEq, Nat.reduceEqDiff, Nat.reduceLT, Nat.reduceLeDiff, Nat.reduceMul, Nat.reduceSub, reduceIte, Int.reduceEq, Int.reduceNe, Int.reduceLT, Int.reduceLE, Int.reduceAdd, Int.reduceSub, Int.reduceMul, Int.reduceNeg, Int.reduceMod, Int.reduceDiv, Int.reduceTMod, Int.reduceTDiv, Int.reduceToNat, okChain_i, okLoads_nil, okLoads_in, okLoads_eq]
    refine cycles7 H1 v A hA3 hl H1.length 0 rfl hq3 raw cc.a1 hr _ _ ?_ ?_ ?_ ?_ ?_ ?_ ⟨_, _, _, _, _, _, hM⟩
    all_goals first | (simp (maxDischargeDepth := 8) only [RUN, Ed, knd, kndR, resV, binInt, mnmxV, mnmx2, fillL, unV, lenV, extractV, partV, loadAt, Nat.reduceAdd, Nat.reduceBEq, Nat.reduceEqDiff, Nat.reduceLT, Nat.reduceLeDiff, Nat.reduceMul, Nat.reduceSub, reduceIte, Int.reduceEq, Int.reduceNe, Int.reduceLT, Int.reduceLE, Int.reduceAdd, Int.reduceSub, Int.reduceMul, Int.reduceNeg, Int.reduceMod, Int.reduceDiv, Int.reduceTMod, Int.reduceTDiv, Int.reduceToNat, okChain_i, okLoads_nil, okLoads_in, okLoads_eq]; done) | (simp (maxDischargeDepth := 8) only [RUN, Ed, knd, kndR, resV, binInt, mnmxV, mnmx2, fillL, unV, lenV, extractV, partV, loadAt, Nat.reduceAdd, Nat.reduceBEq, Nat.reduceEqDiff, Nat.reduceLT, Nat.reduceLeDiff, Nat.reduceMul, Nat.reduceSub, reduceIte, Int.reduceEq, Int.reduceNe, Int.reduceLT, Int.reduceLE, Int.reduceAdd, Int.reduceSub, Int.reduceMul, Int.reduceNeg, Int.reduceMod, Int.reduceDiv, Int.reduceTMod, Int.reduceTDiv, Int.reduceToNat, okChain_i, okLoads_nil, okLoads_in, okLoads_eq]; rfl)
  · have w4 : IntKind.i64.wrap (4 + ((1 : Nat) : Int)) = 5 := by decide
    have el := lock5_f H3 _ _ _ _ _ _ _ _ _ b1'
    have bl := b1'.setB d1 (0, true)
    simp only [K] at el
    have hM : M7 H1 H1.length 1 0 cc.a1 (H3.set (H1.length + 3) (F cc.a1 0 true)) (0, false) (0, true) (0, false) (0, false) (0, false) (0, false) := ⟨bl, ⟨by rw [live_set_ne _ _ _ _ (by omega)]; exact b2.g, by rw [live_set_ne _ _ _ _ (by omega)]; exact b2.a, by rw [live_set_ne _ _ _ _ (by omega)]; exact b2.b, by rw [live_set_ne _ _ _ _ (by omega)]; exact b2.c⟩, z0, z1, z0, z0, z0, z0, rfl, rfl, rfl, fun i b hi hb => by rw [live_set_ne _ _ _ _ (by omega)]; exact old i b hi hb⟩
    simp (maxDischargeDepth := 8) only [r7, b7t, c7_0, c7_1, c7_2, c7_3, c7_4, c7_5, c7_6, c7_7, c7_8, c7_9, w7, c7_10, c7_11, e0, l1, h60, ec, eb, one, cfg_len, cfg_take, ← hH1, k10, i10, e2, k10', i10', e3, w4, el, RUN, Ed, knd, kndR, resV, binInt, mnmxV, mnmx2, fillL, unV, extractV, partV, loadAt, Nat.reduceAdd, Nat.reduceBEq, Nat.reduceEqDiff, Nat.reduceLT, Nat.reduceLeDiff, Nat.reduceMul, Nat.reduceSub, reduceIte, Int.reduceEq, Int.reduceNe, Int.reduceLT, Int.reduceLE, Int.reduceAdd, Int.reduceSub, Int.reduceMul, Int.reduceNeg, Int.reduceMod, Int.reduceDiv, Int.reduceTMod, Int.reduceTDiv, Int.reduceToNat, okChain_i, okLoads_nil, okLoads_in, okLoads_eq]
    refine cycles7 H1 v A hA3 hl H1.length 1 rfl hq3 raw cc.a1 hr _ _ ?_ ?_ ?_ ?_ ?_ ?_ ⟨_, _, _, _, _, _, hM⟩
    all_goals first | (simp (maxDischargeDepth := 8) only [RUN, Ed, knd, kndR, resV, binInt, mnmxV, mnmx2, fillL, unV, lenV, extractV, partV, loadAt, Nat.reduceAdd, Nat.reduceBEq, Nat.reduceEqDiff, Nat.reduceLT, Nat.reduceLeDiff, Nat.reduceMul, Nat.reduceSub, reduceIte, Int.reduceEq, Int.reduceNe, Int.reduceLT, Int.reduceLE, Int.reduceAdd, Int.reduceSub, Int.reduceMul, Int.reduceNeg, Int.reduceMod, Int.reduceDiv, Int.reduceTMod, Int.reduceTDiv, Int.reduceToNat, okChain_i, okLoads_nil, okLoads_in, okLoads_eq]; done) | (simp (maxDischargeDepth := 8) only [RUN, Ed, knd, kndR, resV, binInt, mnmxV, mnmx2, fillL, unV, lenV, extractV, partV, loadAt, Nat.reduceAdd, Nat.reduceBEq, Nat.reduceEqDiff, Nat.reduceLT, Nat.reduceLeDiff, Nat.reduceMul, Nat.reduceSub, reduceIte, Int.reduceEq, Int.reduceNe, Int.reduceLT, Int.reduceLE, Int.reduceAdd, Int.reduceSub, Int.reduceMul, Int.reduceNeg, Int.reduceMod, Int.reduceDiv, Int.reduceTMod, Int.reduceTDiv, Int.reduceToNat, okChain_i, okLoads_nil, okLoads_in, okLoads_eq]; rfl)
  · have w4 : IntKind.i64.wrap (4 + ((2 : Nat) : Int)) = 6 := by decide
    have el := lock6_f H3 _ _ _ _ _ _ _ _ _ b1'
    have bl := b1'.setC d1 (0, true)
    simp only [K] at el
    have hM : M7 H1 H1.length 2 0 cc.a1 (H3.set (H1.length + 4) (F cc.a1 0 true)) (0, false) (0, false) (0, true) (0, false) (0, false) (0, false) := ⟨bl, ⟨by rw [live_set_ne _ _ _ _ (by omega)]; exact b2.g, by rw [live_set_ne _ _ _ _ (by omega)]; exact b2.a, by rw [live_set_ne _ _ _ _ (by omega)]; exact b2.b, by rw [live_set_ne _ _ _ _ (by omega)]; exact b2.c⟩, z0, z0, z1, z0, z0, z0, rfl, rfl, rfl, fun i b hi hb => by rw [live_set_ne _ _ _ _ (by omega)]; exact old i b hi hb⟩
    simp (maxDischargeDepth := 8) only [r7, b7t, c7_0, c7_1, c7_2, c7_3, c7_4, c7_5, c7_6, c7_7, c7_8, c7_9, w7, c7_10, c7_11, e0, l1, h60, ec, eb, one, cfg_len, cfg_take, ← hH1, k10, i10, e2, k10', i10', e3, w4, el, RUN, Ed, knd, kndR, resV, binInt, mnmxV, mnmx2, fillL, unV, extractV, partV, loadAt, Nat.reduceAdd, Nat.reduceBEq, Nat.reduceEqDiff, Nat.reduceLT, Nat.reduceLeDiff, Nat.reduceMul, Nat.reduceSub, reduceIte, Int.reduceEq, Int.reduceNe, Int.reduceLT, Int.reduceLE, Int.reduceAdd, Int.reduceSub, Int.reduceMul, Int.reduceNeg, Int.reduceMod, Int.reduceDiv, Int.reduceTMod, Int.reduceTDiv, Int.reduceToNat, okChain_i, okLoads_nil, okLoads_in, okLoads_eq]
    refine cycles7 H1 v A hA3 hl H1.length 2 rfl hq3 raw cc.a1 hr _ _ ?_ ?_ ?_ ?_ ?_ ?_ ⟨_, _, _, _, _, _, hM⟩
    all_goals first | (simp (maxDischargeDepth := 8) only [RUN, Ed, knd, kndR, resV, binInt, mnmxV, mnmx2, fillL, unV, lenV, extractV, partV, loadAt, Nat.reduceAdd, Nat.reduceBEq, Nat.reduceEqDiff, Nat.reduceLT, Nat.reduceLeDiff, Nat.reduceMul, Nat.reduceSub, reduceIte, Int.reduceEq, Int.reduceNe, Int.reduceLT, Int.reduceLE, Int.reduceAdd, Int.reduceSub, Int.reduceMul, Int.reduceNeg, Int.reduceMod, Int.reduceDiv, Int.reduceTMod, Int.reduceTDiv, Int.reduceToNat, okChain_i, okLoads_nil, okLoads_in, okLoads_eq]; done) | (simp (maxDischargeDepth := 8) only [RUN, Ed, knd, kndR, resV, binInt, mnmxV, mnmx2, fillL, unV, lenV, extractV, partV, loadAt, Nat.reduceAdd, Nat.reduceBEq, Nat.reduceEqDiff, Nat.reduceLT, Nat.reduceLeDiff, Nat.reduceMul, Nat.reduceSub, reduceIte, Int.reduceEq, Int.reduceNe, Int.reduceLT, Int.reduceLE, Int.reduceAdd, Int.reduceSub, Int.reduceMul, Int.reduceNeg, Int.reduceMod, Int.reduceDiv, Int.reduceTMod, Int.reduceTDiv, Int.reduceToNat, okChain_i, okLoads_nil, okLoads_in, okLoads_eq]; rfl)
theorem wf_i64 (a : Int) (h : (Lit.int .i64 a).wf = true) : -9223372036854775808 ≤ a ∧ a ≤ 9223372036854775807 := by
  simp only [Lit.wf, Bool.and_eq_true, decide_eq_true_eq] at h
  exact h
def sh7 : List Sh := [.int .i64, .slice (.agg ((.cons (.agg ((.cons (.int .i64) (.cons (.bool) .nil)))) (.cons (.agg ((.cons (.int .i64) (.cons (.bool) .nil)))) (.cons (.agg ((.cons (.int .i64) (.cons (.bool) .nil)))) .nil))))), .int .i64, .int .i64]
theorem once_law (H : Heap) (ls : List (List Value)) (o : OpnAll H sh7 ls) : Ok (K 7 (argsS sh7 ls) H) := by
  obtain ⟨l0, _, rfl, h0, o⟩ := o.uncons
  obtain ⟨l1, _, rfl, h1, o⟩ := o.uncons
  obtain ⟨l2, _, rfl, h2, o⟩ := o.uncons
  obtain ⟨l3, _, rfl, h3, o⟩ := o.uncons
  cases o.unnil
  obtain ⟨v, A, rfl, hA⟩ := Opn_sms h1
  simp only [Opn.eq_1] at h0 h2 h3
  obtain ⟨n, rfl, wn⟩ := h0
  obtain ⟨bus, rfl, wb⟩ := h2
  obtain ⟨raw, rfl, wr⟩ := h3
  exact once n raw bus (wf_i64 _ wn) (wf_i64 _ wr) (wf_i64 _ wb) v A H hA
end Go.Proofs.Ytncpbbdgckkdmaa.Sim
