/- The votes of chapter 4 over the plain heap: spans, and in how many a number stands. -/
import Derived.Test.YtbamnfladjkkcaaCop3
import Derived.Test.YtbamnfladjkkcaaSim21
namespace Go.Proofs.Ytbamnfladjkkcaa.Sim
open Go
set_option linter.unusedSimpArgs false
set_option linter.unusedVariables false
abbrev Sp := Int × Int
def sL (s : Sp) : List Value := [.int .i64 s.1, .int .i64 s.2]
def spL : List Sp → List Value
  | [] => []
  | s :: L => sL s ++ spL L
theorem spL_app (L M : List Sp) : spL (L ++ M) = spL L ++ spL M := by
  induction L with
  | nil => rfl
  | cons s L ih => simp [spL, ih]
theorem spL_len (L : List Sp) : (spL L).length = L.length * 2 := by
  induction L with
  | nil => rfl
  | cons s L ih => simp [spL, ih, sL]; omega
theorem spL_get (L : List Sp) : ∀ (j : Nat) (s : Sp), L[j]? = some s → ((spL L).drop (j * 2)).take 2 = sL s ∧ (spL L)[j * 2]? = some (.int .i64 s.1) ∧ (spL L)[j * 2 + 1]? = some (.int .i64 s.2) := by
  induction L with
  | nil => intro j s h; simp at h
  | cons b L ih =>
    intro j s h
    cases j with
    | zero =>
      simp at h; subst h
      exact ⟨rfl, rfl, rfl⟩
    | succ j =>
      simp only [List.getElem?_cons_succ] at h
      have := ih j s h
      rw [show (j + 1) * 2 = j * 2 + 2 by omega, show j * 2 + 2 + 1 = j * 2 + 1 + 2 by omega]
      exact this
/-- A slice of spans that was made here. -/
def SS (H : Heap) (v : Value) (L : List Sp) : Prop := (L = [] ∧ v = .slice none 0 0) ∨ (L ≠ [] ∧ ∃ c, v = .slice (some ⟨c, 0, none⟩) L.length 2 ∧ live H c = some ⟨true, 65, spL L⟩)
theorem SS.more {H : Heap} {v : Value} {L : List Sp} (h : SS H v L) (X : Heap) : SS (H ++ X) v L := by
  rcases h with h | ⟨h1, c, h2, h3⟩
  · exact .inl h
  · exact .inr ⟨h1, c, h2, live_more0 h3 X⟩
theorem SS.len {H : Heap} {v : Value} {L : List Sp} (h : SS H v L) : lenV false v = some (.int .i64 L.length) := by
  rcases h with ⟨rfl, rfl⟩ | ⟨_, c, rfl, _⟩ <;> rfl
theorem SS.idx {H : Heap} {v : Value} {L : List Sp} (h : SS H v L) {j : Nat} {s : Sp} (hs : L[j]? = some s) : ∃ c, idxSV 2 v (.int .i64 j) = some (.pointer (some ⟨c, j * 2, none⟩)) ∧ live H c = some ⟨true, 65, spL L⟩ ∧ j * 2 + 2 ≤ (spL L).length ∧ ((spL L).drop (j * 2)).take 2 = sL s ∧ (spL L)[j * 2]? = some (.int .i64 s.1) ∧ (spL L)[j * 2 + 1]? = some (.int .i64 s.2) := by
  have hj : j < L.length := by
    rcases Nat.lt_or_ge j L.length with q | q
    · exact q
    · rw [List.getElem?_eq_none q] at hs; cases hs
  rcases h with ⟨rfl, rfl⟩ | ⟨_, c, rfl, h4⟩
  · simp at hj
  · exact ⟨c, by rw [idxS_s _ _ _ _ _ _ _ (by omega) (by omega)]; simp, h4, by rw [spL_len]; omega, spL_get L j s hs⟩
theorem SS.one {H : Heap} {v : Value} {L : List Sp} (h : SS H v L) : v.oneCell' = true ∧ v.cells.toList = [v] := by
  rcases h with ⟨rfl, rfl⟩ | ⟨_, c, rfl, _⟩ <;> exact ⟨rfl, rfl⟩
def stn (s : Sp) (x : Int) : Bool := decide (s.1 ≤ x ∧ x ≤ s.2)
theorem has_f (s : Sp) (x : Int) (H : Heap) : D Try.prog hints 58 [.agg ⟨sL s⟩, .int .i64 x] H = some (.bool (stn s x), H ++ [some ⟨true, 65, sL s⟩]) := by
  obtain ⟨lo, hi⟩ := s
  rw [D_eq p58 _ _ (Nat.le_of_ble_eq_true rfl)]
  by_cases h1 : lo ≤ x
  · by_cases h2 : x ≤ hi
    · have hd : stn (lo, hi) x = true := by simp [stn, h1, h2]
      rw [hd]
      simp (maxDischargeDepth := 8) only [r58, b58, c58_0, c58_1, sL, h1, h2, RUN, Ed, knd, kndR, resV, binInt, mnmxV, mnmx2, fillL, unV, lenV, extractV, partV, loadAt, Nat.reduceAdd, Nat.reduceBEq, Nat.reduceEqDiff, Nat.reduceLT, Nat.reduceLeDiff, Nat.reduceMul, Nat.reduceSub, reduceIte, Int.reduceEq, Int.reduceNe, Int.reduceLT, Int.reduceLE, Int.reduceAdd, Int.reduceSub, Int.reduceMul, Int.reduceNeg, Int.reduceMod, Int.reduceDiv, Int.reduceTMod, Int.reduceTDiv, Int.reduceToNat, okChain_i, okLoads_nil, okLoads_in, okLoads_eq]
    · have hd : stn (lo, hi) x = false := by simp [stn, h2]
      rw [hd]
      simp (maxDischargeDepth := 8) only [r58, b58, c58_0, c58_1, sL, h1, h2, RUN, Ed, knd, kndR, resV, binInt, mnmxV, mnmx2, fillL, unV, lenV, extractV, partV, loadAt, Nat.reduceAdd, Nat.reduceBEq, Nat.reduceEqDiff, Nat.reduceLT, Nat.reduceLeDiff, Nat.reduceMul, Nat.reduceSub, reduceIte, Int.reduceEq, Int.reduceNe, Int.reduceLT, Int.reduceLE, Int.reduceAdd, Int.reduceSub, Int.reduceMul, Int.reduceNeg, Int.reduceMod, Int.reduceDiv, Int.reduceTMod, Int.reduceTDiv, Int.reduceToNat, okChain_i, okLoads_nil, okLoads_in, okLoads_eq]
  · have hd : stn (lo, hi) x = false := by simp [stn, h1]
    rw [hd]
    simp (maxDischargeDepth := 8) only [r58, b58, c58_0, c58_1, sL, h1, RUN, Ed, knd, kndR, resV, binInt, mnmxV, mnmx2, fillL, unV, lenV, extractV, partV, loadAt, Nat.reduceAdd, Nat.reduceBEq, Nat.reduceEqDiff, Nat.reduceLT, Nat.reduceLeDiff, Nat.reduceMul, Nat.reduceSub, reduceIte, Int.reduceEq, Int.reduceNe, Int.reduceLT, Int.reduceLE, Int.reduceAdd, Int.reduceSub, Int.reduceMul, Int.reduceNeg, Int.reduceMod, Int.reduceDiv, Int.reduceTMod, Int.reduceTDiv, Int.reduceToNat, okChain_i, okLoads_nil, okLoads_in, okLoads_eq]
theorem has2_f (s : Sp) (x : Int) (H : Heap) : D Try.prog hints 59 [.agg ⟨sL s⟩, .int .i64 x] H = some (.bool (stn s x), H ++ [some ⟨true, 65, sL s⟩]) := by
  obtain ⟨lo, hi⟩ := s
  rw [D_eq p59 _ _ (Nat.le_of_ble_eq_true rfl)]
  by_cases h1 : lo ≤ x
  · by_cases h2 : x ≤ hi
    · have hd : stn (lo, hi) x = true := by simp [stn, h1, h2]
      rw [hd]
      simp (maxDischargeDepth := 8) only [r59, b59, c59_0, c59_1, sL, h1, h2, RUN, Ed, knd, kndR, resV, binInt, mnmxV, mnmx2, fillL, unV, lenV, extractV, partV, loadAt, Nat.reduceAdd, Nat.reduceBEq, Nat.reduceEqDiff, Nat.reduceLT, Nat.reduceLeDiff, Nat.reduceMul, Nat.reduceSub, reduceIte, Int.reduceEq, Int.reduceNe, Int.reduceLT, Int.reduceLE, Int.reduceAdd, Int.reduceSub, Int.reduceMul, Int.reduceNeg, Int.reduceMod, Int.reduceDiv, Int.reduceTMod, Int.reduceTDiv, Int.reduceToNat, okChain_i, okLoads_nil, okLoads_in, okLoads_eq]
    · have hd : stn (lo, hi) x = false := by simp [stn, h2]
      rw [hd]
      simp (maxDischargeDepth := 8) only [r59, b59, c59_0, c59_1, sL, h1, h2, RUN, Ed, knd, kndR, resV, binInt, mnmxV, mnmx2, fillL, unV, lenV, extractV, partV, loadAt, Nat.reduceAdd, Nat.reduceBEq, Nat.reduceEqDiff, Nat.reduceLT, Nat.reduceLeDiff, Nat.reduceMul, Nat.reduceSub, reduceIte, Int.reduceEq, Int.reduceNe, Int.reduceLT, Int.reduceLE, Int.reduceAdd, Int.reduceSub, Int.reduceMul, Int.reduceNeg, Int.reduceMod, Int.reduceDiv, Int.reduceTMod, Int.reduceTDiv, Int.reduceToNat, okChain_i, okLoads_nil, okLoads_in, okLoads_eq]
  · have hd : stn (lo, hi) x = false := by simp [stn, h1]
    rw [hd]
    simp (maxDischargeDepth := 8) only [r59, b59, c59_0, c59_1, sL, h1, RUN, Ed, knd, kndR, resV, binInt, mnmxV, mnmx2, fillL, unV, lenV, extractV, partV, loadAt, Nat.reduceAdd, Nat.reduceBEq, Nat.reduceEqDiff, Nat.reduceLT, Nat.reduceLeDiff, Nat.reduceMul, Nat.reduceSub, reduceIte, Int.reduceEq, Int.reduceNe, Int.reduceLT, Int.reduceLE, Int.reduceAdd, Int.reduceSub, Int.reduceMul, Int.reduceNeg, Int.reduceMod, Int.reduceDiv, Int.reduceTMod, Int.reduceTDiv, Int.reduceToNat, okChain_i, okLoads_nil, okLoads_in, okLoads_eq]
def spOf (a b : Int) : Sp := (min a b, max a b)
theorem minE (a b : Int) : (if b < a then b else a) = min a b := by split <;> omega
theorem maxE (a b : Int) : (if a < b then b else a) = max a b := by split <;> omega
theorem of_f (a b : Int) (H : Heap) : D Try.prog hints 52 [.int .i64 a, .int .i64 b] H = some (.agg ⟨sL (spOf a b)⟩, H ++ [some ⟨true, 65, sL (spOf a b)⟩]) := by
  rw [D_eq p52 _ _ (Nat.le_of_ble_eq_true rfl)]
  simp (maxDischargeDepth := 8) only [r52, b52, c52_0, c52_1, minE, maxE, sL, spOf, RUN, Ed, knd, kndR, resV, binInt, mnmxV, mnmx2, fillL, unV, lenV, extractV, partV, loadAt, Nat.reduceAdd, Nat.reduceBEq, Nat.reduceEqDiff, Nat.reduceLT, Nat.reduceLeDiff, Nat.reduceMul, Nat.reduceSub, reduceIte, Int.reduceEq, Int.reduceNe, Int.reduceLT, Int.reduceLE, Int.reduceAdd, Int.reduceSub, Int.reduceMul, Int.reduceNeg, Int.reduceMod, Int.reduceDiv, Int.reduceTMod, Int.reduceTDiv, Int.reduceToNat, okChain_i, okLoads_nil, okLoads_in, okLoads_eq]
theorem of2_f (a b : Int) (H : Heap) : D Try.prog hints 54 [.int .i64 a, .int .i64 b] H = some (.agg ⟨sL (spOf a b)⟩, H ++ [some ⟨true, 65, sL (spOf a b)⟩]) := by
  rw [D_eq p54 _ _ (Nat.le_of_ble_eq_true rfl)]
  simp (maxDischargeDepth := 8) only [r54, b54, c54_0, c54_1, minE, maxE, sL, spOf, RUN, Ed, knd, kndR, resV, binInt, mnmxV, mnmx2, fillL, unV, lenV, extractV, partV, loadAt, Nat.reduceAdd, Nat.reduceBEq, Nat.reduceEqDiff, Nat.reduceLT, Nat.reduceLeDiff, Nat.reduceMul, Nat.reduceSub, reduceIte, Int.reduceEq, Int.reduceNe, Int.reduceLT, Int.reduceLE, Int.reduceAdd, Int.reduceSub, Int.reduceMul, Int.reduceNeg, Int.reduceMod, Int.reduceDiv, Int.reduceTMod, Int.reduceTDiv, Int.reduceToNat, okChain_i, okLoads_nil, okLoads_in, okLoads_eq]
def hull (a b : Sp) : Sp := (min a.1 b.1, max a.2 b.2)
theorem hull_f (a b : Sp) (H : Heap) : D Try.prog hints 55 [.agg ⟨sL a⟩, .agg ⟨sL b⟩] H = some (.agg ⟨sL (hull a b)⟩, H ++ [some ⟨true, 65, sL a⟩, some ⟨true, 65, sL b⟩, some ⟨true, 65, sL (hull a b)⟩]) := by
  rw [D_eq p55 _ _ (Nat.le_of_ble_eq_true rfl)]
  simp (maxDischargeDepth := 8) only [r55, b55, c55_0, c55_1, minE, maxE, sL, hull, RUN, Ed, knd, kndR, resV, binInt, mnmxV, mnmx2, fillL, unV, lenV, extractV, partV, loadAt, Nat.reduceAdd, Nat.reduceBEq, Nat.reduceEqDiff, Nat.reduceLT, Nat.reduceLeDiff, Nat.reduceMul, Nat.reduceSub, reduceIte, Int.reduceEq, Int.reduceNe, Int.reduceLT, Int.reduceLE, Int.reduceAdd, Int.reduceSub, Int.reduceMul, Int.reduceNeg, Int.reduceMod, Int.reduceDiv, Int.reduceTMod, Int.reduceTDiv, Int.reduceToNat, okChain_i, okLoads_nil, okLoads_in, okLoads_eq]
theorem hull2_f (a b : Sp) (H : Heap) : D Try.prog hints 44 [.agg ⟨sL a⟩, .agg ⟨sL b⟩] H = some (.agg ⟨sL (hull a b)⟩, H ++ [some ⟨true, 65, sL a⟩, some ⟨true, 65, sL b⟩, some ⟨true, 65, sL (hull a b)⟩]) := by
  rw [D_eq p44 _ _ (Nat.le_of_ble_eq_true rfl)]
  simp (maxDischargeDepth := 8) only [r44, b44, c44_0, c44_1, minE, maxE, sL, hull, RUN, Ed, knd, kndR, resV, binInt, mnmxV, mnmx2, fillL, unV, lenV, extractV, partV, loadAt, Nat.reduceAdd, Nat.reduceBEq, Nat.reduceEqDiff, Nat.reduceLT, Nat.reduceLeDiff, Nat.reduceMul, Nat.reduceSub, reduceIte, Int.reduceEq, Int.reduceNe, Int.reduceLT, Int.reduceLE, Int.reduceAdd, Int.reduceSub, Int.reduceMul, Int.reduceNeg, Int.reduceMod, Int.reduceDiv, Int.reduceTMod, Int.reduceTDiv, Int.reduceToNat, okChain_i, okLoads_nil, okLoads_in, okLoads_eq]
def midP (a b c : Int) : Int := max (min a b) (min (max a b) c)
theorem mid_f (a b c : Int) (H : Heap) : D Try.prog hints 39 [.int .i64 a, .int .i64 b, .int .i64 c] H = some (.int .i64 (midP a b c), H) := by
  rw [D_eq p39 _ _ (Nat.le_of_ble_eq_true rfl)]
  simp (maxDischargeDepth := 8) only [r39, b39, c39_0, c39_1, minE, maxE, midP, RUN, Ed, knd, kndR, resV, binInt, mnmxV, mnmx2, fillL, unV, lenV, extractV, partV, loadAt, Nat.reduceAdd, Nat.reduceBEq, Nat.reduceEqDiff, Nat.reduceLT, Nat.reduceLeDiff, Nat.reduceMul, Nat.reduceSub, reduceIte, Int.reduceEq, Int.reduceNe, Int.reduceLT, Int.reduceLE, Int.reduceAdd, Int.reduceSub, Int.reduceMul, Int.reduceNeg, Int.reduceMod, Int.reduceDiv, Int.reduceTMod, Int.reduceTDiv, Int.reduceToNat, okChain_i, okLoads_nil, okLoads_in, okLoads_eq]
theorem mid2_f (a b c : Int) (H : Heap) : D Try.prog hints 40 [.int .i64 a, .int .i64 b, .int .i64 c] H = some (.int .i64 (midP a b c), H) := by
  rw [D_eq p40 _ _ (Nat.le_of_ble_eq_true rfl)]
  simp (maxDischargeDepth := 8) only [r40, b40, c40_0, c40_1, minE, maxE, midP, RUN, Ed, knd, kndR, resV, binInt, mnmxV, mnmx2, fillL, unV, lenV, extractV, partV, loadAt, Nat.reduceAdd, Nat.reduceBEq, Nat.reduceEqDiff, Nat.reduceLT, Nat.reduceLeDiff, Nat.reduceMul, Nat.reduceSub, reduceIte, Int.reduceEq, Int.reduceNe, Int.reduceLT, Int.reduceLE, Int.reduceAdd, Int.reduceSub, Int.reduceMul, Int.reduceNeg, Int.reduceMod, Int.reduceDiv, Int.reduceTMod, Int.reduceTDiv, Int.reduceToNat, okChain_i, okLoads_nil, okLoads_in, okLoads_eq]
theorem sameSp_f (s t : Sp) (H : Heap) : D Try.prog hints 41 [.agg ⟨sL s⟩, .agg ⟨sL t⟩] H = some (.bool (decide (s = t)), H ++ [some ⟨true, 65, sL s⟩, some ⟨true, 65, sL t⟩]) := by
  obtain ⟨a, b⟩ := s
  obtain ⟨c, d⟩ := t
  rw [D_eq p41 _ _ (Nat.le_of_ble_eq_true rfl)]
  by_cases h1 : a = c
  · have d1 : decide (a = c) = true := by simpa using h1
    by_cases h2 : b = d
    · have d2 : decide (b = d) = true := by simpa using h2
      have hd : decide ((a, b) = (c, d)) = true := by simp [h1, h2]
      rw [hd]
      simp (maxDischargeDepth := 8) only [r41, b41, c41_0, c41_1, sL, d1, d2, RUN, Ed, knd, kndR, resV, binInt, mnmxV, mnmx2, fillL, unV, lenV, extractV, partV, loadAt, Nat.reduceAdd, Nat.reduceBEq, Nat.reduceEqDiff, Nat.reduceLT, Nat.reduceLeDiff, Nat.reduceMul, Nat.reduceSub, reduceIte, Int.reduceEq, Int.reduceNe, Int.reduceLT, Int.reduceLE, Int.reduceAdd, Int.reduceSub, Int.reduceMul, Int.reduceNeg, Int.reduceMod, Int.reduceDiv, Int.reduceTMod, Int.reduceTDiv, Int.reduceToNat, okChain_i, okLoads_nil, okLoads_in, okLoads_eq]
    · have d2 : decide (b = d) = false := by simpa using h2
      have hd : decide ((a, b) = (c, d)) = false := by simp [h2]
      rw [hd]
      simp (maxDischargeDepth := 8) only [r41, b41, c41_0, c41_1, sL, d1, d2, RUN, Ed, knd, kndR, resV, binInt, mnmxV, mnmx2, fillL, unV, lenV, extractV, partV, loadAt, Nat.reduceAdd, Nat.reduceBEq, Nat.reduceEqDiff, Nat.reduceLT, Nat.reduceLeDiff, Nat.reduceMul, Nat.reduceSub, reduceIte, Int.reduceEq, Int.reduceNe, Int.reduceLT, Int.reduceLE, Int.reduceAdd, Int.reduceSub, Int.reduceMul, Int.reduceNeg, Int.reduceMod, Int.reduceDiv, Int.reduceTMod, Int.reduceTDiv, Int.reduceToNat, okChain_i, okLoads_nil, okLoads_in, okLoads_eq]
  · have d1 : decide (a = c) = false := by simpa using h1
    have hd : decide ((a, b) = (c, d)) = false := by simp [h1]
    rw [hd]
    simp (maxDischargeDepth := 8) only [r41, b41, c41_0, c41_1, sL, d1, RUN, Ed, knd, kndR, resV, binInt, mnmxV, mnmx2, fillL, unV, lenV, extractV, partV, loadAt, Nat.reduceAdd, Nat.reduceBEq, Nat.reduceEqDiff, Nat.reduceLT, Nat.reduceLeDiff, Nat.reduceMul, Nat.reduceSub, reduceIte, Int.reduceEq, Int.reduceNe, Int.reduceLT, Int.reduceLE, Int.reduceAdd, Int.reduceSub, Int.reduceMul, Int.reduceNeg, Int.reduceMod, Int.reduceDiv, Int.reduceTMod, Int.reduceTDiv, Int.reduceToNat, okChain_i, okLoads_nil, okLoads_in, okLoads_eq]
/-- In how many a number stands. -/
def cnt (L : List Sp) (x : Int) : Nat := (L.filter (fun s => stn s x)).length
theorem take_get {α : Type} (A : List α) (k : Nat) (a : α) (h : A[k]? = some a) : A.take (k + 1) = A.take k ++ [a] := by
  rw [List.take_add_one, h]; rfl
theorem cnt_succ (L : List Sp) (x : Int) (j : Nat) (s : Sp) (h : L[j]? = some s) : cnt (L.take (j + 1)) x = cnt (L.take j) x + (if stn s x = true then 1 else 0) := by
  unfold cnt
  rw [take_get L j s h, List.filter_append, List.length_append]
  congr 1
  by_cases hs : stn s x = true
  · rw [if_pos hs]; simp [hs]
  · rw [if_neg hs]; simp [hs]
theorem cnt_le (L : List Sp) (x : Int) : cnt L x ≤ L.length := List.length_filter_le _ _
theorem sL_len (s : Sp) : (sL s).length = 2 := (rfl)
theorem sL_one (s : Sp) : (sL s).all Value.oneCell' = true := (rfl)
theorem sL_take (s : Sp) : (sL s).take 2 = sL s := (rfl)
theorem many_f (v : Value) (L : List Sp) (hL : L.length ≤ 1000) (x : Int) (H : Heap) (hS : SS H v L) : ∃ X, D Try.prog hints 53 [v, .int .i64 x] H = some (.int .i64 (cnt L x), H ++ X) := by
  have l1 := hS.len
  have key : ∀ ρ, (ρ 1 = .int .i64 x ∧ ρ 5 = .int .i64 0 ∧ ρ 8 = v ∧ ρ 9 = .int .i64 L.length ∧ ρ 10 = .int .i64 0) → ∃ X, done [.tmp 4] (andThen (blk 0 (E Try.prog hints (.loop l53_0) ρ H)) (E Try.prog hints (.seq (.region c53_8) .ret))) = some (.int .i64 (cnt L x), H ++ X) := by
    rintro ρ ⟨r1, r5, r8, r9, r10⟩
    obtain ⟨ρ', G', e, h5, X, rfl⟩ := loop_inv (P := Try.prog) (hs := hints) (b := l53_0) (id := 0)
      (fun j ρ G => ρ 1 = .int .i64 x ∧ ρ 5 = .int .i64 (cnt (L.take j) x) ∧ ρ 8 = v ∧ ρ 9 = .int .i64 L.length ∧ ρ 10 = .int .i64 j ∧ ∃ X, G = H ++ X)
      (fun ρ G => ρ 5 = .int .i64 (cnt L x) ∧ ∃ X, G = H ++ X) L.length
      (by
        rintro j ρ G hj ⟨r1, r5, r8, r9, r10, X, rfl⟩
        have hb : L[j]? = some L[j] := List.getElem?_eq_getElem hj
        obtain ⟨c, x1, x2, x3, x4, _, _⟩ := (hS.more X).idx hb
        have hlt : (j : Int) < (L.length : Int) := by omega
        have w := wrap64 ((j : Int) + 1) (by omega) (by omega)
        have hc := cnt_succ L x j _ hb
        have hcl := cnt_le (L.take j) x
        have hcl3 : (L.take j).length ≤ L.length := by rw [List.length_take]; omega
        have hcl2 : cnt (L.take j) x ≤ 1000 := by omega
        have w2 := wrap64 ((cnt (L.take j) x : Int) + 1) (by omega) (by omega)
        have i1 := live_lt x2
        generalize L[j] = s at *
        generalize cnt (L.take j) x = n at *
        have eh := fun F => has_f s x F
        rw [hc]
        cases hs : stn s x
        · rw [hs] at eh
          refine ⟨?ρ1, ?G1, ?run1, ?_, ?_, ?_, ?_, ?_, ?_, ?inv1⟩
          case run1 =>
            simp (maxDischargeDepth := 8) only [l53_0, c53_3, c53_4, c53_5, c53_6, c53_7, r1, r5, r8, r9, r10, hlt, x1, x2, x3, x4, i1, eh, w, w2, sL_len, sL_one, sL_take, RUN, Ed, knd, kndR, resV, binInt, mnmxV, mnmx2, fillL, unV, lenV, extractV, partV, loadAt, Nat.reduceAdd, Nat.reduceBEq, Nat.reduceEqDiff, Nat.reduceLT, Nat.reduceLeDiff, Nat.reduceMul, Nat.reduceSub, reduceIte, Int.reduceEq, Int.reduceNe, Int.reduceLT, Int.reduceLE, Int.reduceAdd, Int.reduceSub, Int.reduceMul, Int.reduceNeg, Int.reduceMod, Int.reduceDiv, Int.reduceTMod, Int.reduceTDiv, Int.reduceToNat, okChain_i, okLoads_nil, okLoads_in, okLoads_eq]
            rfl
          case inv1 => rfl
          all_goals first | (simp (maxDischargeDepth := 8) only [r1, r5, r8, r9, r10, RUN, Ed, knd, kndR, resV, binInt, mnmxV, mnmx2, fillL, unV, lenV, extractV, partV, loadAt, Nat.reduceAdd, Nat.reduceBEq, Nat.reduceEqDiff, Nat.reduceLT, Nat.reduceLeDiff, Nat.reduceMul, Nat.reduceSub, reduceIte, Int.reduceEq, Int.reduceNe, Int.reduceLT, Int.reduceLE, Int.reduceAdd, Int.reduceSub, Int.reduceMul, Int.reduceNeg, Int.reduceMod, Int.reduceDiv, Int.reduceTMod, Int.reduceTDiv, Int.reduceToNat, okChain_i, okLoads_nil, okLoads_in, okLoads_eq]; done) | (simp (maxDischargeDepth := 8) only [r1, r5, r8, r9, r10, RUN, Ed, knd, kndR, resV, binInt, mnmxV, mnmx2, fillL, unV, lenV, extractV, partV, loadAt, Nat.reduceAdd, Nat.reduceBEq, Nat.reduceEqDiff, Nat.reduceLT, Nat.reduceLeDiff, Nat.reduceMul, Nat.reduceSub, reduceIte, Int.reduceEq, Int.reduceNe, Int.reduceLT, Int.reduceLE, Int.reduceAdd, Int.reduceSub, Int.reduceMul, Int.reduceNeg, Int.reduceMod, Int.reduceDiv, Int.reduceTMod, Int.reduceTDiv, Int.reduceToNat, okChain_i, okLoads_nil, okLoads_in, okLoads_eq]; rfl)
        · rw [hs] at eh
          refine ⟨?ρ2, ?G2, ?run2, ?_, ?_, ?_, ?_, ?_, ?_, ?inv2⟩
          case run2 =>
            simp (maxDischargeDepth := 8) only [l53_0, c53_3, c53_4, c53_5, c53_6, c53_7, r1, r5, r8, r9, r10, hlt, x1, x2, x3, x4, i1, eh, w, w2, sL_len, sL_one, sL_take, RUN, Ed, knd, kndR, resV, binInt, mnmxV, mnmx2, fillL, unV, lenV, extractV, partV, loadAt, Nat.reduceAdd, Nat.reduceBEq, Nat.reduceEqDiff, Nat.reduceLT, Nat.reduceLeDiff, Nat.reduceMul, Nat.reduceSub, reduceIte, Int.reduceEq, Int.reduceNe, Int.reduceLT, Int.reduceLE, Int.reduceAdd, Int.reduceSub, Int.reduceMul, Int.reduceNeg, Int.reduceMod, Int.reduceDiv, Int.reduceTMod, Int.reduceTDiv, Int.reduceToNat, okChain_i, okLoads_nil, okLoads_in, okLoads_eq]
            rfl
          case inv2 => rfl
          all_goals first | (simp (maxDischargeDepth := 8) only [r1, r5, r8, r9, r10, RUN, Ed, knd, kndR, resV, binInt, mnmxV, mnmx2, fillL, unV, lenV, extractV, partV, loadAt, Nat.reduceAdd, Nat.reduceBEq, Nat.reduceEqDiff, Nat.reduceLT, Nat.reduceLeDiff, Nat.reduceMul, Nat.reduceSub, reduceIte, Int.reduceEq, Int.reduceNe, Int.reduceLT, Int.reduceLE, Int.reduceAdd, Int.reduceSub, Int.reduceMul, Int.reduceNeg, Int.reduceMod, Int.reduceDiv, Int.reduceTMod, Int.reduceTDiv, Int.reduceToNat, okChain_i, okLoads_nil, okLoads_in, okLoads_eq]; done) | (simp (maxDischargeDepth := 8) only [r1, r5, r8, r9, r10, RUN, Ed, knd, kndR, resV, binInt, mnmxV, mnmx2, fillL, unV, lenV, extractV, partV, loadAt, Nat.reduceAdd, Nat.reduceBEq, Nat.reduceEqDiff, Nat.reduceLT, Nat.reduceLeDiff, Nat.reduceMul, Nat.reduceSub, reduceIte, Int.reduceEq, Int.reduceNe, Int.reduceLT, Int.reduceLE, Int.reduceAdd, Int.reduceSub, Int.reduceMul, Int.reduceNeg, Int.reduceMod, Int.reduceDiv, Int.reduceTMod, Int.reduceTDiv, Int.reduceToNat, okChain_i, okLoads_nil, okLoads_in, okLoads_eq]; rfl))
      (by
        rintro ρ G ⟨r1, r5, r8, r9, r10, hX⟩
        rw [List.take_length] at r5
        have hlt : ¬ (L.length : Int) < (L.length : Int) := by omega
        refine ⟨?ρ3, G, ?run3, ?_, hX⟩
        case run3 =>
          simp (maxDischargeDepth := 8) only [l53_0, c53_3, r9, r10, hlt, RUN, Ed, knd, kndR, resV, binInt, mnmxV, mnmx2, fillL, unV, lenV, extractV, partV, loadAt, Nat.reduceAdd, Nat.reduceBEq, Nat.reduceEqDiff, Nat.reduceLT, Nat.reduceLeDiff, Nat.reduceMul, Nat.reduceSub, reduceIte, Int.reduceEq, Int.reduceNe, Int.reduceLT, Int.reduceLE, Int.reduceAdd, Int.reduceSub, Int.reduceMul, Int.reduceNeg, Int.reduceMod, Int.reduceDiv, Int.reduceTMod, Int.reduceTDiv, Int.reduceToNat, okChain_i, okLoads_nil, okLoads_in, okLoads_eq]
          rfl
        simp (maxDischargeDepth := 8) only [r5, RUN, Ed, knd, kndR, resV, binInt, mnmxV, mnmx2, fillL, unV, lenV, extractV, partV, loadAt, Nat.reduceAdd, Nat.reduceBEq, Nat.reduceEqDiff, Nat.reduceLT, Nat.reduceLeDiff, Nat.reduceMul, Nat.reduceSub, reduceIte, Int.reduceEq, Int.reduceNe, Int.reduceLT, Int.reduceLE, Int.reduceAdd, Int.reduceSub, Int.reduceMul, Int.reduceNeg, Int.reduceMod, Int.reduceDiv, Int.reduceTMod, Int.reduceTDiv, Int.reduceToNat, okChain_i, okLoads_nil, okLoads_in, okLoads_eq])
      ρ H ⟨r1, by simpa [cnt] using r5, r8, r9, r10, [], by simp⟩
    rw [e]
    refine ⟨X, ?_⟩
    simp (maxDischargeDepth := 8) only [c53_8, h5, RUN, Ed, knd, kndR, resV, binInt, mnmxV, mnmx2, fillL, unV, lenV, extractV, partV, loadAt, Nat.reduceAdd, Nat.reduceBEq, Nat.reduceEqDiff, Nat.reduceLT, Nat.reduceLeDiff, Nat.reduceMul, Nat.reduceSub, reduceIte, Int.reduceEq, Int.reduceNe, Int.reduceLT, Int.reduceLE, Int.reduceAdd, Int.reduceSub, Int.reduceMul, Int.reduceNeg, Int.reduceMod, Int.reduceDiv, Int.reduceTMod, Int.reduceTDiv, Int.reduceToNat, okChain_i, okLoads_nil, okLoads_in, okLoads_eq]
  obtain ⟨X, hX⟩ : ∃ X : Heap, X = [] := ⟨_, rfl⟩
  rw [D_eq p53 _ _ (Nat.le_of_ble_eq_true rfl)]
  simp (maxDischargeDepth := 8) only [r53, b53, c53_0, c53_1, c53_2, l1, RUN, Ed, knd, kndR, resV, binInt, mnmxV, mnmx2, fillL, unV, extractV, partV, loadAt, Nat.reduceAdd, Nat.reduceBEq, Nat.reduceEqDiff, Nat.reduceLT, Nat.reduceLeDiff, Nat.reduceMul, Nat.reduceSub, reduceIte, Int.reduceEq, Int.reduceNe, Int.reduceLT, Int.reduceLE, Int.reduceAdd, Int.reduceSub, Int.reduceMul, Int.reduceNeg, Int.reduceMod, Int.reduceDiv, Int.reduceTMod, Int.reduceTDiv, Int.reduceToNat, okChain_i, okLoads_nil, okLoads_in, okLoads_eq]
  refine key _ ⟨?_, ?_, ?_, ?_, ?_⟩
  all_goals simp (maxDischargeDepth := 8) only [RUN, Ed, knd, kndR, resV, binInt, mnmxV, mnmx2, fillL, unV, lenV, extractV, partV, loadAt, Nat.reduceAdd, Nat.reduceBEq, Nat.reduceEqDiff, Nat.reduceLT, Nat.reduceLeDiff, Nat.reduceMul, Nat.reduceSub, reduceIte, Int.reduceEq, Int.reduceNe, Int.reduceLT, Int.reduceLE, Int.reduceAdd, Int.reduceSub, Int.reduceMul, Int.reduceNeg, Int.reduceMod, Int.reduceDiv, Int.reduceTMod, Int.reduceTDiv, Int.reduceToNat, okChain_i, okLoads_nil, okLoads_in, okLoads_eq]
end Go.Proofs.Ytbamnfladjkkcaa.Sim
