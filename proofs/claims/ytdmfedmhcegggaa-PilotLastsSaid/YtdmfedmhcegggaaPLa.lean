/- Chapter 8 over the plain heap, in the seat without errors; PilotLasts. -/
import Derived.Test.YtdmfedmhcegggaaPrg
import Derived.Test.YtdmfedmhcegggaaSim21
import Derived.Test.YtdmfedmhcegggaaSim19
namespace Go.Proofs.Ytdmfedmhcegggaa.Sim
open Go
set_option linter.unusedSimpArgs false
set_option linter.unusedVariables false
noncomputable abbrev K := D Try.prog hints
theorem live_more0 {H : Heap} {i : Nat} {b : Blk} (h : live H i = some b) (X : Heap) : live (H ++ X) i = some b := by rw [live_app _ _ _ (live_lt h)]; exact h
def OkC (c a : Int) : Prop := (1 ≤ c ∧ c ≤ 5) ∧ (a = 0 ∨ a = 1)
instance (c a : Int) : Decidable (OkC c a) := inferInstanceAs (Decidable (_ ∧ _))
theorem may_f (c a : Int) (H : Heap) : K 10 [.int .i64 c, .int .i64 a] H = some (.bool (decide (OkC c a)), H) := by
  rw [K, D_eq p10 _ _ (Nat.le_of_ble_eq_true rfl)]
  by_cases k0 : 1 ≤ c
  · by_cases k1 : c ≤ 5
    · by_cases k2 : a = 0
      · have hg : decide (OkC c a) = true := by rw [decide_eq_true_iff]; unfold OkC; grind
        rw [hg]
        subst k2
        simp (maxDischargeDepth := 8) only [r10, b10, c10_0, c10_1, k0, k1, RUN, Ed, knd, kndR, resV, binInt, mnmxV, mnmx2, fillL, unV, lenV, extractV, partV, loadAt, Nat.reduceAdd, Nat.reduceBEq, Nat.reduceEqDiff, Nat.reduceLT, Nat.reduceLeDiff, Nat.reduceMul, Nat.reduceSub, reduceIte, Int.reduceEq, Int.reduceNe, Int.reduceLT, Int.reduceLE, Int.reduceAdd, Int.reduceSub, Int.reduceMul, Int.reduceNeg, Int.reduceMod, Int.reduceDiv, Int.reduceTMod, Int.reduceTDiv, Int.reduceToNat, okChain_i, okLoads_nil, okLoads_in, okLoads_eq]
      · have d2 : decide (a = 0) = false := by simpa using k2
        by_cases k3 : a = 1
        · have hg : decide (OkC c a) = true := by rw [decide_eq_true_iff]; unfold OkC; grind
          rw [hg]
          subst k3
          simp (maxDischargeDepth := 8) only [r10, b10, c10_0, c10_1, k0, k1, d2, RUN, Ed, knd, kndR, resV, binInt, mnmxV, mnmx2, fillL, unV, lenV, extractV, partV, loadAt, Nat.reduceAdd, Nat.reduceBEq, Nat.reduceEqDiff, Nat.reduceLT, Nat.reduceLeDiff, Nat.reduceMul, Nat.reduceSub, reduceIte, Int.reduceEq, Int.reduceNe, Int.reduceLT, Int.reduceLE, Int.reduceAdd, Int.reduceSub, Int.reduceMul, Int.reduceNeg, Int.reduceMod, Int.reduceDiv, Int.reduceTMod, Int.reduceTDiv, Int.reduceToNat, okChain_i, okLoads_nil, okLoads_in, okLoads_eq]
        · have d3 : decide (a = 1) = false := by simpa using k3
          have hg : decide (OkC c a) = false := by rw [decide_eq_false_iff_not]; unfold OkC; grind
          simp (maxDischargeDepth := 8) only [r10, b10, c10_0, c10_1, hg, k0, k1, d2, d3, RUN, Ed, knd, kndR, resV, binInt, mnmxV, mnmx2, fillL, unV, lenV, extractV, partV, loadAt, Nat.reduceAdd, Nat.reduceBEq, Nat.reduceEqDiff, Nat.reduceLT, Nat.reduceLeDiff, Nat.reduceMul, Nat.reduceSub, reduceIte, Int.reduceEq, Int.reduceNe, Int.reduceLT, Int.reduceLE, Int.reduceAdd, Int.reduceSub, Int.reduceMul, Int.reduceNeg, Int.reduceMod, Int.reduceDiv, Int.reduceTMod, Int.reduceTDiv, Int.reduceToNat, okChain_i, okLoads_nil, okLoads_in, okLoads_eq]
    · have hg : decide (OkC c a) = false := by rw [decide_eq_false_iff_not]; unfold OkC; grind
      simp (maxDischargeDepth := 8) only [r10, b10, c10_0, c10_1, hg, k0, k1, RUN, Ed, knd, kndR, resV, binInt, mnmxV, mnmx2, fillL, unV, lenV, extractV, partV, loadAt, Nat.reduceAdd, Nat.reduceBEq, Nat.reduceEqDiff, Nat.reduceLT, Nat.reduceLeDiff, Nat.reduceMul, Nat.reduceSub, reduceIte, Int.reduceEq, Int.reduceNe, Int.reduceLT, Int.reduceLE, Int.reduceAdd, Int.reduceSub, Int.reduceMul, Int.reduceNeg, Int.reduceMod, Int.reduceDiv, Int.reduceTMod, Int.reduceTDiv, Int.reduceToNat, okChain_i, okLoads_nil, okLoads_in, okLoads_eq]
  · have hg : decide (OkC c a) = false := by rw [decide_eq_false_iff_not]; unfold OkC; grind
    simp (maxDischargeDepth := 8) only [r10, b10, c10_0, c10_1, hg, k0, RUN, Ed, knd, kndR, resV, binInt, mnmxV, mnmx2, fillL, unV, lenV, extractV, partV, loadAt, Nat.reduceAdd, Nat.reduceBEq, Nat.reduceEqDiff, Nat.reduceLT, Nat.reduceLeDiff, Nat.reduceMul, Nat.reduceSub, reduceIte, Int.reduceEq, Int.reduceNe, Int.reduceLT, Int.reduceLE, Int.reduceAdd, Int.reduceSub, Int.reduceMul, Int.reduceNeg, Int.reduceMod, Int.reduceDiv, Int.reduceTMod, Int.reduceTDiv, Int.reduceToNat, okChain_i, okLoads_nil, okLoads_in, okLoads_eq]
/-- What a pilot told. -/
structure PS where
  e : Bool
  s : Bool
  l : Bool
  r : Bool
  n : Int
def PS.L (x : PS) : List Value := [.bool x.e, .bool x.s, .bool x.l, .bool x.r, .int .i64 x.n]
def PS.ok (x : PS) : Prop := 0 ≤ x.n ∧ x.n ≤ 1000
def apP (x : PS) (c a : Int) : PS :=
  if OkC c a then
    (if c = 1 then { x with e := decide (a = 1) } else if c = 2 then { x with s := decide (a = 1) } else if c = 3 then { x with l := true } else if c = 4 then { x with r := decide (a = 1) } else { x with n := if 1000 < x.n + 1 then 1000 else x.n + 1 })
  else x
theorem apP_ok (x : PS) (c a : Int) (h : x.ok) : (apP x c a).ok := by
  unfold PS.ok at *
  unfold apP
  split
  · split
    · exact h
    · split
      · exact h
      · split
        · exact h
        · split
          · exact h
          · simp only; split <;> omega
  · exact h
theorem set_same {H : Heap} {p : Nat} {b : Blk} (h : live H p = some b) : H.set p (some b) = H := by
  have hp := live_lt h
  have e : H[p]? = some (some b) := live_some h
  apply List.ext_getElem?
  intro i
  by_cases hi : i = p
  · subst hi
    rw [List.getElem?_set_self hp, e]
  · rw [List.getElem?_set_ne (by omega)]
theorem apply_f (p : Nat) (x : PS) (c a : Int) (ty : TypeId) (H : Heap) (h : live H p = some ⟨true, ty, x.L⟩) (hx : x.ok) : K 6 [.pointer (some ⟨p, 0, none⟩), .int .i64 c, .int .i64 a] H = some (.bool (decide (OkC c a)), H.set p (some ⟨true, ty, (apP x c a).L⟩)) := by
  have e := fun G => may_f c a G
  simp only [K] at e
  have hp := live_lt h
  unfold PS.ok at hx
  have hw := wrap64 (x.n + 1) (by omega) (by omega)
  have hw : IntKind.i64.wrap (x.n + 1) = x.n + 1 := hw
  rw [K, D_eq p6 _ _ (Nat.le_of_ble_eq_true rfl)]
  unfold PS.L at h
  by_cases hg : OkC c a
  · have hd : decide (OkC c a) = true := by simpa using hg
    have hc : c = 1 ∨ c = 2 ∨ c = 3 ∨ c = 4 ∨ c = 5 := by unfold OkC at hg; omega
    rw [hd] at e ⊢
    rcases hc with rfl | rfl | rfl | rfl | rfl
    all_goals
      simp (maxDischargeDepth := 8) only [r6, b6, c6_0, c6_1, c6_2, c6_3, c6_4, c6_5, c6_6, c6_7, c6_8, c6_9, c6_10, c6_11, c6_12, c6_13, c6_14, e, h, hp, hw, apP, hg, PS.L, RUN, Ed, knd, kndR, resV, binInt, mnmxV, mnmx2, fillL, unV, lenV, extractV, partV, loadAt, Nat.reduceAdd, Nat.reduceBEq, Nat.reduceEqDiff, Nat.reduceLT, Nat.reduceLeDiff, Nat.reduceMul, Nat.reduceSub, reduceIte, Int.reduceEq, Int.reduceNe, Int.reduceLT, Int.reduceLE, Int.reduceAdd, Int.reduceSub, Int.reduceMul, Int.reduceNeg, Int.reduceMod, Int.reduceDiv, Int.reduceTMod, Int.reduceTDiv, Int.reduceToNat, okChain_i, okLoads_nil, okLoads_in, okLoads_eq]
  · have hd : decide (OkC c a) = false := by simpa using hg
    have ha : apP x c a = x := if_neg hg
    rw [hd] at e ⊢
    rw [ha, set_same (b := ⟨true, ty, x.L⟩) h]
    simp (maxDischargeDepth := 8) only [r6, b6, c6_0, c6_1, c6_2, e, RUN, Ed, knd, kndR, resV, binInt, mnmxV, mnmx2, fillL, unV, lenV, extractV, partV, loadAt, Nat.reduceAdd, Nat.reduceBEq, Nat.reduceEqDiff, Nat.reduceLT, Nat.reduceLeDiff, Nat.reduceMul, Nat.reduceSub, reduceIte, Int.reduceEq, Int.reduceNe, Int.reduceLT, Int.reduceLE, Int.reduceAdd, Int.reduceSub, Int.reduceMul, Int.reduceNeg, Int.reduceMod, Int.reduceDiv, Int.reduceTMod, Int.reduceTDiv, Int.reduceToNat, okChain_i, okLoads_nil, okLoads_in, okLoads_eq]
def ps0 : PS := ⟨false, false, false, false, 0⟩
theorem ps0_ok : ps0.ok := ⟨by decide, by decide⟩
theorem firstP_f (H : Heap) : ∃ X, K 5 [] H = some (.bool true, H ++ X) := by
  have hl : live (H ++ [some ⟨true, 25, ps0.L⟩]) H.length = some ⟨true, 25, ps0.L⟩ := (live_app_len _ _).trans rfl
  have e1 := apply_f H.length ps0 3 0 25 _ hl ps0_ok
  rw [set_app_len] at e1
  have hl2 : live (H ++ [some ⟨true, 25, (apP ps0 3 0).L⟩]) H.length = some ⟨true, 25, (apP ps0 3 0).L⟩ := (live_app_len _ _).trans rfl
  have e2 := apply_f H.length (apP ps0 3 0) 9 0 25 _ hl2 (apP_ok _ _ _ ps0_ok)
  rw [set_app_len] at e2
  have w1 : apP ps0 3 0 = ⟨false, false, true, false, 0⟩ := by rfl
  have w2 : apP (apP ps0 3 0) 9 0 = ⟨false, false, true, false, 0⟩ := by rfl
  have w3 : decide (OkC 3 0) = true := by decide
  have w4 : decide (OkC 9 0) = false := by decide
  rw [w2] at e2
  rw [w1] at e1 e2
  rw [w3] at e1
  rw [w4] at e2
  simp only [K, PS.L, ps0] at e1 e2
  refine ⟨?X, ?run⟩
  case run =>
    rw [K, D_eq p5 _ _ (Nat.le_of_ble_eq_true rfl)]
    simp (maxDischargeDepth := 8) only [r5, b5, c5_0, c5_1, c5_2, e1, e2, RUN, Ed, knd, kndR, resV, binInt, mnmxV, mnmx2, fillL, unV, lenV, extractV, partV, loadAt, Nat.reduceAdd, Nat.reduceBEq, Nat.reduceEqDiff, Nat.reduceLT, Nat.reduceLeDiff, Nat.reduceMul, Nat.reduceSub, reduceIte, Int.reduceEq, Int.reduceNe, Int.reduceLT, Int.reduceLE, Int.reduceAdd, Int.reduceSub, Int.reduceMul, Int.reduceNeg, Int.reduceMod, Int.reduceDiv, Int.reduceTMod, Int.reduceTDiv, Int.reduceToNat, okChain_i, okLoads_nil, okLoads_in, okLoads_eq]
    rfl
/-- A slice of pairs. -/
def RS (H : Heap) (v : Value) (A : List (Int × Int)) : Prop := (A = [] ∧ ∃ e, v = .slice none 0 e) ∨ ∃ i e ow ty cells, v = .slice (some ⟨i, 0, none⟩) A.length e ∧ live H i = some ⟨ow, ty, cells⟩ ∧ ow = false ∧ ∀ j a, A[j]? = some a → cells[j * 2]? = some (.int .i64 a.1) ∧ cells[j * 2 + 1]? = some (.int .i64 a.2)
theorem RS.len {H : Heap} {v : Value} {A : List (Int × Int)} (h : RS H v A) : lenV false v = some (.int .i64 A.length) := by
  rcases h with ⟨rfl, e, rfl⟩ | ⟨i, e, ow, ty, cells, rfl, _, _⟩ <;> rfl
theorem RS.more {H : Heap} {v : Value} {A : List (Int × Int)} (h : RS H v A) (X : Heap) : RS (H ++ X) v A := by
  rcases h with h | ⟨i, e, ow, ty, cells, h1, h2, h3⟩
  · exact .inl h
  · exact .inr ⟨i, e, ow, ty, cells, h1, live_more0 h2 X, h3⟩
theorem RS.idx {H : Heap} {v : Value} {A : List (Int × Int)} (h : RS H v A) {j : Nat} {a : Int × Int} (ha : A[j]? = some a) : ∃ i, idxSV 2 v (.int .i64 j) = some (.pointer (some ⟨i, j * 2, none⟩)) ∧ ∃ ty cells, live H i = some ⟨false, ty, cells⟩ ∧ cells[j * 2]? = some (.int .i64 a.1) ∧ cells[j * 2 + 1]? = some (.int .i64 a.2) := by
  rcases h with ⟨rfl, e, rfl⟩ | ⟨i, e, ow, ty, cells, rfl, h2, rfl, h3⟩
  · simp at ha
  · have hj : j < A.length := by
      rcases Nat.lt_or_ge j A.length with q | q
      · exact q
      · rw [List.getElem?_eq_none q] at ha; cases ha
    exact ⟨i, by rw [idxS_s _ _ _ _ _ _ _ (by omega) (by omega)]; simp, ty, cells, h2, h3 j a ha⟩
theorem Opn_pairs {H : Heap} {l : List Value} (h : Opn H (.slice (.agg ((.cons (.int .i64) (.cons (.int .i64) .nil))))) l) : ∃ v A, l = [v] ∧ RS H v A := by
  simp only [Opn, OpnL] at h
  obtain ⟨i, x, ty, L, rfl, hl, hc, hm⟩ := h
  obtain ⟨M, rfl, hM⟩ := rows_map (fun a : Int × Int => [Value.int .i64 a.1, Value.int .i64 a.2]) (fun a => True) L (fun c hc' => by
    obtain ⟨a, b, rfl, ⟨x, rfl, _⟩, c', d, rfl, ⟨y, rfl, _⟩, rfl⟩ := hc c hc'
    exact ⟨(x, y), rfl, trivial⟩)
  rw [List.length_map] at hm ⊢
  refine ⟨_, M, rfl, ?_⟩
  unfold argV
  by_cases h0 : M.length = 0
  · rw [if_pos h0]
    exact .inl ⟨List.eq_nil_of_length_eq_zero h0, x, rfl⟩
  · rw [if_neg h0]
    refine .inr ⟨i, 0, false, ty, _, rfl, hm (by omega), rfl, ?_⟩
    clear hM hm hc hl h0
    induction M with
    | nil => intro j a h; simp at h
    | cons b M ih =>
      intro j a h
      cases j with
      | zero => simp at h; subst h; exact ⟨rfl, rfl⟩
      | succ j =>
        simp only [List.getElem?_cons_succ] at h
        have := ih j a h
        rw [List.map_cons, List.flatten_cons]
        rw [show (j + 1) * 2 = (j * 2) + 2 by omega, show j * 2 + 2 + 1 = (j * 2 + 1) + 2 by omega]
        exact this
structure S3 (v : Value) (p q k : Nat) (m : Int) (ρ : Fr) : Prop where
  q0 : ρ 0 = v
  q3 : ρ 3 = .bool true
  q4 : ρ 4 = .pointer (some ⟨p, 0, none⟩)
  q5 : ρ 5 = .pointer (some ⟨q, 0, none⟩)
  q6 : ρ 6 = .int .i64 m
  q7 : ρ 7 = .int .i64 k
def wL (w1 w2 w3 w4 w5 : Int) : List Value := [.int .i64 0, .int .i64 w1, .int .i64 w2, .int .i64 w3, .int .i64 w4, .int .i64 w5]
structure M3 (H : Heap) (p q k : Nat) (m : Int) (x : PS) (w1 w2 w3 w4 w5 : Int) (G : Heap) : Prop where
  h0 : 0 ≤ m ∧ m ≤ k
  hn : x.n = m
  he : x.e = decide (w1 = 1)
  hs : x.s = decide (w2 = 1)
  hl : x.l = decide (w3 = 1)
  hr : x.r = decide (w4 = 1)
  kp : live G p = some ⟨true, 25, x.L⟩
  kq : live G q = some ⟨true, 26, wL w1 w2 w3 w4 w5⟩
  old : ∀ j b, j ≠ p → j ≠ q → live H j = some b → live G j = some b
def J3 (H : Heap) (v : Value) (p q k : Nat) (ρ : Fr) (G : Heap) : Prop := ∃ m x w1 w2 w3 w4 w5, S3 v p q k m ρ ∧ M3 H p q k m x w1 w2 w3 w4 w5 G
def bod3 : RCode := (.cond (.tmp 61) (.seq (.draw c3_13) (.seq (.seq (.region c3_14) (.cond (.tmp 78) (.region c3_15) .skip)) (.seq (.region c3_16) (.cond (.tmp 85) (.region c3_17) .skip)))) .skip)
theorem round3 (H : Heap) (v : Value) (A : List (Int × Int)) (hA : RS H v A) (p q : Nat) (hpq : p ≠ q) (hpo : ∀ ty cells, live H p ≠ some ⟨false, ty, cells⟩) (hqo : ∀ ty cells, live H q ≠ some ⟨false, ty, cells⟩) (k : Nat) (c a : Int) (ha : A[k]? = some (c, a)) (hl : A.length ≤ 40) (ρ : Fr) (G0 : Heap) (h : J3 H v p q k ρ G0) :
    ∃ ρ' G', E Try.prog hints l3_0 ρ G0 = some (.normal, ρ', G') ∧ J3 H v p q (k + 1) ρ' G' := by
  obtain ⟨m, x, w1, w2, w3, w4, w5, ⟨q0, q3, q4, q5, q6, q7⟩, ⟨⟨hm0, hm1⟩, hn, hie, his, hil, hir, k1, k2, hk3⟩⟩ := h
  obtain ⟨i, e1, ty, cells, e2, e3, e4⟩ := hA.idx ha
  simp only at e3 e4
  have l1 := hA.len
  have hk : k < A.length := by
    rcases Nat.lt_or_ge k A.length with q | q
    · exact q
    · rw [List.getElem?_eq_none q] at ha; cases ha
  have hlt : (k : Int) < (A.length : Int) := by omega
  have hip : i ≠ p := by rintro rfl; exact hpo _ _ e2
  have hiq : i ≠ q := by rintro rfl; exact hqo _ _ e2
  have f0 := hk3 i _ hip hiq e2
  have ip := live_lt k1
  have iq := live_lt k2
  have i0 := live_lt f0
  have w := wrap64 ((k : Int) + 1) (by omega) (by omega)
  have wm := wrap64 (m + 1) (by omega) (by omega)
  have x0' : idxAV 2 1 (.pointer (some ⟨i, k * 2, none⟩)) (.int .i64 0) = some (.pointer (some ⟨i, k * 2, none⟩)) := rfl
  have x1' : idxAV 2 1 (.pointer (some ⟨i, k * 2, none⟩)) (.int .i64 1) = some (.pointer (some ⟨i, k * 2 + 1, none⟩)) := rfl
  have y1 : idxAV 6 1 (.pointer (some ⟨q, 0, none⟩)) (.int .i64 1) = some (.pointer (some ⟨q, 1, none⟩)) := rfl
  have y2 : idxAV 6 1 (.pointer (some ⟨q, 0, none⟩)) (.int .i64 2) = some (.pointer (some ⟨q, 2, none⟩)) := rfl
  have y3 : idxAV 6 1 (.pointer (some ⟨q, 0, none⟩)) (.int .i64 3) = some (.pointer (some ⟨q, 3, none⟩)) := rfl
  have y4 : idxAV 6 1 (.pointer (some ⟨q, 0, none⟩)) (.int .i64 4) = some (.pointer (some ⟨q, 4, none⟩)) := rfl
  have y5 : idxAV 6 1 (.pointer (some ⟨q, 0, none⟩)) (.int .i64 5) = some (.pointer (some ⟨q, 5, none⟩)) := rfl
  have hx : x.ok := ⟨by omega, by omega⟩
  have ea := apply_f p x c a 25 G0 k1 hx
  obtain ⟨G1, hG1⟩ : ∃ G1, G1 = G0.set p (some ⟨true, 25, (apP x c a).L⟩) := ⟨_, rfl⟩
  rw [← hG1] at ea
  have k21 : live G1 q = some ⟨true, 26, wL w1 w2 w3 w4 w5⟩ := by rw [hG1, live_set_ne _ _ _ _ (by omega)]; exact k2
  have k11 : live G1 p = some ⟨true, 25, (apP x c a).L⟩ := by rw [hG1]; exact live_set_eq _ _ _ ip
  have f1 : live G1 i = some ⟨false, ty, cells⟩ := by rw [hG1, live_set_ne _ _ _ _ (by omega)]; exact f0
  have hk31 : ∀ j b, j ≠ p → j ≠ q → live H j = some b → live G1 j = some b := fun j b hj1 hj2 hj => by
    rw [hG1, live_set_ne _ _ _ _ (by omega)]; exact hk3 j b hj1 hj2 hj
  have ip1 := live_lt k11
  have iq1 := live_lt k21
  have i1 := live_lt f1
  clear hG1
  simp only [K] at ea
  have fset : ∀ l, live (G1.set q (some ⟨true, 26, l⟩)) i = some ⟨false, ty, cells⟩ := fun l => by rw [live_set_ne _ _ _ _ (by omega)]; exact f1
  have pset : ∀ l, live (G1.set q (some ⟨true, 26, l⟩)) p = some ⟨true, 25, (apP x c a).L⟩ := fun l => by rw [live_set_ne _ _ _ _ (by omega)]; exact k11
  have qset : ∀ l, live (G1.set q (some ⟨true, 26, l⟩)) q = some ⟨true, 26, l⟩ := fun l => live_set_eq _ _ _ iq1
  have oset : ∀ l, ∀ j b, j ≠ p → j ≠ q → live H j = some b → live (G1.set q (some ⟨true, 26, l⟩)) j = some b := fun l j b hj1 hj2 hj => by
    rw [live_set_ne _ _ _ _ (by omega)]; exact hk31 j b hj1 hj2 hj
  by_cases hg : OkC c a
  · have hc : c = 1 ∨ c = 2 ∨ c = 3 ∨ c = 4 ∨ c = 5 := by unfold OkC at hg; omega
    have hb : a = 0 ∨ a = 1 := hg.2
    rcases hc with rfl | rfl | rfl | rfl | rfl <;> rcases hb with rfl | rfl
    · refine ⟨?ρ1, ?G1, ?run1, m, apP x 1 0, 0, w2, w3, w4, w5, ⟨?_, ?_, ?_, ?_, ?_, ?_⟩, ?inv1⟩
      case run1 =>
        simp (maxDischargeDepth := 8) only [l3_0, c3_10, c3_11, c3_12, c3_13, c3_14, c3_15, c3_16, c3_17, c3_18, wL, q0, q3, q4, q5, q6, q7, e1, e3, e4, f0, f1, k21, fset, qset, i0, i1, iq1, l1, hlt, ea, w, wm, x0', x1', y1, y2, y3, y4, y5, okChain_all, RUN, Ed, knd, kndR, resV, binInt, mnmxV, mnmx2, fillL, unV, extractV, partV, loadAt, Nat.reduceAdd, Nat.reduceBEq, Nat.reduceEqDiff, Nat.reduceLT, Nat.reduceLeDiff, Nat.reduceMul, Nat.reduceSub, reduceIte, Int.reduceEq, Int.reduceNe, Int.reduceLT, Int.reduceLE, Int.reduceAdd, Int.reduceSub, Int.reduceMul, Int.reduceNeg, Int.reduceMod, Int.reduceDiv, Int.reduceTMod, Int.reduceTDiv, Int.reduceToNat]
        rfl
      case inv1 =>
        refine ⟨⟨by omega, by omega⟩, ?_, ?_, ?_, ?_, ?_, pset _, qset _, oset _⟩
        all_goals first | exact hie | exact his | exact hil | exact hir | exact hn | rfl | (simp only [apP, hg]; first | rfl | (rw [if_pos trivial]; rfl) | skip)
        all_goals first | done | (simp [apP, hg, hie, his, hil, hir, hn]; done) | (simp [apP, hg, hie, his, hil, hir, hn]; omega)
      all_goals first | (simp (maxDischargeDepth := 8) only [q0, q3, q4, q5, q6, q7, RUN, Ed, knd, kndR, resV, binInt, mnmxV, mnmx2, fillL, unV, lenV, extractV, partV, loadAt, Nat.reduceAdd, Nat.reduceBEq, Nat.reduceEqDiff, Nat.reduceLT, Nat.reduceLeDiff, Nat.reduceMul, Nat.reduceSub, reduceIte, Int.reduceEq, Int.reduceNe, Int.reduceLT, Int.reduceLE, Int.reduceAdd, Int.reduceSub, Int.reduceMul, Int.reduceNeg, Int.reduceMod, Int.reduceDiv, Int.reduceTMod, Int.reduceTDiv, Int.reduceToNat, okChain_i, okLoads_nil, okLoads_in, okLoads_eq]; done) | (simp (maxDischargeDepth := 8) only [q0, q3, q4, q5, q6, q7, RUN, Ed, knd, kndR, resV, binInt, mnmxV, mnmx2, fillL, unV, lenV, extractV, partV, loadAt, Nat.reduceAdd, Nat.reduceBEq, Nat.reduceEqDiff, Nat.reduceLT, Nat.reduceLeDiff, Nat.reduceMul, Nat.reduceSub, reduceIte, Int.reduceEq, Int.reduceNe, Int.reduceLT, Int.reduceLE, Int.reduceAdd, Int.reduceSub, Int.reduceMul, Int.reduceNeg, Int.reduceMod, Int.reduceDiv, Int.reduceTMod, Int.reduceTDiv, Int.reduceToNat, okChain_i, okLoads_nil, okLoads_in, okLoads_eq]; rfl)
    · refine ⟨?ρ2, ?G2, ?run2, m, apP x 1 1, 1, w2, w3, w4, w5, ⟨?_, ?_, ?_, ?_, ?_, ?_⟩, ?inv2⟩
      case run2 =>
        simp (maxDischargeDepth := 8) only [l3_0, c3_10, c3_11, c3_12, c3_13, c3_14, c3_15, c3_16, c3_17, c3_18, wL, q0, q3, q4, q5, q6, q7, e1, e3, e4, f0, f1, k21, fset, qset, i0, i1, iq1, l1, hlt, ea, w, wm, x0', x1', y1, y2, y3, y4, y5, okChain_all, RUN, Ed, knd, kndR, resV, binInt, mnmxV, mnmx2, fillL, unV, extractV, partV, loadAt, Nat.reduceAdd, Nat.reduceBEq, Nat.reduceEqDiff, Nat.reduceLT, Nat.reduceLeDiff, Nat.reduceMul, Nat.reduceSub, reduceIte, Int.reduceEq, Int.reduceNe, Int.reduceLT, Int.reduceLE, Int.reduceAdd, Int.reduceSub, Int.reduceMul, Int.reduceNeg, Int.reduceMod, Int.reduceDiv, Int.reduceTMod, Int.reduceTDiv, Int.reduceToNat]
        rfl
      case inv2 =>
        refine ⟨⟨by omega, by omega⟩, ?_, ?_, ?_, ?_, ?_, pset _, qset _, oset _⟩
        all_goals first | exact hie | exact his | exact hil | exact hir | exact hn | rfl | (simp only [apP, hg]; first | rfl | (rw [if_pos trivial]; rfl) | skip)
        all_goals first | done | (simp [apP, hg, hie, his, hil, hir, hn]; done) | (simp [apP, hg, hie, his, hil, hir, hn]; omega)
      all_goals first | (simp (maxDischargeDepth := 8) only [q0, q3, q4, q5, q6, q7, RUN, Ed, knd, kndR, resV, binInt, mnmxV, mnmx2, fillL, unV, lenV, extractV, partV, loadAt, Nat.reduceAdd, Nat.reduceBEq, Nat.reduceEqDiff, Nat.reduceLT, Nat.reduceLeDiff, Nat.reduceMul, Nat.reduceSub, reduceIte, Int.reduceEq, Int.reduceNe, Int.reduceLT, Int.reduceLE, Int.reduceAdd, Int.reduceSub, Int.reduceMul, Int.reduceNeg, Int.reduceMod, Int.reduceDiv, Int.reduceTMod, Int.reduceTDiv, Int.reduceToNat, okChain_i, okLoads_nil, okLoads_in, okLoads_eq]; done) | (simp (maxDischargeDepth := 8) only [q0, q3, q4, q5, q6, q7, RUN, Ed, knd, kndR, resV, binInt, mnmxV, mnmx2, fillL, unV, lenV, extractV, partV, loadAt, Nat.reduceAdd, Nat.reduceBEq, Nat.reduceEqDiff, Nat.reduceLT, Nat.reduceLeDiff, Nat.reduceMul, Nat.reduceSub, reduceIte, Int.reduceEq, Int.reduceNe, Int.reduceLT, Int.reduceLE, Int.reduceAdd, Int.reduceSub, Int.reduceMul, Int.reduceNeg, Int.reduceMod, Int.reduceDiv, Int.reduceTMod, Int.reduceTDiv, Int.reduceToNat, okChain_i, okLoads_nil, okLoads_in, okLoads_eq]; rfl)
    · refine ⟨?ρ3, ?G3, ?run3, m, apP x 2 0, w1, 0, w3, w4, w5, ⟨?_, ?_, ?_, ?_, ?_, ?_⟩, ?inv3⟩
      case run3 =>
        simp (maxDischargeDepth := 8) only [l3_0, c3_10, c3_11, c3_12, c3_13, c3_14, c3_15, c3_16, c3_17, c3_18, wL, q0, q3, q4, q5, q6, q7, e1, e3, e4, f0, f1, k21, fset, qset, i0, i1, iq1, l1, hlt, ea, w, wm, x0', x1', y1, y2, y3, y4, y5, okChain_all, RUN, Ed, knd, kndR, resV, binInt, mnmxV, mnmx2, fillL, unV, extractV, partV, loadAt, Nat.reduceAdd, Nat.reduceBEq, Nat.reduceEqDiff, Nat.reduceLT, Nat.reduceLeDiff, Nat.reduceMul, Nat.reduceSub, reduceIte, Int.reduceEq, Int.reduceNe, Int.reduceLT, Int.reduceLE, Int.reduceAdd, Int.reduceSub, Int.reduceMul, Int.reduceNeg, Int.reduceMod, Int.reduceDiv, Int.reduceTMod, Int.reduceTDiv, Int.reduceToNat]
        rfl
      case inv3 =>
        refine ⟨⟨by omega, by omega⟩, ?_, ?_, ?_, ?_, ?_, pset _, qset _, oset _⟩
        all_goals first | exact hie | exact his | exact hil | exact hir | exact hn | rfl | (simp only [apP, hg]; first | rfl | (rw [if_pos trivial]; rfl) | skip)
        all_goals first | done | (simp [apP, hg, hie, his, hil, hir, hn]; done) | (simp [apP, hg, hie, his, hil, hir, hn]; omega)
      all_goals first | (simp (maxDischargeDepth := 8) only [q0, q3, q4, q5, q6, q7, RUN, Ed, knd, kndR, resV, binInt, mnmxV, mnmx2, fillL, unV, lenV, extractV, partV, loadAt, Nat.reduceAdd, Nat.reduceBEq, Nat.reduceEqDiff, Nat.reduceLT, Nat.reduceLeDiff, Nat.reduceMul, Nat.reduceSub, reduceIte, Int.reduceEq, Int.reduceNe, Int.reduceLT, Int.reduceLE, Int.reduceAdd, Int.reduceSub, Int.reduceMul, Int.reduceNeg, Int.reduceMod, Int.reduceDiv, Int.reduceTMod, Int.reduceTDiv, Int.reduceToNat, okChain_i, okLoads_nil, okLoads_in, okLoads_eq]; done) | (simp (maxDischargeDepth := 8) only [q0, q3, q4, q5, q6, q7, RUN, Ed, knd, kndR, resV, binInt, mnmxV, mnmx2, fillL, unV, lenV, extractV, partV, loadAt, Nat.reduceAdd, Nat.reduceBEq, Nat.reduceEqDiff, Nat.reduceLT, Nat.reduceLeDiff, Nat.reduceMul, Nat.reduceSub, reduceIte, Int.reduceEq, Int.reduceNe, Int.reduceLT, Int.reduceLE, Int.reduceAdd, Int.reduceSub, Int.reduceMul, Int.reduceNeg, Int.reduceMod, Int.reduceDiv, Int.reduceTMod, Int.reduceTDiv, Int.reduceToNat, okChain_i, okLoads_nil, okLoads_in, okLoads_eq]; rfl)
    · refine ⟨?ρ4, ?G4, ?run4, m, apP x 2 1, w1, 1, w3, w4, w5, ⟨?_, ?_, ?_, ?_, ?_, ?_⟩, ?inv4⟩
      case run4 =>
        simp (maxDischargeDepth := 8) only [l3_0, c3_10, c3_11, c3_12, c3_13, c3_14, c3_15, c3_16, c3_17, c3_18, wL, q0, q3, q4, q5, q6, q7, e1, e3, e4, f0, f1, k21, fset, qset, i0, i1, iq1, l1, hlt, ea, w, wm, x0', x1', y1, y2, y3, y4, y5, okChain_all, RUN, Ed, knd, kndR, resV, binInt, mnmxV, mnmx2, fillL, unV, extractV, partV, loadAt, Nat.reduceAdd, Nat.reduceBEq, Nat.reduceEqDiff, Nat.reduceLT, Nat.reduceLeDiff, Nat.reduceMul, Nat.reduceSub, reduceIte, Int.reduceEq, Int.reduceNe, Int.reduceLT, Int.reduceLE, Int.reduceAdd, Int.reduceSub, Int.reduceMul, Int.reduceNeg, Int.reduceMod, Int.reduceDiv, Int.reduceTMod, Int.reduceTDiv, Int.reduceToNat]
        rfl
      case inv4 =>
        refine ⟨⟨by omega, by omega⟩, ?_, ?_, ?_, ?_, ?_, pset _, qset _, oset _⟩
        all_goals first | exact hie | exact his | exact hil | exact hir | exact hn | rfl | (simp only [apP, hg]; first | rfl | (rw [if_pos trivial]; rfl) | skip)
        all_goals first | done | (simp [apP, hg, hie, his, hil, hir, hn]; done) | (simp [apP, hg, hie, his, hil, hir, hn]; omega)
      all_goals first | (simp (maxDischargeDepth := 8) only [q0, q3, q4, q5, q6, q7, RUN, Ed, knd, kndR, resV, binInt, mnmxV, mnmx2, fillL, unV, lenV, extractV, partV, loadAt, Nat.reduceAdd, Nat.reduceBEq, Nat.reduceEqDiff, Nat.reduceLT, Nat.reduceLeDiff, Nat.reduceMul, Nat.reduceSub, reduceIte, Int.reduceEq, Int.reduceNe, Int.reduceLT, Int.reduceLE, Int.reduceAdd, Int.reduceSub, Int.reduceMul, Int.reduceNeg, Int.reduceMod, Int.reduceDiv, Int.reduceTMod, Int.reduceTDiv, Int.reduceToNat, okChain_i, okLoads_nil, okLoads_in, okLoads_eq]; done) | (simp (maxDischargeDepth := 8) only [q0, q3, q4, q5, q6, q7, RUN, Ed, knd, kndR, resV, binInt, mnmxV, mnmx2, fillL, unV, lenV, extractV, partV, loadAt, Nat.reduceAdd, Nat.reduceBEq, Nat.reduceEqDiff, Nat.reduceLT, Nat.reduceLeDiff, Nat.reduceMul, Nat.reduceSub, reduceIte, Int.reduceEq, Int.reduceNe, Int.reduceLT, Int.reduceLE, Int.reduceAdd, Int.reduceSub, Int.reduceMul, Int.reduceNeg, Int.reduceMod, Int.reduceDiv, Int.reduceTMod, Int.reduceTDiv, Int.reduceToNat, okChain_i, okLoads_nil, okLoads_in, okLoads_eq]; rfl)
    · refine ⟨?ρ5, ?G5, ?run5, m, apP x 3 0, w1, w2, 1, w4, w5, ⟨?_, ?_, ?_, ?_, ?_, ?_⟩, ?inv5⟩
      case run5 =>
        simp (maxDischargeDepth := 8) only [l3_0, c3_10, c3_11, c3_12, c3_13, c3_14, c3_15, c3_16, c3_17, c3_18, wL, q0, q3, q4, q5, q6, q7, e1, e3, e4, f0, f1, k21, fset, qset, i0, i1, iq1, l1, hlt, ea, w, wm, x0', x1', y1, y2, y3, y4, y5, okChain_all, RUN, Ed, knd, kndR, resV, binInt, mnmxV, mnmx2, fillL, unV, extractV, partV, loadAt, Nat.reduceAdd, Nat.reduceBEq, Nat.reduceEqDiff, Nat.reduceLT, Nat.reduceLeDiff, Nat.reduceMul, Nat.reduceSub, reduceIte, Int.reduceEq, Int.reduceNe, Int.reduceLT, Int.reduceLE, Int.reduceAdd, Int.reduceSub, Int.reduceMul, Int.reduceNeg, Int.reduceMod, Int.reduceDiv, Int.reduceTMod, Int.reduceTDiv, Int.reduceToNat]
        rfl
      case inv5 =>
        refine ⟨⟨by omega, by omega⟩, ?_, ?_, ?_, ?_, ?_, pset _, qset _, oset _⟩
        all_goals first | exact hie | exact his | exact hil | exact hir | exact hn | rfl | (simp only [apP, hg]; first | rfl | (rw [if_pos trivial]; rfl) | skip)
        all_goals first | done | (simp [apP, hg, hie, his, hil, hir, hn]; done) | (simp [apP, hg, hie, his, hil, hir, hn]; omega)
      all_goals first | (simp (maxDischargeDepth := 8) only [q0, q3, q4, q5, q6, q7, RUN, Ed, knd, kndR, resV, binInt, mnmxV, mnmx2, fillL, unV, lenV, extractV, partV, loadAt, Nat.reduceAdd, Nat.reduceBEq, Nat.reduceEqDiff, Nat.reduceLT, Nat.reduceLeDiff, Nat.reduceMul, Nat.reduceSub, reduceIte, Int.reduceEq, Int.reduceNe, Int.reduceLT, Int.reduceLE, Int.reduceAdd, Int.reduceSub, Int.reduceMul, Int.reduceNeg, Int.reduceMod, Int.reduceDiv, Int.reduceTMod, Int.reduceTDiv, Int.reduceToNat, okChain_i, okLoads_nil, okLoads_in, okLoads_eq]; done) | (simp (maxDischargeDepth := 8) only [q0, q3, q4, q5, q6, q7, RUN, Ed, knd, kndR, resV, binInt, mnmxV, mnmx2, fillL, unV, lenV, extractV, partV, loadAt, Nat.reduceAdd, Nat.reduceBEq, Nat.reduceEqDiff, Nat.reduceLT, Nat.reduceLeDiff, Nat.reduceMul, Nat.reduceSub, reduceIte, Int.reduceEq, Int.reduceNe, Int.reduceLT, Int.reduceLE, Int.reduceAdd, Int.reduceSub, Int.reduceMul, Int.reduceNeg, Int.reduceMod, Int.reduceDiv, Int.reduceTMod, Int.reduceTDiv, Int.reduceToNat, okChain_i, okLoads_nil, okLoads_in, okLoads_eq]; rfl)
    · refine ⟨?ρ6, ?G6, ?run6, m, apP x 3 1, w1, w2, 1, w4, w5, ⟨?_, ?_, ?_, ?_, ?_, ?_⟩, ?inv6⟩
      case run6 =>
        simp (maxDischargeDepth := 8) only [l3_0, c3_10, c3_11, c3_12, c3_13, c3_14, c3_15, c3_16, c3_17, c3_18, wL, q0, q3, q4, q5, q6, q7, e1, e3, e4, f0, f1, k21, fset, qset, i0, i1, iq1, l1, hlt, ea, w, wm, x0', x1', y1, y2, y3, y4, y5, okChain_all, RUN, Ed, knd, kndR, resV, binInt, mnmxV, mnmx2, fillL, unV, extractV, partV, loadAt, Nat.reduceAdd, Nat.reduceBEq, Nat.reduceEqDiff, Nat.reduceLT, Nat.reduceLeDiff, Nat.reduceMul, Nat.reduceSub, reduceIte, Int.reduceEq, Int.reduceNe, Int.reduceLT, Int.reduceLE, Int.reduceAdd, Int.reduceSub, Int.reduceMul, Int.reduceNeg, Int.reduceMod, Int.reduceDiv, Int.reduceTMod, Int.reduceTDiv, Int.reduceToNat]
        rfl
      case inv6 =>
        refine ⟨⟨by omega, by omega⟩, ?_, ?_, ?_, ?_, ?_, pset _, qset _, oset _⟩
        all_goals first | exact hie | exact his | exact hil | exact hir | exact hn | rfl | (simp only [apP, hg]; first | rfl | (rw [if_pos trivial]; rfl) | skip)
        all_goals first | done | (simp [apP, hg, hie, his, hil, hir, hn]; done) | (simp [apP, hg, hie, his, hil, hir, hn]; omega)
      all_goals first | (simp (maxDischargeDepth := 8) only [q0, q3, q4, q5, q6, q7, RUN, Ed, knd, kndR, resV, binInt, mnmxV, mnmx2, fillL, unV, lenV, extractV, partV, loadAt, Nat.reduceAdd, Nat.reduceBEq, Nat.reduceEqDiff, Nat.reduceLT, Nat.reduceLeDiff, Nat.reduceMul, Nat.reduceSub, reduceIte, Int.reduceEq, Int.reduceNe, Int.reduceLT, Int.reduceLE, Int.reduceAdd, Int.reduceSub, Int.reduceMul, Int.reduceNeg, Int.reduceMod, Int.reduceDiv, Int.reduceTMod, Int.reduceTDiv, Int.reduceToNat, okChain_i, okLoads_nil, okLoads_in, okLoads_eq]; done) | (simp (maxDischargeDepth := 8) only [q0, q3, q4, q5, q6, q7, RUN, Ed, knd, kndR, resV, binInt, mnmxV, mnmx2, fillL, unV, lenV, extractV, partV, loadAt, Nat.reduceAdd, Nat.reduceBEq, Nat.reduceEqDiff, Nat.reduceLT, Nat.reduceLeDiff, Nat.reduceMul, Nat.reduceSub, reduceIte, Int.reduceEq, Int.reduceNe, Int.reduceLT, Int.reduceLE, Int.reduceAdd, Int.reduceSub, Int.reduceMul, Int.reduceNeg, Int.reduceMod, Int.reduceDiv, Int.reduceTMod, Int.reduceTDiv, Int.reduceToNat, okChain_i, okLoads_nil, okLoads_in, okLoads_eq]; rfl)
    · refine ⟨?ρ7, ?G7, ?run7, m, apP x 4 0, w1, w2, w3, 0, w5, ⟨?_, ?_, ?_, ?_, ?_, ?_⟩, ?inv7⟩
      case run7 =>
        simp (maxDischargeDepth := 8) only [l3_0, c3_10, c3_11, c3_12, c3_13, c3_14, c3_15, c3_16, c3_17, c3_18, wL, q0, q3, q4, q5, q6, q7, e1, e3, e4, f0, f1, k21, fset, qset, i0, i1, iq1, l1, hlt, ea, w, wm, x0', x1', y1, y2, y3, y4, y5, okChain_all, RUN, Ed, knd, kndR, resV, binInt, mnmxV, mnmx2, fillL, unV, extractV, partV, loadAt, Nat.reduceAdd, Nat.reduceBEq, Nat.reduceEqDiff, Nat.reduceLT, Nat.reduceLeDiff, Nat.reduceMul, Nat.reduceSub, reduceIte, Int.reduceEq, Int.reduceNe, Int.reduceLT, Int.reduceLE, Int.reduceAdd, Int.reduceSub, Int.reduceMul, Int.reduceNeg, Int.reduceMod, Int.reduceDiv, Int.reduceTMod, Int.reduceTDiv, Int.reduceToNat]
        rfl
      case inv7 =>
        refine ⟨⟨by omega, by omega⟩, ?_, ?_, ?_, ?_, ?_, pset _, qset _, oset _⟩
        all_goals first | exact hie | exact his | exact hil | exact hir | exact hn | rfl | (simp only [apP, hg]; first | rfl | (rw [if_pos trivial]; rfl) | skip)
        all_goals first | done | (simp [apP, hg, hie, his, hil, hir, hn]; done) | (simp [apP, hg, hie, his, hil, hir, hn]; omega)
      all_goals first | (simp (maxDischargeDepth := 8) only [q0, q3, q4, q5, q6, q7, RUN, Ed, knd, kndR, resV, binInt, mnmxV, mnmx2, fillL, unV, lenV, extractV, partV, loadAt, Nat.reduceAdd, Nat.reduceBEq, Nat.reduceEqDiff, Nat.reduceLT, Nat.reduceLeDiff, Nat.reduceMul, Nat.reduceSub, reduceIte, Int.reduceEq, Int.reduceNe, Int.reduceLT, Int.reduceLE, Int.reduceAdd, Int.reduceSub, Int.reduceMul, Int.reduceNeg, Int.reduceMod, Int.reduceDiv, Int.reduceTMod, Int.reduceTDiv, Int.reduceToNat, okChain_i, okLoads_nil, okLoads_in, okLoads_eq]; done) | (simp (maxDischargeDepth := 8) only [q0, q3, q4, q5, q6, q7, RUN, Ed, knd, kndR, resV, binInt, mnmxV, mnmx2, fillL, unV, lenV, extractV, partV, loadAt, Nat.reduceAdd, Nat.reduceBEq, Nat.reduceEqDiff, Nat.reduceLT, Nat.reduceLeDiff, Nat.reduceMul, Nat.reduceSub, reduceIte, Int.reduceEq, Int.reduceNe, Int.reduceLT, Int.reduceLE, Int.reduceAdd, Int.reduceSub, Int.reduceMul, Int.reduceNeg, Int.reduceMod, Int.reduceDiv, Int.reduceTMod, Int.reduceTDiv, Int.reduceToNat, okChain_i, okLoads_nil, okLoads_in, okLoads_eq]; rfl)
    · refine ⟨?ρ8, ?G8, ?run8, m, apP x 4 1, w1, w2, w3, 1, w5, ⟨?_, ?_, ?_, ?_, ?_, ?_⟩, ?inv8⟩
      case run8 =>
        simp (maxDischargeDepth := 8) only [l3_0, c3_10, c3_11, c3_12, c3_13, c3_14, c3_15, c3_16, c3_17, c3_18, wL, q0, q3, q4, q5, q6, q7, e1, e3, e4, f0, f1, k21, fset, qset, i0, i1, iq1, l1, hlt, ea, w, wm, x0', x1', y1, y2, y3, y4, y5, okChain_all, RUN, Ed, knd, kndR, resV, binInt, mnmxV, mnmx2, fillL, unV, extractV, partV, loadAt, Nat.reduceAdd, Nat.reduceBEq, Nat.reduceEqDiff, Nat.reduceLT, Nat.reduceLeDiff, Nat.reduceMul, Nat.reduceSub, reduceIte, Int.reduceEq, Int.reduceNe, Int.reduceLT, Int.reduceLE, Int.reduceAdd, Int.reduceSub, Int.reduceMul, Int.reduceNeg, Int.reduceMod, Int.reduceDiv, Int.reduceTMod, Int.reduceTDiv, Int.reduceToNat]
        rfl
      case inv8 =>
        refine ⟨⟨by omega, by omega⟩, ?_, ?_, ?_, ?_, ?_, pset _, qset _, oset _⟩
        all_goals first | exact hie | exact his | exact hil | exact hir | exact hn | rfl | (simp only [apP, hg]; first | rfl | (rw [if_pos trivial]; rfl) | skip)
        all_goals first | done | (simp [apP, hg, hie, his, hil, hir, hn]; done) | (simp [apP, hg, hie, his, hil, hir, hn]; omega)
      all_goals first | (simp (maxDischargeDepth := 8) only [q0, q3, q4, q5, q6, q7, RUN, Ed, knd, kndR, resV, binInt, mnmxV, mnmx2, fillL, unV, lenV, extractV, partV, loadAt, Nat.reduceAdd, Nat.reduceBEq, Nat.reduceEqDiff, Nat.reduceLT, Nat.reduceLeDiff, Nat.reduceMul, Nat.reduceSub, reduceIte, Int.reduceEq, Int.reduceNe, Int.reduceLT, Int.reduceLE, Int.reduceAdd, Int.reduceSub, Int.reduceMul, Int.reduceNeg, Int.reduceMod, Int.reduceDiv, Int.reduceTMod, Int.reduceTDiv, Int.reduceToNat, okChain_i, okLoads_nil, okLoads_in, okLoads_eq]; done) | (simp (maxDischargeDepth := 8) only [q0, q3, q4, q5, q6, q7, RUN, Ed, knd, kndR, resV, binInt, mnmxV, mnmx2, fillL, unV, lenV, extractV, partV, loadAt, Nat.reduceAdd, Nat.reduceBEq, Nat.reduceEqDiff, Nat.reduceLT, Nat.reduceLeDiff, Nat.reduceMul, Nat.reduceSub, reduceIte, Int.reduceEq, Int.reduceNe, Int.reduceLT, Int.reduceLE, Int.reduceAdd, Int.reduceSub, Int.reduceMul, Int.reduceNeg, Int.reduceMod, Int.reduceDiv, Int.reduceTMod, Int.reduceTDiv, Int.reduceToNat, okChain_i, okLoads_nil, okLoads_in, okLoads_eq]; rfl)
    · refine ⟨?ρ9, ?G9, ?run9, (m + 1), apP x 5 0, w1, w2, w3, w4, 0, ⟨?_, ?_, ?_, ?_, ?_, ?_⟩, ?inv9⟩
      case run9 =>
        simp (maxDischargeDepth := 8) only [l3_0, c3_10, c3_11, c3_12, c3_13, c3_14, c3_15, c3_16, c3_17, c3_18, wL, q0, q3, q4, q5, q6, q7, e1, e3, e4, f0, f1, k21, fset, qset, i0, i1, iq1, l1, hlt, ea, w, wm, x0', x1', y1, y2, y3, y4, y5, okChain_all, RUN, Ed, knd, kndR, resV, binInt, mnmxV, mnmx2, fillL, unV, extractV, partV, loadAt, Nat.reduceAdd, Nat.reduceBEq, Nat.reduceEqDiff, Nat.reduceLT, Nat.reduceLeDiff, Nat.reduceMul, Nat.reduceSub, reduceIte, Int.reduceEq, Int.reduceNe, Int.reduceLT, Int.reduceLE, Int.reduceAdd, Int.reduceSub, Int.reduceMul, Int.reduceNeg, Int.reduceMod, Int.reduceDiv, Int.reduceTMod, Int.reduceTDiv, Int.reduceToNat]
        rfl
      case inv9 =>
        refine ⟨⟨by omega, by omega⟩, ?_, ?_, ?_, ?_, ?_, pset _, qset _, oset _⟩
        all_goals first | exact hie | exact his | exact hil | exact hir | exact hn | rfl | (simp only [apP, hg]; first | rfl | (rw [if_pos trivial]; rfl) | skip)
        all_goals first | done | (simp [apP, hg, hie, his, hil, hir, hn]; done) | (simp [apP, hg, hie, his, hil, hir, hn]; omega)
      all_goals first | (simp (maxDischargeDepth := 8) only [q0, q3, q4, q5, q6, q7, RUN, Ed, knd, kndR, resV, binInt, mnmxV, mnmx2, fillL, unV, lenV, extractV, partV, loadAt, Nat.reduceAdd, Nat.reduceBEq, Nat.reduceEqDiff, Nat.reduceLT, Nat.reduceLeDiff, Nat.reduceMul, Nat.reduceSub, reduceIte, Int.reduceEq, Int.reduceNe, Int.reduceLT, Int.reduceLE, Int.reduceAdd, Int.reduceSub, Int.reduceMul, Int.reduceNeg, Int.reduceMod, Int.reduceDiv, Int.reduceTMod, Int.reduceTDiv, Int.reduceToNat, okChain_i, okLoads_nil, okLoads_in, okLoads_eq]; done) | (simp (maxDischargeDepth := 8) only [q0, q3, q4, q5, q6, q7, RUN, Ed, knd, kndR, resV, binInt, mnmxV, mnmx2, fillL, unV, lenV, extractV, partV, loadAt, Nat.reduceAdd, Nat.reduceBEq, Nat.reduceEqDiff, Nat.reduceLT, Nat.reduceLeDiff, Nat.reduceMul, Nat.reduceSub, reduceIte, Int.reduceEq, Int.reduceNe, Int.reduceLT, Int.reduceLE, Int.reduceAdd, Int.reduceSub, Int.reduceMul, Int.reduceNeg, Int.reduceMod, Int.reduceDiv, Int.reduceTMod, Int.reduceTDiv, Int.reduceToNat, okChain_i, okLoads_nil, okLoads_in, okLoads_eq]; rfl)
    · refine ⟨?ρ10, ?G10, ?run10, (m + 1), apP x 5 1, w1, w2, w3, w4, 1, ⟨?_, ?_, ?_, ?_, ?_, ?_⟩, ?inv10⟩
      case run10 =>
        simp (maxDischargeDepth := 8) only [l3_0, c3_10, c3_11, c3_12, c3_13, c3_14, c3_15, c3_16, c3_17, c3_18, wL, q0, q3, q4, q5, q6, q7, e1, e3, e4, f0, f1, k21, fset, qset, i0, i1, iq1, l1, hlt, ea, w, wm, x0', x1', y1, y2, y3, y4, y5, okChain_all, RUN, Ed, knd, kndR, resV, binInt, mnmxV, mnmx2, fillL, unV, extractV, partV, loadAt, Nat.reduceAdd, Nat.reduceBEq, Nat.reduceEqDiff, Nat.reduceLT, Nat.reduceLeDiff, Nat.reduceMul, Nat.reduceSub, reduceIte, Int.reduceEq, Int.reduceNe, Int.reduceLT, Int.reduceLE, Int.reduceAdd, Int.reduceSub, Int.reduceMul, Int.reduceNeg, Int.reduceMod, Int.reduceDiv, Int.reduceTMod, Int.reduceTDiv, Int.reduceToNat]
        rfl
      case inv10 =>
        refine ⟨⟨by omega, by omega⟩, ?_, ?_, ?_, ?_, ?_, pset _, qset _, oset _⟩
        all_goals first | exact hie | exact his | exact hil | exact hir | exact hn | rfl | (simp only [apP, hg]; first | rfl | (rw [if_pos trivial]; rfl) | skip)
        all_goals first | done | (simp [apP, hg, hie, his, hil, hir, hn]; done) | (simp [apP, hg, hie, his, hil, hir, hn]; omega)
      all_goals first | (simp (maxDischargeDepth := 8) only [q0, q3, q4, q5, q6, q7, RUN, Ed, knd, kndR, resV, binInt, mnmxV, mnmx2, fillL, unV, lenV, extractV, partV, loadAt, Nat.reduceAdd, Nat.reduceBEq, Nat.reduceEqDiff, Nat.reduceLT, Nat.reduceLeDiff, Nat.reduceMul, Nat.reduceSub, reduceIte, Int.reduceEq, Int.reduceNe, Int.reduceLT, Int.reduceLE, Int.reduceAdd, Int.reduceSub, Int.reduceMul, Int.reduceNeg, Int.reduceMod, Int.reduceDiv, Int.reduceTMod, Int.reduceTDiv, Int.reduceToNat, okChain_i, okLoads_nil, okLoads_in, okLoads_eq]; done) | (simp (maxDischargeDepth := 8) only [q0, q3, q4, q5, q6, q7, RUN, Ed, knd, kndR, resV, binInt, mnmxV, mnmx2, fillL, unV, lenV, extractV, partV, loadAt, Nat.reduceAdd, Nat.reduceBEq, Nat.reduceEqDiff, Nat.reduceLT, Nat.reduceLeDiff, Nat.reduceMul, Nat.reduceSub, reduceIte, Int.reduceEq, Int.reduceNe, Int.reduceLT, Int.reduceLE, Int.reduceAdd, Int.reduceSub, Int.reduceMul, Int.reduceNeg, Int.reduceMod, Int.reduceDiv, Int.reduceTMod, Int.reduceTDiv, Int.reduceToNat, okChain_i, okLoads_nil, okLoads_in, okLoads_eq]; rfl)
  · have ax : apP x c a = x := if_neg hg
    rw [ax] at k11
    by_cases g0 : 1 ≤ c
    · by_cases g1 : c ≤ 5
      · have hb : ¬ a = 0 ∧ ¬ a = 1 := by unfold OkC at hg; omega
        have d0 : decide (a = 0) = false := by simpa using hb.1
        have d1 : decide (a = 1) = false := by simpa using hb.2
        refine ⟨?ρa, ?Ga, ?runa, m, x, w1, w2, w3, w4, w5, ⟨?_, ?_, ?_, ?_, ?_, ?_⟩, ?inva⟩
        case runa =>
          simp (maxDischargeDepth := 8) only [l3_0, c3_10, c3_11, c3_12, c3_18, q0, q3, q4, q5, q6, q7, e1, e3, e4, f0, f1, i0, i1, l1, hlt, ea, w, x0', x1', g0, g1, d0, d1, okChain_all, RUN, Ed, knd, kndR, resV, binInt, mnmxV, mnmx2, fillL, unV, extractV, partV, loadAt, Nat.reduceAdd, Nat.reduceBEq, Nat.reduceEqDiff, Nat.reduceLT, Nat.reduceLeDiff, Nat.reduceMul, Nat.reduceSub, reduceIte, Int.reduceEq, Int.reduceNe, Int.reduceLT, Int.reduceLE, Int.reduceAdd, Int.reduceSub, Int.reduceMul, Int.reduceNeg, Int.reduceMod, Int.reduceDiv, Int.reduceTMod, Int.reduceTDiv, Int.reduceToNat]
          rfl
        case inva => exact ⟨⟨hm0, by omega⟩, hn, hie, his, hil, hir, k11, k21, hk31⟩
        all_goals first | (simp (maxDischargeDepth := 8) only [q0, q3, q4, q5, q6, q7, RUN, Ed, knd, kndR, resV, binInt, mnmxV, mnmx2, fillL, unV, lenV, extractV, partV, loadAt, Nat.reduceAdd, Nat.reduceBEq, Nat.reduceEqDiff, Nat.reduceLT, Nat.reduceLeDiff, Nat.reduceMul, Nat.reduceSub, reduceIte, Int.reduceEq, Int.reduceNe, Int.reduceLT, Int.reduceLE, Int.reduceAdd, Int.reduceSub, Int.reduceMul, Int.reduceNeg, Int.reduceMod, Int.reduceDiv, Int.reduceTMod, Int.reduceTDiv, Int.reduceToNat, okChain_i, okLoads_nil, okLoads_in, okLoads_eq]; done) | (simp (maxDischargeDepth := 8) only [q0, q3, q4, q5, q6, q7, RUN, Ed, knd, kndR, resV, binInt, mnmxV, mnmx2, fillL, unV, lenV, extractV, partV, loadAt, Nat.reduceAdd, Nat.reduceBEq, Nat.reduceEqDiff, Nat.reduceLT, Nat.reduceLeDiff, Nat.reduceMul, Nat.reduceSub, reduceIte, Int.reduceEq, Int.reduceNe, Int.reduceLT, Int.reduceLE, Int.reduceAdd, Int.reduceSub, Int.reduceMul, Int.reduceNeg, Int.reduceMod, Int.reduceDiv, Int.reduceTMod, Int.reduceTDiv, Int.reduceToNat, okChain_i, okLoads_nil, okLoads_in, okLoads_eq]; rfl)
      · refine ⟨?ρb, ?Gb, ?runb, m, x, w1, w2, w3, w4, w5, ⟨?_, ?_, ?_, ?_, ?_, ?_⟩, ?invb⟩
        case runb =>
          simp (maxDischargeDepth := 8) only [l3_0, c3_10, c3_11, c3_12, c3_18, q0, q3, q4, q5, q6, q7, e1, e3, e4, f0, f1, i0, i1, l1, hlt, ea, w, x0', x1', g0, g1, okChain_all, RUN, Ed, knd, kndR, resV, binInt, mnmxV, mnmx2, fillL, unV, extractV, partV, loadAt, Nat.reduceAdd, Nat.reduceBEq, Nat.reduceEqDiff, Nat.reduceLT, Nat.reduceLeDiff, Nat.reduceMul, Nat.reduceSub, reduceIte, Int.reduceEq, Int.reduceNe, Int.reduceLT, Int.reduceLE, Int.reduceAdd, Int.reduceSub, Int.reduceMul, Int.reduceNeg, Int.reduceMod, Int.reduceDiv, Int.reduceTMod, Int.reduceTDiv, Int.reduceToNat]
          rfl
        case invb => exact ⟨⟨hm0, by omega⟩, hn, hie, his, hil, hir, k11, k21, hk31⟩
        all_goals first | (simp (maxDischargeDepth := 8) only [q0, q3, q4, q5, q6, q7, RUN, Ed, knd, kndR, resV, binInt, mnmxV, mnmx2, fillL, unV, lenV, extractV, partV, loadAt, Nat.reduceAdd, Nat.reduceBEq, Nat.reduceEqDiff, Nat.reduceLT, Nat.reduceLeDiff, Nat.reduceMul, Nat.reduceSub, reduceIte, Int.reduceEq, Int.reduceNe, Int.reduceLT, Int.reduceLE, Int.reduceAdd, Int.reduceSub, Int.reduceMul, Int.reduceNeg, Int.reduceMod, Int.reduceDiv, Int.reduceTMod, Int.reduceTDiv, Int.reduceToNat, okChain_i, okLoads_nil, okLoads_in, okLoads_eq]; done) | (simp (maxDischargeDepth := 8) only [q0, q3, q4, q5, q6, q7, RUN, Ed, knd, kndR, resV, binInt, mnmxV, mnmx2, fillL, unV, lenV, extractV, partV, loadAt, Nat.reduceAdd, Nat.reduceBEq, Nat.reduceEqDiff, Nat.reduceLT, Nat.reduceLeDiff, Nat.reduceMul, Nat.reduceSub, reduceIte, Int.reduceEq, Int.reduceNe, Int.reduceLT, Int.reduceLE, Int.reduceAdd, Int.reduceSub, Int.reduceMul, Int.reduceNeg, Int.reduceMod, Int.reduceDiv, Int.reduceTMod, Int.reduceTDiv, Int.reduceToNat, okChain_i, okLoads_nil, okLoads_in, okLoads_eq]; rfl)
    · refine ⟨?ρc, ?Gc, ?runc, m, x, w1, w2, w3, w4, w5, ⟨?_, ?_, ?_, ?_, ?_, ?_⟩, ?invc⟩
      case runc =>
        simp (maxDischargeDepth := 8) only [l3_0, c3_10, c3_11, c3_12, c3_18, q0, q3, q4, q5, q6, q7, e1, e3, e4, f0, f1, i0, i1, l1, hlt, ea, w, x0', x1', g0, okChain_all, RUN, Ed, knd, kndR, resV, binInt, mnmxV, mnmx2, fillL, unV, extractV, partV, loadAt, Nat.reduceAdd, Nat.reduceBEq, Nat.reduceEqDiff, Nat.reduceLT, Nat.reduceLeDiff, Nat.reduceMul, Nat.reduceSub, reduceIte, Int.reduceEq, Int.reduceNe, Int.reduceLT, Int.reduceLE, Int.reduceAdd, Int.reduceSub, Int.reduceMul, Int.reduceNeg, Int.reduceMod, Int.reduceDiv, Int.reduceTMod, Int.reduceTDiv, Int.reduceToNat]
        rfl
      case invc => exact ⟨⟨hm0, by omega⟩, hn, hie, his, hil, hir, k11, k21, hk31⟩
      all_goals first | (simp (maxDischargeDepth := 8) only [q0, q3, q4, q5, q6, q7, RUN, Ed, knd, kndR, resV, binInt, mnmxV, mnmx2, fillL, unV, lenV, extractV, partV, loadAt, Nat.reduceAdd, Nat.reduceBEq, Nat.reduceEqDiff, Nat.reduceLT, Nat.reduceLeDiff, Nat.reduceMul, Nat.reduceSub, reduceIte, Int.reduceEq, Int.reduceNe, Int.reduceLT, Int.reduceLE, Int.reduceAdd, Int.reduceSub, Int.reduceMul, Int.reduceNeg, Int.reduceMod, Int.reduceDiv, Int.reduceTMod, Int.reduceTDiv, Int.reduceToNat, okChain_i, okLoads_nil, okLoads_in, okLoads_eq]; done) | (simp (maxDischargeDepth := 8) only [q0, q3, q4, q5, q6, q7, RUN, Ed, knd, kndR, resV, binInt, mnmxV, mnmx2, fillL, unV, lenV, extractV, partV, loadAt, Nat.reduceAdd, Nat.reduceBEq, Nat.reduceEqDiff, Nat.reduceLT, Nat.reduceLeDiff, Nat.reduceMul, Nat.reduceSub, reduceIte, Int.reduceEq, Int.reduceNe, Int.reduceLT, Int.reduceLE, Int.reduceAdd, Int.reduceSub, Int.reduceMul, Int.reduceNeg, Int.reduceMod, Int.reduceDiv, Int.reduceTMod, Int.reduceTDiv, Int.reduceToNat, okChain_i, okLoads_nil, okLoads_in, okLoads_eq]; rfl)
def t3 : RCode := .seq (.region c3_19) .ret
theorem b3t : b3 = .seq (.region c3_0) (.seq (.region c3_1) (.seq (.seq (.region c3_2) (.cond (.tmp 10) (.seq (.region c3_3) .ret) .skip)) (.seq (.seq (.region c3_4) (.cond (.tmp 13) (.seq (.region c3_5) .ret) .skip)) (.seq (.region c3_6) (.seq (.region c3_7) (.seq (.region c3_8) (.seq (.seq (.region c3_9) (.block 0 (.loop l3_0))) t3))))))) := (rfl)
theorem tail3 (H : Heap) (v : Value) (p q k : Nat) (ρ : Fr) (G : Heap) (h : J3 H v p q k ρ G) : Ok (done [.tmp 2] (E Try.prog hints t3 ρ G)) := by
  obtain ⟨m, ⟨e, s, l, r, n⟩, w1, w2, w3, w4, w5, ⟨q0, q3, q4, q5, q6, q7⟩, ⟨_, hn, hie, his, hil, hir, k1, k2, _⟩⟩ := h
  simp only at hn hie his hil hir
  subst hn hie his hil hir
  have ip := live_lt k1
  have iq := live_lt k2
  have y1 : idxAV 6 1 (.pointer (some ⟨q, 0, none⟩)) (.int .i64 1) = some (.pointer (some ⟨q, 1, none⟩)) := rfl
  have y2 : idxAV 6 1 (.pointer (some ⟨q, 0, none⟩)) (.int .i64 2) = some (.pointer (some ⟨q, 2, none⟩)) := rfl
  have y3 : idxAV 6 1 (.pointer (some ⟨q, 0, none⟩)) (.int .i64 3) = some (.pointer (some ⟨q, 3, none⟩)) := rfl
  have y4 : idxAV 6 1 (.pointer (some ⟨q, 0, none⟩)) (.int .i64 4) = some (.pointer (some ⟨q, 4, none⟩)) := rfl
  have bself : ∀ b : Bool, (b == b) = true := fun b => by simp
  simp only [PS.L, wL] at k1 k2
  simp (maxDischargeDepth := 8) only [t3, c3_19, q0, q3, q4, q5, q6, q7, k1, k2, ip, iq, y1, y2, y3, y4, bself, RUN, Ed, knd, kndR, resV, binInt, mnmxV, mnmx2, fillL, unV, lenV, extractV, partV, loadAt, Nat.reduceAdd, Nat.reduceBEq, Nat.reduceEqDiff, Nat.reduceLT, Nat.reduceLeDiff, Nat.reduceMul, Nat.reduceSub, reduceIte, Int.reduceEq, Int.reduceNe, Int.reduceLT, Int.reduceLE, Int.reduceAdd, Int.reduceSub, Int.reduceMul, Int.reduceNeg, Int.reduceMod, Int.reduceDiv, Int.reduceTMod, Int.reduceTDiv, Int.reduceToNat, okChain_i, okLoads_nil, okLoads_in, okLoads_eq]
  exact Ok.mk _
theorem lasts (v : Value) (A : List (Int × Int)) (H : Heap) (hA : RS H v A) : Ok (K 3 [v] H) := by
  obtain ⟨X0, e0⟩ := firstP_f H
  obtain ⟨G, hG⟩ : ∃ G, G = H ++ X0 := ⟨_, rfl⟩
  simp only [K] at e0
  rw [← hG] at e0
  have hA2 : RS G v A := by rw [hG]; exact hA.more _
  have l1 := hA.len
  rw [K, D_eq p3 _ _ (Nat.le_of_ble_eq_true rfl)]
  by_cases h40 : (40 : Int) < (A.length : Int)
  · simp (maxDischargeDepth := 8) only [r3, b3t, c3_0, c3_1, c3_2, c3_3, c3_4, c3_5, e0, l1, h40, RUN, Ed, knd, kndR, resV, binInt, mnmxV, mnmx2, fillL, unV, extractV, partV, loadAt, Nat.reduceAdd, Nat.reduceBEq, Nat.reduceEqDiff, Nat.reduceLT, Nat.reduceLeDiff, Nat.reduceMul, Nat.reduceSub, reduceIte, Int.reduceEq, Int.reduceNe, Int.reduceLT, Int.reduceLE, Int.reduceAdd, Int.reduceSub, Int.reduceMul, Int.reduceNeg, Int.reduceMod, Int.reduceDiv, Int.reduceTMod, Int.reduceTDiv, Int.reduceToNat, okChain_i, okLoads_nil, okLoads_in, okLoads_eq]
    exact Ok.mk _
  · have hl : A.length ≤ 40 := by omega
    simp (maxDischargeDepth := 8) only [r3, b3t, c3_0, c3_1, c3_2, c3_3, c3_4, c3_5, c3_6, c3_7, c3_8, c3_9, e0, l1, h40, RUN, Ed, knd, kndR, resV, binInt, mnmxV, mnmx2, fillL, unV, extractV, partV, loadAt, Nat.reduceAdd, Nat.reduceBEq, Nat.reduceEqDiff, Nat.reduceLT, Nat.reduceLeDiff, Nat.reduceMul, Nat.reduceSub, reduceIte, Int.reduceEq, Int.reduceNe, Int.reduceLT, Int.reduceLE, Int.reduceAdd, Int.reduceSub, Int.reduceMul, Int.reduceNeg, Int.reduceMod, Int.reduceDiv, Int.reduceTMod, Int.reduceTDiv, Int.reduceToNat, okChain_i, okLoads_nil, okLoads_in, okLoads_eq]
    have hp : live (G ++ [some ⟨true, 25, ps0.L⟩, some ⟨true, 26, wL 0 0 0 0 0⟩]) G.length = some ⟨true, 25, ps0.L⟩ := (live_app_len _ _).trans rfl
    have hq : live (G ++ [some ⟨true, 25, ps0.L⟩, some ⟨true, 26, wL 0 0 0 0 0⟩]) (G.length + 1) = some ⟨true, 26, wL 0 0 0 0 0⟩ := (live_app_add _ _ _).trans rfl
    refine cut_loop (fun ρ F => J3 (G ++ [some ⟨true, 25, ps0.L⟩, some ⟨true, 26, wL 0 0 0 0 0⟩]) v G.length (G.length + 1) 0 ρ F) (fun ρ F => J3 (G ++ [some ⟨true, 25, ps0.L⟩, some ⟨true, 26, wL 0 0 0 0 0⟩]) v G.length (G.length + 1) A.length ρ F) ⟨0, ps0, 0, 0, 0, 0, 0, ⟨?_, ?_, ?_, ?_, ?_, ?_⟩, ⟨⟨by omega, by omega⟩, rfl, rfl, rfl, rfl, rfl, hp, hq, fun j b _ _ h => h⟩⟩ ?_ ?_
    all_goals first | (simp (maxDischargeDepth := 8) only [RUN, Ed, knd, kndR, resV, binInt, mnmxV, mnmx2, fillL, unV, lenV, extractV, partV, loadAt, Nat.reduceAdd, Nat.reduceBEq, Nat.reduceEqDiff, Nat.reduceLT, Nat.reduceLeDiff, Nat.reduceMul, Nat.reduceSub, reduceIte, Int.reduceEq, Int.reduceNe, Int.reduceLT, Int.reduceLE, Int.reduceAdd, Int.reduceSub, Int.reduceMul, Int.reduceNeg, Int.reduceMod, Int.reduceDiv, Int.reduceTMod, Int.reduceTDiv, Int.reduceToNat, okChain_i, okLoads_nil, okLoads_in, okLoads_eq]; done) | (simp (maxDischargeDepth := 8) only [RUN, Ed, knd, kndR, resV, binInt, mnmxV, mnmx2, fillL, unV, lenV, extractV, partV, loadAt, Nat.reduceAdd, Nat.reduceBEq, Nat.reduceEqDiff, Nat.reduceLT, Nat.reduceLeDiff, Nat.reduceMul, Nat.reduceSub, reduceIte, Int.reduceEq, Int.reduceNe, Int.reduceLT, Int.reduceLE, Int.reduceAdd, Int.reduceSub, Int.reduceMul, Int.reduceNeg, Int.reduceMod, Int.reduceDiv, Int.reduceTMod, Int.reduceTDiv, Int.reduceToNat, okChain_i, okLoads_nil, okLoads_in, okLoads_eq]; rfl) | skip
    · intro ρ F hJ
      refine loop_inv (fun k ρ F => J3 (G ++ [some ⟨true, 25, ps0.L⟩, some ⟨true, 26, wL 0 0 0 0 0⟩]) v G.length (G.length + 1) k ρ F) _ A.length ?_ ?_ ρ F hJ
      · intro k ρ F hk hJ
        exact round3 _ v A (hA2.more _) G.length (G.length + 1) (by omega) (fun ty cells h => by rw [hp] at h; cases h) (fun ty cells h => by rw [hq] at h; cases h) k A[k].1 A[k].2 (List.getElem?_eq_getElem hk) hl ρ F hJ
      · rintro ρ F ⟨m, x, w1, w2, w3, w4, w5, ⟨q0, q3, q4, q5, q6, q7⟩, hm⟩
        have hlt : ¬ ((A.length : Int) < (A.length : Int)) := by omega
        refine ⟨?ρ2, F, ?run2, m, x, w1, w2, w3, w4, w5, ?inv2, hm⟩
        case run2 =>
          simp (maxDischargeDepth := 8) only [l3_0, c3_10, q0, q7, l1, hlt, RUN, Ed, knd, kndR, resV, binInt, mnmxV, mnmx2, fillL, unV, extractV, partV, loadAt, Nat.reduceAdd, Nat.reduceBEq, Nat.reduceEqDiff, Nat.reduceLT, Nat.reduceLeDiff, Nat.reduceMul, Nat.reduceSub, reduceIte, Int.reduceEq, Int.reduceNe, Int.reduceLT, Int.reduceLE, Int.reduceAdd, Int.reduceSub, Int.reduceMul, Int.reduceNeg, Int.reduceMod, Int.reduceDiv, Int.reduceTMod, Int.reduceTDiv, Int.reduceToNat, okChain_i, okLoads_nil, okLoads_in, okLoads_eq]
          rfl
        case inv2 => constructor <;> simp (maxDischargeDepth := 8) only [q0, q3, q4, q5, q6, q7, RUN, Ed, knd, kndR, resV, binInt, mnmxV, mnmx2, fillL, unV, lenV, extractV, partV, loadAt, Nat.reduceAdd, Nat.reduceBEq, Nat.reduceEqDiff, Nat.reduceLT, Nat.reduceLeDiff, Nat.reduceMul, Nat.reduceSub, reduceIte, Int.reduceEq, Int.reduceNe, Int.reduceLT, Int.reduceLE, Int.reduceAdd, Int.reduceSub, Int.reduceMul, Int.reduceNeg, Int.reduceMod, Int.reduceDiv, Int.reduceTMod, Int.reduceTDiv, Int.reduceToNat, okChain_i, okLoads_nil, okLoads_in, okLoads_eq]
    · intro ρ F hJ
      exact tail3 _ v _ _ _ ρ F hJ
def sh3 : List Sh := [.slice (.agg ((.cons (.int .i64) (.cons (.int .i64) .nil))))]
theorem lasts_law (H : Heap) (ls : List (List Value)) (o : OpnAll H sh3 ls) : Ok (K 3 (argsS sh3 ls) H) := by
  obtain ⟨l0, _, rfl, h0, o⟩ := o.uncons
  cases o.unnil
  obtain ⟨v, A, rfl, hA⟩ := Opn_pairs h0
  exact lasts v A H hA
end Go.Proofs.Ytdmfedmhcegggaa.Sim
