/- Bytes and frames over the plain heap: alike, and copies. -/
import Derived.Test.YtdipdpkdmiokeaaDoorFSee2
import Derived.Test.YtdipdpkdmiokeaaDoorSim21
import Derived.Test.YtdipdpkdmiokeaaDoorSim24
namespace Go.Proofs.YtdipdpkdmiokeaaDoor.Sim
open Go
set_option linter.unusedSimpArgs false
set_option linter.unusedVariables false
structure S40 (v u : Value) (k : Nat) (ρ : Fr) : Prop where
  q0 : ρ 0 = v
  q1 : ρ 1 = u
  q5 : ρ 5 = .int .i64 k
theorem round40 (H : Heap) (v u : Value) (A B : List Int) (hA : BS H v A) (hB : BS H u B) (k : Nat) (a b : Int) (ha : A[k]? = some a) (hb : B[k]? = some b) (hl : A.length ≤ 9223372036854775806) (ρ : Fr) (hs : S40 v u k ρ) :
    (a = b → ∃ ρ', E Tryd.prog hints l20_0 ρ H = some (.normal, ρ', H) ∧ S40 v u (k + 1) ρ') ∧ (a ≠ b → ∃ ρ', E Tryd.prog hints l20_0 ρ H = some (.ret, ρ', H) ∧ ρ' 4 = .bool false) := by
  obtain ⟨q0, q1, q5⟩ := hs
  obtain ⟨i, o, e1, ow, ty, cells, e2, e3⟩ := hA.idx ha
  obtain ⟨i', o', f1, ow', ty', cells', f2, f3⟩ := hB.idx hb
  have l1 := hA.len
  have hk : k < A.length := by
    rcases Nat.lt_or_ge k A.length with q | q
    · exact q
    · rw [List.getElem?_eq_none q] at ha; cases ha
  have hlt : (k : Int) < (A.length : Int) := by omega
  have g1 := live_lt e2
  have g2' := live_lt f2
  have w := wrap64 ((k : Int) + 1) (by omega) (by omega)
  constructor
  · intro hab
    subst hab
    refine ⟨?ρ1, ?run1, ?inv1⟩
    case run1 =>
      simp (maxDischargeDepth := 8) only [l20_0, c20_4, c20_5, c20_6, c20_7, c20_8, q0, q1, q5, e1, e2, e3, f1, f2, f3, l1, hlt, g1, g2', w, RUN, Ed, knd, kndR, resV, binInt, mnmxV, mnmx2, fillL, unV, extractV, partV, loadAt, Nat.reduceAdd, Nat.reduceBEq, Nat.reduceEqDiff, Nat.reduceLT, Nat.reduceLeDiff, Nat.reduceMul, Nat.reduceSub, reduceIte, Int.reduceEq, Int.reduceNe, Int.reduceLT, Int.reduceLE, Int.reduceAdd, Int.reduceSub, Int.reduceMul, Int.reduceNeg, Int.reduceMod, Int.reduceDiv, Int.reduceTMod, Int.reduceTDiv, Int.reduceToNat, okChain_i, okLoads_nil, okLoads_in, okLoads_eq]
      rfl
    case inv1 =>
      constructor <;> first | (simp (maxDischargeDepth := 8) only [q0, q1, q5, RUN, Ed, knd, kndR, resV, binInt, mnmxV, mnmx2, fillL, unV, lenV, extractV, partV, loadAt, Nat.reduceAdd, Nat.reduceBEq, Nat.reduceEqDiff, Nat.reduceLT, Nat.reduceLeDiff, Nat.reduceMul, Nat.reduceSub, reduceIte, Int.reduceEq, Int.reduceNe, Int.reduceLT, Int.reduceLE, Int.reduceAdd, Int.reduceSub, Int.reduceMul, Int.reduceNeg, Int.reduceMod, Int.reduceDiv, Int.reduceTMod, Int.reduceTDiv, Int.reduceToNat, okChain_i, okLoads_nil, okLoads_in, okLoads_eq]; done) | (simp (maxDischargeDepth := 8) only [q0, q1, q5, RUN, Ed, knd, kndR, resV, binInt, mnmxV, mnmx2, fillL, unV, lenV, extractV, partV, loadAt, Nat.reduceAdd, Nat.reduceBEq, Nat.reduceEqDiff, Nat.reduceLT, Nat.reduceLeDiff, Nat.reduceMul, Nat.reduceSub, reduceIte, Int.reduceEq, Int.reduceNe, Int.reduceLT, Int.reduceLE, Int.reduceAdd, Int.reduceSub, Int.reduceMul, Int.reduceNeg, Int.reduceMod, Int.reduceDiv, Int.reduceTMod, Int.reduceTDiv, Int.reduceToNat, okChain_i, okLoads_nil, okLoads_in, okLoads_eq]; rfl)
  · intro hab
    refine ⟨?ρ2, ?run2, ?inv2⟩
    case run2 =>
      simp (maxDischargeDepth := 8) only [l20_0, c20_4, c20_5, c20_6, c20_7, c20_8, q0, q1, q5, e1, e2, e3, f1, f2, f3, l1, hlt, hab, g1, g2', w, RUN, Ed, knd, kndR, resV, binInt, mnmxV, mnmx2, fillL, unV, extractV, partV, loadAt, Nat.reduceAdd, Nat.reduceBEq, Nat.reduceEqDiff, Nat.reduceLT, Nat.reduceLeDiff, Nat.reduceMul, Nat.reduceSub, reduceIte, Int.reduceEq, Int.reduceNe, Int.reduceLT, Int.reduceLE, Int.reduceAdd, Int.reduceSub, Int.reduceMul, Int.reduceNeg, Int.reduceMod, Int.reduceDiv, Int.reduceTMod, Int.reduceTDiv, Int.reduceToNat, okChain_i, okLoads_nil, okLoads_in, okLoads_eq]
      rfl
    case inv2 => simp (maxDischargeDepth := 8) only [RUN, Ed, knd, kndR, resV, binInt, mnmxV, mnmx2, fillL, unV, lenV, extractV, partV, loadAt, Nat.reduceAdd, Nat.reduceBEq, Nat.reduceEqDiff, Nat.reduceLT, Nat.reduceLeDiff, Nat.reduceMul, Nat.reduceSub, reduceIte, Int.reduceEq, Int.reduceNe, Int.reduceLT, Int.reduceLE, Int.reduceAdd, Int.reduceSub, Int.reduceMul, Int.reduceNeg, Int.reduceMod, Int.reduceDiv, Int.reduceTMod, Int.reduceTDiv, Int.reduceToNat, okChain_i, okLoads_nil, okLoads_in, okLoads_eq]
theorem loop40 (H : Heap) (v u : Value) (A B : List Int) (hA : BS H v A) (hB : BS H u B) (hlen : A.length = B.length) (hl : A.length ≤ 9223372036854775806) : ∀ (d k : Nat), k + d = A.length → ∀ (ρ : Fr), S40 v u k ρ →
    (A.drop k = B.drop k → ∃ ρ', E Tryd.prog hints (.loop l20_0) ρ H = some (.exit 0, ρ', H)) ∧ (A.drop k ≠ B.drop k → ∃ ρ', E Tryd.prog hints (.loop l20_0) ρ H = some (.ret, ρ', H) ∧ ρ' 4 = .bool false) := by
  intro d
  induction d with
  | zero =>
    intro k hk ρ hs
    obtain ⟨q0, q1, q5⟩ := hs
    have l1 := hA.len
    have hlt : ¬ ((k : Int) < (A.length : Int)) := by omega
    refine ⟨fun _ => ⟨?ρ1, ?run1⟩, fun h => absurd (by rw [List.drop_eq_nil_of_le (by omega), List.drop_eq_nil_of_le (by omega)]) h⟩
    case run1 =>
      rw [El]
      simp (maxDischargeDepth := 8) only [l20_0, c20_4, q0, q5, l1, hlt, RUN, Ed, knd, kndR, resV, binInt, mnmxV, mnmx2, fillL, unV, extractV, partV, loadAt, Nat.reduceAdd, Nat.reduceBEq, Nat.reduceEqDiff, Nat.reduceLT, Nat.reduceLeDiff, Nat.reduceMul, Nat.reduceSub, reduceIte, Int.reduceEq, Int.reduceNe, Int.reduceLT, Int.reduceLE, Int.reduceAdd, Int.reduceSub, Int.reduceMul, Int.reduceNeg, Int.reduceMod, Int.reduceDiv, Int.reduceTMod, Int.reduceTDiv, Int.reduceToNat, okChain_i, okLoads_nil, okLoads_in, okLoads_eq]
      rfl
  | succ d ih =>
    intro k hk ρ hs
    have hkA : k < A.length := by omega
    have hkB : k < B.length := by omega
    have ha : A[k]? = some A[k] := List.getElem?_eq_getElem hkA
    have hb : B[k]? = some B[k] := List.getElem?_eq_getElem hkB
    obtain ⟨r1, r2⟩ := round40 H v u A B hA hB k _ _ ha hb hl ρ hs
    rw [List.drop_eq_getElem_cons hkA, List.drop_eq_getElem_cons hkB]
    by_cases hab : A[k] = B[k]
    · obtain ⟨ρ', e, hs'⟩ := r1 hab
      obtain ⟨i1, i2⟩ := ih (k + 1) (by omega) ρ' hs'
      rw [El, e, andThen_n]
      constructor
      · intro h
        exact i1 (List.cons.inj h).2
      · intro h
        exact i2 fun h' => h (by rw [hab, h'])
    · obtain ⟨ρ', e, h4⟩ := r2 hab
      rw [El, e, andThen_r]
      exact ⟨fun h => absurd (List.cons.inj h).1 hab, fun _ => ⟨ρ', rfl, h4⟩⟩
theorem sameBytes_f (H : Heap) (v u : Value) (A B : List Int) (hA : BS H v A) (hB : BS H u B) (hl : A.length ≤ 9223372036854775806) : K 20 [v, u] H = some (.bool (decide (A = B)), H) := by
  have l1 := hA.len
  have l2 := hB.len
  rw [K, D_eq p20 _ _ (Nat.le_of_ble_eq_true rfl)]
  by_cases hlen : A.length = B.length
  · have hd : decide ((A.length : Int) = (B.length : Int)) = true := by simpa using (by omega : (A.length : Int) = B.length)
    obtain ⟨ρ0, hρ0⟩ : ∃ ρ0 : Fr, ρ0 = (upd (upd (upd (upd (upd (upd (upd (frame0 [v, u]) 4 (.bool false)) 7 v) 8 (.int .i64 A.length)) 9 u) 10 (.int .i64 B.length)) 11 (.bool false)) 5 (.int .i64 0)) := ⟨_, rfl⟩
    have hs : S40 v u 0 ρ0 := by rw [hρ0]; constructor <;> simp (maxDischargeDepth := 8) only [RUN, Ed, knd, kndR, resV, binInt, mnmxV, mnmx2, fillL, unV, lenV, extractV, partV, loadAt, Nat.reduceAdd, Nat.reduceBEq, Nat.reduceEqDiff, Nat.reduceLT, Nat.reduceLeDiff, Nat.reduceMul, Nat.reduceSub, reduceIte, Int.reduceEq, Int.reduceNe, Int.reduceLT, Int.reduceLE, Int.reduceAdd, Int.reduceSub, Int.reduceMul, Int.reduceNeg, Int.reduceMod, Int.reduceDiv, Int.reduceTMod, Int.reduceTDiv, Int.reduceToNat, okChain_i, okLoads_nil, okLoads_in, okLoads_eq] <;> rfl
    obtain ⟨i1, i2⟩ := loop40 H v u A B hA hB hlen hl A.length 0 (by omega) ρ0 hs
    simp (maxDischargeDepth := 8) only [r20, b20, c20_0, c20_1, c20_2, c20_3, l1, l2, hd, RUN, Ed, knd, kndR, resV, binInt, mnmxV, mnmx2, fillL, unV, extractV, partV, loadAt, Nat.reduceAdd, Nat.reduceBEq, Nat.reduceEqDiff, Nat.reduceLT, Nat.reduceLeDiff, Nat.reduceMul, Nat.reduceSub, reduceIte, Int.reduceEq, Int.reduceNe, Int.reduceLT, Int.reduceLE, Int.reduceAdd, Int.reduceSub, Int.reduceMul, Int.reduceNeg, Int.reduceMod, Int.reduceDiv, Int.reduceTMod, Int.reduceTDiv, Int.reduceToNat, okChain_i, okLoads_nil, okLoads_in, okLoads_eq]
    rw [← hρ0]
    by_cases hab : A = B
    · obtain ⟨ρ', e⟩ := i1 (by rw [hab])
      rw [e]
      have hd2 : decide (A = B) = true := by simpa using hab
      simp (maxDischargeDepth := 8) only [c20_9, hd2, RUN, Ed, knd, kndR, resV, binInt, mnmxV, mnmx2, fillL, unV, lenV, extractV, partV, loadAt, Nat.reduceAdd, Nat.reduceBEq, Nat.reduceEqDiff, Nat.reduceLT, Nat.reduceLeDiff, Nat.reduceMul, Nat.reduceSub, reduceIte, Int.reduceEq, Int.reduceNe, Int.reduceLT, Int.reduceLE, Int.reduceAdd, Int.reduceSub, Int.reduceMul, Int.reduceNeg, Int.reduceMod, Int.reduceDiv, Int.reduceTMod, Int.reduceTDiv, Int.reduceToNat, okChain_i, okLoads_nil, okLoads_in, okLoads_eq]
    · obtain ⟨ρ', e, h4⟩ := i2 (by simpa using hab)
      rw [e]
      have hd2 : decide (A = B) = false := by simpa using hab
      simp (maxDischargeDepth := 8) only [c20_9, hd2, h4, RUN, Ed, knd, kndR, resV, binInt, mnmxV, mnmx2, fillL, unV, lenV, extractV, partV, loadAt, Nat.reduceAdd, Nat.reduceBEq, Nat.reduceEqDiff, Nat.reduceLT, Nat.reduceLeDiff, Nat.reduceMul, Nat.reduceSub, reduceIte, Int.reduceEq, Int.reduceNe, Int.reduceLT, Int.reduceLE, Int.reduceAdd, Int.reduceSub, Int.reduceMul, Int.reduceNeg, Int.reduceMod, Int.reduceDiv, Int.reduceTMod, Int.reduceTDiv, Int.reduceToNat, okChain_i, okLoads_nil, okLoads_in, okLoads_eq]
  · have hd : decide ((A.length : Int) = (B.length : Int)) = false := by simpa using (by omega : ¬ (A.length : Int) = B.length)
    have hd2 : decide (A = B) = false := by
      rw [decide_eq_false_iff_not]; intro h; exact hlen (by rw [h])
    simp (maxDischargeDepth := 8) only [r20, b20, c20_0, c20_1, c20_2, l1, l2, hd, hd2, RUN, Ed, knd, kndR, resV, binInt, mnmxV, mnmx2, fillL, unV, extractV, partV, loadAt, Nat.reduceAdd, Nat.reduceBEq, Nat.reduceEqDiff, Nat.reduceLT, Nat.reduceLeDiff, Nat.reduceMul, Nat.reduceSub, reduceIte, Int.reduceEq, Int.reduceNe, Int.reduceLT, Int.reduceLE, Int.reduceAdd, Int.reduceSub, Int.reduceMul, Int.reduceNeg, Int.reduceMod, Int.reduceDiv, Int.reduceTMod, Int.reduceTDiv, Int.reduceToNat, okChain_i, okLoads_nil, okLoads_in, okLoads_eq]
theorem take_get {α : Type} (A : List α) (k : Nat) (a : α) (h : A[k]? = some a) : A.take (k + 1) = A.take k ++ [a] := by
  rw [List.take_add_one, h]; rfl
structure S23 (v : Value) (c k : Nat) (ρ : Fr) : Prop where
  q0 : ρ 0 = v
  q3 : ρ 3 = .slice (some ⟨c, 0, none⟩) k 1
  q4 : ρ 4 = .int .i64 k
def M23 (H : Heap) (A : List Int) (c k : Nat) (G : Heap) : Prop := H.length ≤ c ∧ (∃ X, G = H ++ X) ∧ live G c = some ⟨true, 5, bL (A.take k)⟩
theorem set_more {H X : Heap} {i : Nat} (h : H.length ≤ i) (y : Option Blk) : ∃ Z, (H ++ X).set i y = H ++ Z := ⟨X.set (i - H.length) y, by rw [List.set_append_right _ _ h]⟩
theorem round23 (H : Heap) (v : Value) (A : List Int) (hA : BS H v A) (hl : A.length ≤ 140737488355327) (k : Nat) (a : Int) (ha : A[k]? = some a) (c : Nat) (ρ : Fr) (G : Heap) (hs : S23 v c k ρ) (hm : M23 H A c k G) :
    ∃ ρ' G', E Tryd.prog hints l24_0 ρ G = some (.normal, ρ', G') ∧ ∃ c', S23 v c' (k + 1) ρ' ∧ M23 H A c' (k + 1) G' := by
  obtain ⟨q0, q3, q4⟩ := hs
  obtain ⟨hc, ⟨X, rfl⟩, h5⟩ := hm
  obtain ⟨i, o, e1, ow, ty, cells, e2, e3⟩ := (hA.more X).idx ha
  have l1 := hA.len
  have hk : k < A.length := by
    rcases Nat.lt_or_ge k A.length with q | q
    · exact q
    · rw [List.getElem?_eq_none q] at ha; cases ha
  have hlt : (k : Int) < (A.length : Int) := by omega
  have i2 := live_lt e2
  have i5 := live_lt h5
  have w := wrap64 ((k : Int) + 1) (by omega) (by omega)
  have ea := append_consG (ty := 5) (esz := 1) (bytes := 1) (H := (H ++ X) ++ [some ⟨true, 5, [.int .u8 a]⟩]) (i := c) (n := k) (j := (H ++ X).length) (m := 1) (e := 1) (o := true) (t := 5) (cs := [.int .u8 a]) (ds := bL (A.take k)) (live_more0 h5 _) (by rw [bL_len, List.length_take]; omega) (by rw [live_app_len]; rfl) (by omega) (by simp) (by omega) (by rfl)
  rw [show ([Value.int .u8 a]).take (1 * 1) = bL [a] from rfl, ← bL_app, ← take_get A k a ha, set_app _ _ _ _ i5] at ea
  obtain ⟨Z, hZ⟩ := set_more (X := X) hc none
  have hZl : X.length = Z.length := by have := congrArg List.length hZ; simpa using this
  rw [hZ] at ea
  simp only [List.length_append, List.length_cons, List.length_nil, Nat.zero_add, List.append_assoc, List.cons_append, List.nil_append] at ea
  refine ⟨?ρ1, ?G1, ?run1, H.length + (X.length + 1), ?inv1, ?inv2⟩
  case run1 =>
    simp (maxDischargeDepth := 8) only [l24_0, c24_3, c24_4, c24_5, q0, q3, q4, e1, e2, e3, l1, hlt, i2, w, ea, RUN, Ed, knd, kndR, resV, binInt, mnmxV, mnmx2, fillL, unV, extractV, partV, loadAt, Nat.reduceAdd, Nat.reduceBEq, Nat.reduceEqDiff, Nat.reduceLT, Nat.reduceLeDiff, Nat.reduceMul, Nat.reduceSub, reduceIte, Int.reduceEq, Int.reduceNe, Int.reduceLT, Int.reduceLE, Int.reduceAdd, Int.reduceSub, Int.reduceMul, Int.reduceNeg, Int.reduceMod, Int.reduceDiv, Int.reduceTMod, Int.reduceTDiv, Int.reduceToNat, okChain_i, okLoads_nil, okLoads_in, okLoads_eq]
    rfl
  case inv1 =>
    refine ⟨?_, ?_, ?_⟩
    · simp (maxDischargeDepth := 8) only [q0, RUN, Ed, knd, kndR, resV, binInt, mnmxV, mnmx2, fillL, unV, lenV, extractV, partV, loadAt, Nat.reduceAdd, Nat.reduceBEq, Nat.reduceEqDiff, Nat.reduceLT, Nat.reduceLeDiff, Nat.reduceMul, Nat.reduceSub, reduceIte, Int.reduceEq, Int.reduceNe, Int.reduceLT, Int.reduceLE, Int.reduceAdd, Int.reduceSub, Int.reduceMul, Int.reduceNeg, Int.reduceMod, Int.reduceDiv, Int.reduceTMod, Int.reduceTDiv, Int.reduceToNat, okChain_i, okLoads_nil, okLoads_in, okLoads_eq]
    · simp (maxDischargeDepth := 8) only [RUN, Ed, knd, kndR, resV, binInt, mnmxV, mnmx2, fillL, unV, lenV, extractV, partV, loadAt, Nat.reduceAdd, Nat.reduceBEq, Nat.reduceEqDiff, Nat.reduceLT, Nat.reduceLeDiff, Nat.reduceMul, Nat.reduceSub, reduceIte, Int.reduceEq, Int.reduceNe, Int.reduceLT, Int.reduceLE, Int.reduceAdd, Int.reduceSub, Int.reduceMul, Int.reduceNeg, Int.reduceMod, Int.reduceDiv, Int.reduceTMod, Int.reduceTDiv, Int.reduceToNat, okChain_i, okLoads_nil, okLoads_in, okLoads_eq]
    · simp (maxDischargeDepth := 8) only [RUN, Ed, knd, kndR, resV, binInt, mnmxV, mnmx2, fillL, unV, lenV, extractV, partV, loadAt, Nat.reduceAdd, Nat.reduceBEq, Nat.reduceEqDiff, Nat.reduceLT, Nat.reduceLeDiff, Nat.reduceMul, Nat.reduceSub, reduceIte, Int.reduceEq, Int.reduceNe, Int.reduceLT, Int.reduceLE, Int.reduceAdd, Int.reduceSub, Int.reduceMul, Int.reduceNeg, Int.reduceMod, Int.reduceDiv, Int.reduceTMod, Int.reduceTDiv, Int.reduceToNat, okChain_i, okLoads_nil, okLoads_in, okLoads_eq]
      rfl
  case inv2 =>
    refine ⟨by omega, ⟨_, rfl⟩, ?_⟩
    rw [live_app_add, hZl, live_app_add]
    rfl
theorem bytes_f (H : Heap) (v : Value) (A : List Int) (hA : BS H v A) (hl : A.length ≤ 140737488355327) :
    ∃ X c, D Tryd.prog hints 24 [v] H = some (.slice (some ⟨c, 0, none⟩) A.length 1, H ++ X) ∧ H.length ≤ c ∧ live (H ++ X) c = some ⟨true, 5, bL A⟩ := by
  have l1 := hA.len
  have mk := mkslice_i (H := H) 5 1 1 [.int .u8 0] .i64 .i64 0 A.length (by omega) (by omega) (by omega) (by omega)
  obtain ⟨ρ0, hρ0⟩ : ∃ ρ0 : Fr, ρ0 = (upd (upd (upd (upd (upd (upd (frame0 [v]) 2 (.slice none 0 0)) 5 v) 6 (.int .i64 A.length)) 7 (.slice (some ⟨H.length, 0, none⟩) 0 1)) 3 (.slice (some ⟨H.length, 0, none⟩) 0 1)) 4 (.int .i64 0)) := ⟨_, rfl⟩
  obtain ⟨ρ', G', e, c, ⟨q0, q3, q4⟩, hc, ⟨X, rfl⟩, h5⟩ := loop_inv (P := Tryd.prog) (hs := hints) (b := l24_0) (id := 0) (fun k ρ G => ∃ c, S23 v c k ρ ∧ M23 H A c k G) (fun ρ G => ∃ c, S23 v c A.length ρ ∧ M23 H A c A.length G) A.length
    (fun k ρ G hk ⟨c, hs, hm⟩ => round23 H v A hA hl k A[k] (List.getElem?_eq_getElem hk) c ρ G hs hm)
    (fun ρ G ⟨c, ⟨q0, q3, q4⟩, hm⟩ => by
      have hlt : ¬ ((A.length : Int) < (A.length : Int)) := by omega
      refine ⟨?ρ2, G, ?run2, c, ?inv2, hm⟩
      case run2 =>
        simp (maxDischargeDepth := 8) only [l24_0, c24_3, q0, q4, l1, hlt, RUN, Ed, knd, kndR, resV, binInt, mnmxV, mnmx2, fillL, unV, extractV, partV, loadAt, Nat.reduceAdd, Nat.reduceBEq, Nat.reduceEqDiff, Nat.reduceLT, Nat.reduceLeDiff, Nat.reduceMul, Nat.reduceSub, reduceIte, Int.reduceEq, Int.reduceNe, Int.reduceLT, Int.reduceLE, Int.reduceAdd, Int.reduceSub, Int.reduceMul, Int.reduceNeg, Int.reduceMod, Int.reduceDiv, Int.reduceTMod, Int.reduceTDiv, Int.reduceToNat, okChain_i, okLoads_nil, okLoads_in, okLoads_eq]
        rfl
      case inv2 => constructor <;> simp (maxDischargeDepth := 8) only [q0, q3, q4, RUN, Ed, knd, kndR, resV, binInt, mnmxV, mnmx2, fillL, unV, lenV, extractV, partV, loadAt, Nat.reduceAdd, Nat.reduceBEq, Nat.reduceEqDiff, Nat.reduceLT, Nat.reduceLeDiff, Nat.reduceMul, Nat.reduceSub, reduceIte, Int.reduceEq, Int.reduceNe, Int.reduceLT, Int.reduceLE, Int.reduceAdd, Int.reduceSub, Int.reduceMul, Int.reduceNeg, Int.reduceMod, Int.reduceDiv, Int.reduceTMod, Int.reduceTDiv, Int.reduceToNat, okChain_i, okLoads_nil, okLoads_in, okLoads_eq])
    ρ0 (H ++ [some ⟨true, 5, []⟩]) ⟨H.length, by rw [hρ0]; constructor <;> simp (maxDischargeDepth := 8) only [RUN, Ed, knd, kndR, resV, binInt, mnmxV, mnmx2, fillL, unV, lenV, extractV, partV, loadAt, Nat.reduceAdd, Nat.reduceBEq, Nat.reduceEqDiff, Nat.reduceLT, Nat.reduceLeDiff, Nat.reduceMul, Nat.reduceSub, reduceIte, Int.reduceEq, Int.reduceNe, Int.reduceLT, Int.reduceLE, Int.reduceAdd, Int.reduceSub, Int.reduceMul, Int.reduceNeg, Int.reduceMod, Int.reduceDiv, Int.reduceTMod, Int.reduceTDiv, Int.reduceToNat, okChain_i, okLoads_nil, okLoads_in, okLoads_eq] <;> rfl, by refine ⟨Nat.le_refl _, ⟨_, rfl⟩, (live_app_len _ _).trans ?_⟩; rfl⟩
  refine ⟨X, c, ?_, hc, by rw [h5, List.take_length]⟩
  rw [D_eq p24 _ _ (Nat.le_of_ble_eq_true rfl)]
  simp (maxDischargeDepth := 8) only [r24, b24, c24_0, c24_1, c24_2, l1, mk, fillZ, RUN, Ed, knd, kndR, resV, binInt, mnmxV, mnmx2, fillL, unV, extractV, partV, loadAt, Nat.reduceAdd, Nat.reduceBEq, Nat.reduceEqDiff, Nat.reduceLT, Nat.reduceLeDiff, Nat.reduceMul, Nat.reduceSub, reduceIte, Int.reduceEq, Int.reduceNe, Int.reduceLT, Int.reduceLE, Int.reduceAdd, Int.reduceSub, Int.reduceMul, Int.reduceNeg, Int.reduceMod, Int.reduceDiv, Int.reduceTMod, Int.reduceTDiv, Int.reduceToNat, okChain_i, okLoads_nil, okLoads_in, okLoads_eq]
  refine Eq.trans (b := done [.tmp 2] (andThen (blk 0 (E Tryd.prog hints (.loop l24_0) ρ0 (H ++ [some ⟨true, 5, []⟩]))) fun ρ H => E Tryd.prog hints (.seq (.region c24_6) .ret) ρ H)) ?_ ?_
  · rw [hρ0]
    first | rfl | skip
  rw [e]
  simp (maxDischargeDepth := 8) only [c24_6, q3, RUN, Ed, knd, kndR, resV, binInt, mnmxV, mnmx2, fillL, unV, lenV, extractV, partV, loadAt, Nat.reduceAdd, Nat.reduceBEq, Nat.reduceEqDiff, Nat.reduceLT, Nat.reduceLeDiff, Nat.reduceMul, Nat.reduceSub, reduceIte, Int.reduceEq, Int.reduceNe, Int.reduceLT, Int.reduceLE, Int.reduceAdd, Int.reduceSub, Int.reduceMul, Int.reduceNeg, Int.reduceMod, Int.reduceDiv, Int.reduceTMod, Int.reduceTDiv, Int.reduceToNat, okChain_i, okLoads_nil, okLoads_in, okLoads_eq]

end Go.Proofs.YtdipdpkdmiokeaaDoor.Sim
