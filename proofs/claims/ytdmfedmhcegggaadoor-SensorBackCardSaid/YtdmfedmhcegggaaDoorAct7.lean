/- A copy of bytes over the plain heap. -/
import Derived.Test.YtdmfedmhcegggaaDoorAct6
import Derived.Test.YtdmfedmhcegggaaDoorSim21
namespace Go.Proofs.YtdmfedmhcegggaaDoor.Sim
open Go
set_option linter.unusedSimpArgs false
set_option linter.unusedVariables false
theorem append_consG {ty esz bytes : Nat} {H : Heap} {i n e j m t : Nat} {o : Bool} {cs ds : List Value} (hi : live H i = some ⟨true, ty, ds⟩) (hd : ds.length = n * esz) (h : live H j = some ⟨o, t, cs⟩) (hm : 0 < m) (hl : m * esz ≤ cs.length) (hb : (n + m) * bytes ≤ 140737488355328)
    (h1 : (cs.take (m * esz)).all Value.oneCell' = true) :
    appendV ty esz bytes H (.slice (some ⟨i, 0, none⟩) n esz) (.slice (some ⟨j, 0, none⟩) m e) = some (.slice (some ⟨H.length, 0, none⟩) (n + m) esz, H.set i none ++ [some ⟨true, ty, ds ++ cs.take (m * esz)⟩]) := by
  unfold appendV
  simp only [sliceCells, h, Option.bind_some]
  rw [if_pos (by omega), Option.bind_some]
  refine (if_neg (show ¬ m = 0 by omega)).trans ?_
  rw [hi, Option.bind_some]
  simp only [List.drop_zero]
  exact if_pos ⟨trivial, trivial, trivial, hd, hb, h1⟩
theorem bL_len (l : List Int) : (bL l).length = l.length := by simp [bL]
theorem bL_app (l m : List Int) : bL (l ++ m) = bL l ++ bL m := by simp [bL]
theorem take_get {α : Type} (A : List α) (k : Nat) (a : α) (h : A[k]? = some a) : A.take (k + 1) = A.take k ++ [a] := by
  rw [List.take_add_one, h]; rfl
structure S23 (v : Value) (c k : Nat) (ρ : Fr) : Prop where
  q0 : ρ 0 = v
  q3 : ρ 3 = .slice (some ⟨c, 0, none⟩) k 1
  q4 : ρ 4 = .int .i64 k
def M23 (H : Heap) (A : List Int) (c k : Nat) (G : Heap) : Prop := H.length ≤ c ∧ (∃ X, G = H ++ X) ∧ live G c = some ⟨true, 5, bL (A.take k)⟩
theorem set_more {H X : Heap} {i : Nat} (h : H.length ≤ i) (y : Option Blk) : ∃ Z, (H ++ X).set i y = H ++ Z := ⟨X.set (i - H.length) y, by rw [List.set_append_right _ _ h]⟩
theorem round23 (H : Heap) (v : Value) (A : List Int) (hA : BS H v A) (hl : A.length ≤ 140737488355327) (k : Nat) (a : Int) (ha : A[k]? = some a) (c : Nat) (ρ : Fr) (G : Heap) (hs : S23 v c k ρ) (hm : M23 H A c k G) :
    ∃ ρ' G', E Tryd.prog hints l23_0 ρ G = some (.normal, ρ', G') ∧ ∃ c', S23 v c' (k + 1) ρ' ∧ M23 H A c' (k + 1) G' := by
  obtain ⟨q0, q3, q4⟩ := hs
  obtain ⟨hc, ⟨X, rfl⟩, h5⟩ := hm
  obtain ⟨i, o, e1, ow, ty, cells, e2, e3⟩ := (hA.more X).idx ha
  have l1 := hA.len
  have hk : k < A.length := by
    rcases Nat.lt_or_ge k A.length with q | q
    · exact q
    · rw [List.getElem?_eq_none q] at ha; cases ha
  have hlt : (k : Int) < (A.length : Int) := by omega
  have i2 := live_lt e2
  have i5 := live_lt h5
  have w := wrap64 ((k : Int) + 1) (by omega) (by omega)
  have ea := append_consG (ty := 5) (esz := 1) (bytes := 1) (H := (H ++ X) ++ [some ⟨true, 5, [.int .u8 a]⟩]) (i := c) (n := k) (j := (H ++ X).length) (m := 1) (e := 1) (o := true) (t := 5) (cs := [.int .u8 a]) (ds := bL (A.take k)) (live_more0 h5 _) (by rw [bL_len, List.length_take]; omega) (by rw [live_app_len]; rfl) (by omega) (by simp) (by omega) (by rfl)
  rw [show ([Value.int .u8 a]).take (1 * 1) = bL [a] from rfl, ← bL_app, ← take_get A k a ha, set_app _ _ _ _ i5] at ea
  obtain ⟨Z, hZ⟩ := set_more (X := X) hc none
  have hZl : X.length = Z.length := by have := congrArg List.length hZ; simpa using this
  rw [hZ] at ea
  simp only [List.length_append, List.length_cons, List.length_nil, Nat.zero_add, List.append_assoc, List.cons_append, List.nil_append] at ea
  refine ⟨?ρ1, ?G1, ?run1, H.length + (X.length + 1), ?inv1, ?inv2⟩
  case run1 =>
    simp (maxDischargeDepth := 8) only [l23_0, c23_3, c23_4, c23_5, q0, q3, q4, e1, e2, e3, l1, hlt, i2, w, ea, RUN, Ed, knd, kndR, resV, binInt, mnmxV, mnmx2, fillL, unV, extractV, partV, loadAt, Nat.reduceAdd, Nat.reduceBEq, Nat.reduceEqDiff, Nat.reduceLT, Nat.reduceLeDiff, Nat.reduceMul, Nat.reduceSub, reduceIte, Int.reduceEq, Int.reduceNe, Int.reduceLT, Int.reduceLE, Int.reduceAdd, Int.reduceSub, Int.reduceMul, Int.reduceNeg, Int.reduceMod, Int.reduceDiv, Int.reduceTMod, Int.reduceTDiv, Int.reduceToNat, okChain_i, okLoads_nil, okLoads_in, okLoads_eq]
    rfl
  case inv1 =>
    refine ⟨?_, ?_, ?_⟩
    · simp (maxDischargeDepth := 8) only [q0, RUN, Ed, knd, kndR, resV, binInt, mnmxV, mnmx2, fillL, unV, lenV, extractV, partV, loadAt, Nat.reduceAdd, Nat.reduceBEq, Nat.reduceEqDiff, Nat.reduceLT, Nat.reduceLeDiff, Nat.reduceMul, Nat.reduceSub, reduceIte, Int.reduceEq, Int.reduceNe, Int.reduceLT, Int.reduceLE, Int.reduceAdd, Int.reduceSub, Int.reduceMul, Int.reduceNeg, Int.reduceMod, Int.reduceDiv, Int.reduceTMod, Int.reduceTDiv, Int.reduceToNat, okChain_i, okLoads_nil, okLoads_in, okLoads_eq]
    · simp (maxDischargeDepth := 8) only [RUN, Ed, knd, kndR, resV, binInt, mnmxV, mnmx2, fillL, unV, lenV, extractV, partV, loadAt, Nat.reduceAdd, Nat.reduceBEq, Nat.reduceEqDiff, Nat.reduceLT, Nat.reduceLeDiff, Nat.reduceMul, Nat.reduceSub, reduceIte, Int.reduceEq, Int.reduceNe, Int.reduceLT, Int.reduceLE, Int.reduceAdd, Int.reduceSub, Int.reduceMul, Int.reduceNeg, Int.reduceMod, Int.reduceDiv, Int.reduceTMod, Int.reduceTDiv, Int.reduceToNat, okChain_i, okLoads_nil, okLoads_in, okLoads_eq]
    · simp (maxDischargeDepth := 8) only [RUN, Ed, knd, kndR, resV, binInt, mnmxV, mnmx2, fillL, unV, lenV, extractV, partV, loadAt, Nat.reduceAdd, Nat.reduceBEq, Nat.reduceEqDiff, Nat.reduceLT, Nat.reduceLeDiff, Nat.reduceMul, Nat.reduceSub, reduceIte, Int.reduceEq, Int.reduceNe, Int.reduceLT, Int.reduceLE, Int.reduceAdd, Int.reduceSub, Int.reduceMul, Int.reduceNeg, Int.reduceMod, Int.reduceDiv, Int.reduceTMod, Int.reduceTDiv, Int.reduceToNat, okChain_i, okLoads_nil, okLoads_in, okLoads_eq]
      rfl
  case inv2 =>
    refine ⟨by omega, ⟨_, rfl⟩, ?_⟩
    rw [live_app_add, hZl, live_app_add]
    rfl
theorem bytes_f (H : Heap) (v : Value) (A : List Int) (hA : BS H v A) (hl : A.length ≤ 140737488355327) :
    ∃ X c, D Tryd.prog hints 23 [v] H = some (.slice (some ⟨c, 0, none⟩) A.length 1, H ++ X) ∧ H.length ≤ c ∧ live (H ++ X) c = some ⟨true, 5, bL A⟩ := by
  have l1 := hA.len
  have mk := mkslice_i (H := H) 5 1 1 [.int .u8 0] .i64 .i64 0 A.length (by omega) (by omega) (by omega) (by omega)
  obtain ⟨ρ0, hρ0⟩ : ∃ ρ0 : Fr, ρ0 = (upd (upd (upd (upd (upd (upd (frame0 [v]) 2 (.slice none 0 0)) 5 v) 6 (.int .i64 A.length)) 7 (.slice (some ⟨H.length, 0, none⟩) 0 1)) 3 (.slice (some ⟨H.length, 0, none⟩) 0 1)) 4 (.int .i64 0)) := ⟨_, rfl⟩
  obtain ⟨ρ', G', e, c, ⟨q0, q3, q4⟩, hc, ⟨X, rfl⟩, h5⟩ := loop_inv (P := Tryd.prog) (hs := hints) (b := l23_0) (id := 0) (fun k ρ G => ∃ c, S23 v c k ρ ∧ M23 H A c k G) (fun ρ G => ∃ c, S23 v c A.length ρ ∧ M23 H A c A.length G) A.length
    (fun k ρ G hk ⟨c, hs, hm⟩ => round23 H v A hA hl k A[k] (List.getElem?_eq_getElem hk) c ρ G hs hm)
    (fun ρ G ⟨c, ⟨q0, q3, q4⟩, hm⟩ => by
      have hlt : ¬ ((A.length : Int) < (A.length : Int)) := by omega
      refine ⟨?ρ2, G, ?run2, c, ?inv2, hm⟩
      case run2 =>
        simp (maxDischargeDepth := 8) only [l23_0, c23_3, q0, q4, l1, hlt, RUN, Ed, knd, kndR, resV, binInt, mnmxV, mnmx2, fillL, unV, extractV, partV, loadAt, Nat.reduceAdd, Nat.reduceBEq, Nat.reduceEqDiff, Nat.reduceLT, Nat.reduceLeDiff, Nat.reduceMul, Nat.reduceSub, reduceIte, Int.reduceEq, Int.reduceNe, Int.reduceLT, Int.reduceLE, Int.reduceAdd, Int.reduceSub, Int.reduceMul, Int.reduceNeg, Int.reduceMod, Int.reduceDiv, Int.reduceTMod, Int.reduceTDiv, Int.reduceToNat, okChain_i, okLoads_nil, okLoads_in, okLoads_eq]
        rfl
      case inv2 => constructor <;> simp (maxDischargeDepth := 8) only [q0, q3, q4, RUN, Ed, knd, kndR, resV, binInt, mnmxV, mnmx2, fillL, unV, lenV, extractV, partV, loadAt, Nat.reduceAdd, Nat.reduceBEq, Nat.reduceEqDiff, Nat.reduceLT, Nat.reduceLeDiff, Nat.reduceMul, Nat.reduceSub, reduceIte, Int.reduceEq, Int.reduceNe, Int.reduceLT, Int.reduceLE, Int.reduceAdd, Int.reduceSub, Int.reduceMul, Int.reduceNeg, Int.reduceMod, Int.reduceDiv, Int.reduceTMod, Int.reduceTDiv, Int.reduceToNat, okChain_i, okLoads_nil, okLoads_in, okLoads_eq])
    ρ0 (H ++ [some ⟨true, 5, []⟩]) ⟨H.length, by rw [hρ0]; constructor <;> simp (maxDischargeDepth := 8) only [RUN, Ed, knd, kndR, resV, binInt, mnmxV, mnmx2, fillL, unV, lenV, extractV, partV, loadAt, Nat.reduceAdd, Nat.reduceBEq, Nat.reduceEqDiff, Nat.reduceLT, Nat.reduceLeDiff, Nat.reduceMul, Nat.reduceSub, reduceIte, Int.reduceEq, Int.reduceNe, Int.reduceLT, Int.reduceLE, Int.reduceAdd, Int.reduceSub, Int.reduceMul, Int.reduceNeg, Int.reduceMod, Int.reduceDiv, Int.reduceTMod, Int.reduceTDiv, Int.reduceToNat, okChain_i, okLoads_nil, okLoads_in, okLoads_eq] <;> rfl, by refine ⟨Nat.le_refl _, ⟨_, rfl⟩, (live_app_len _ _).trans ?_⟩; rfl⟩
  refine ⟨X, c, ?_, hc, by rw [h5, List.take_length]⟩
  rw [D_eq p23 _ _ (Nat.le_of_ble_eq_true rfl)]
  simp (maxDischargeDepth := 8) only [r23, b23, c23_0, c23_1, c23_2, l1, mk, fillZ, RUN, Ed, knd, kndR, resV, binInt, mnmxV, mnmx2, fillL, unV, extractV, partV, loadAt, Nat.reduceAdd, Nat.reduceBEq, Nat.reduceEqDiff, Nat.reduceLT, Nat.reduceLeDiff, Nat.reduceMul, Nat.reduceSub, reduceIte, Int.reduceEq, Int.reduceNe, Int.reduceLT, Int.reduceLE, Int.reduceAdd, Int.reduceSub, Int.reduceMul, Int.reduceNeg, Int.reduceMod, Int.reduceDiv, Int.reduceTMod, Int.reduceTDiv, Int.reduceToNat, okChain_i, okLoads_nil, okLoads_in, okLoads_eq]
  refine Eq.trans (b := done [.tmp 2] (andThen (blk 0 (E Tryd.prog hints (.loop l23_0) ρ0 (H ++ [some ⟨true, 5, []⟩]))) fun ρ H => E Tryd.prog hints (.seq (.region c23_6) .ret) ρ H)) ?_ ?_
  · rw [hρ0]
    first | rfl | skip
  rw [e]
  simp (maxDischargeDepth := 8) only [c23_6, q3, RUN, Ed, knd, kndR, resV, binInt, mnmxV, mnmx2, fillL, unV, lenV, extractV, partV, loadAt, Nat.reduceAdd, Nat.reduceBEq, Nat.reduceEqDiff, Nat.reduceLT, Nat.reduceLeDiff, Nat.reduceMul, Nat.reduceSub, reduceIte, Int.reduceEq, Int.reduceNe, Int.reduceLT, Int.reduceLE, Int.reduceAdd, Int.reduceSub, Int.reduceMul, Int.reduceNeg, Int.reduceMod, Int.reduceDiv, Int.reduceTMod, Int.reduceTDiv, Int.reduceToNat, okChain_i, okLoads_nil, okLoads_in, okLoads_eq]
end Go.Proofs.YtdmfedmhcegggaaDoor.Sim
