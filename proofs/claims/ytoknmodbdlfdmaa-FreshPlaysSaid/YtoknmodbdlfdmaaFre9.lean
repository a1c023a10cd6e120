/- The document's bank over the plain heap. -/
import Derived.Test.YtoknmodbdlfdmaaFre3
import Derived.Test.YtoknmodbdlfdmaaSim21
namespace Go.Proofs.Ytoknmodbdlfdmaa.Sim
open Go
set_option linter.unusedSimpArgs false
set_option linter.unusedVariables false
theorem set_same {H : Heap} {p : Nat} {b : Blk} (h : live H p = some b) : H.set p (some b) = H := by
  apply List.ext_getElem?
  intro i
  by_cases hi : p = i
  · subst hi
    rw [List.getElem?_set_self (live_ltG h), live_some h]
  · rw [List.getElem?_set_ne hi]
/-- The document's bank in its cells. -/
structure RC (cs : List Value) (s : Int) (f : Int → Option La) : Prop where
  len : cs.length = 193
  s0 : cs[0]? = some (.int .i64 s)
  row : ∀ c : Nat, c < 48 → ∃ v q a b, cs[1 + c]? = some (.int .i64 v) ∧ cs[49 + c]? = some (.int .u8 q) ∧ cs[97 + c]? = some (.int .i64 a) ∧ cs[145 + c]? = some (.bool b) ∧ 0 ≤ a ∧ a ≤ 1000 ∧ (1 ≤ c → f (c : Int) = if b = true then some (v, q, a) else none)
  out : ∀ c : Int, chan c = false → f c = none
def RB (H : Heap) (x : Nat) (s : Int) (f : Int → Option La) : Prop := ∃ cs, live H x = some ⟨true, 61, cs⟩ ∧ RC cs s f
theorem RB.ext {H G : Heap} {p : Nat} {s : Int} {f : Int → Option La} (h : RB H p s f) (e : Ext H G) : RB G p s f := by
  obtain ⟨cs, h1, h2⟩ := h
  exact ⟨cs, e.live h1, h2⟩
theorem RB.stay {H G : Heap} {p : Nat} {s : Int} {f : Int → Option La} (h : RB H p s f) (e : Stay H G) : RB G p s f := by
  obtain ⟨cs, h1, h2⟩ := h
  exact ⟨cs, e.2 _ _ h1, h2⟩
theorem chan_iff (c : Int) : chan c = true ↔ 1 ≤ c ∧ c < 48 := by unfold chan; simp
theorem chan_not (c : Int) : chan c = false ↔ c < 1 ∨ 48 ≤ c := by
  unfold chan; simp only [Bool.and_eq_false_iff, decide_eq_false_iff_not]; omega
def zeros : List Value := List.replicate 48 (.int .i64 0) ++ (List.replicate 48 (.int .u8 0) ++ (List.replicate 48 (.int .i64 0) ++ List.replicate 48 (.bool false)))
theorem zeros_RC (s : Int) : RC (.int .i64 s :: zeros) s (fun _ => none) := by
  have hl : (List.replicate 48 (Value.int .i64 0)).length = 48 := List.length_replicate
  refine ⟨by unfold zeros; simp only [List.length_cons, List.length_append, List.length_replicate], rfl, fun c hc => ⟨0, 0, 0, false, ?_, ?_, ?_, ?_, by omega, by omega, fun _ => by simp⟩, fun _ _ => rfl⟩
  · rw [show 1 + c = c + 1 by omega, List.getElem?_cons_succ]; unfold zeros
    rw [List.getElem?_append_left (by simp; omega), List.getElem?_replicate, if_pos hc]
  · rw [show 49 + c = (48 + c) + 1 by omega, List.getElem?_cons_succ]; unfold zeros
    rw [List.getElem?_append_right (by simp), List.getElem?_append_left (by simp; omega), List.getElem?_replicate, if_pos (by simp; omega)]
  · rw [show 97 + c = (96 + c) + 1 by omega, List.getElem?_cons_succ]; unfold zeros
    rw [List.getElem?_append_right (by simp; omega), List.getElem?_append_right (by simp; omega), List.getElem?_append_left (by simp; omega), List.getElem?_replicate, if_pos (by simp; omega)]
  · rw [show 145 + c = (144 + c) + 1 by omega, List.getElem?_cons_succ]; unfold zeros
    rw [List.getElem?_append_right (by simp; omega), List.getElem?_append_right (by simp; omega), List.getElem?_append_right (by simp; omega), List.getElem?_replicate, if_pos (by simp; omega)]
theorem c14_1z : c14_1 = [⟨some 3, .plain (.mv (.tmp 0)), none⟩, ⟨some 4, .plain (.mnmx true [.tmp 3, .const (.int .i64 0)]), none⟩, ⟨some 5, .plain (.mnmx false [.tmp 4, .const (.int .i64 1000)]), none⟩, ⟨some 6, .plain (.build (.int .i64 0 :: zeros) [(0, 1, .tmp 5)]), none⟩, ⟨some 7, .plain (.box 61 (.tmp 6)), none⟩, ⟨some 2, .plain (.mv (.tmp 7)), none⟩] := by kernel_rfl
theorem fill_head (z : Value) (zs : List Value) (k : IntKind) (n : Int) : fillL (z :: zs) [(0, 1, .int k n)] = some (.int k n :: zs) := by
  simp only [fillL, cells_int, List.length_cons, List.length_nil]
  rw [if_pos ⟨trivial, by omega⟩]
  rfl
theorem newR_f (s : Int) (H : Heap) : K 14 [.int .i64 s] H = some (.pointer (some ⟨H.length, 0, none⟩), H ++ [some ⟨true, 61, .int .i64 (clampZ s 0 1000) :: zeros⟩]) := by
  rw [K, D_eq p14 _ _ (Nat.le_of_ble_eq_true rfl)]
  have e : (if 1000 < (if s < 0 then 0 else s) then 1000 else if s < 0 then 0 else s) = clampZ s 0 1000 := by unfold clampZ; split <;> split <;> omega
  simp (maxDischargeDepth := 8) only [r14, b14, c14_0, c14_1z, e, fill_head, RUN, Ed, knd, kndR, resV, binInt, mnmxV, mnmx2, unV, lenV, extractV, partV, loadAt, Nat.reduceAdd, Nat.reduceBEq, Nat.reduceEqDiff, Nat.reduceLT, Nat.reduceLeDiff, Nat.reduceMul, Nat.reduceSub, reduceIte, Int.reduceEq, Int.reduceNe, Int.reduceLT, Int.reduceLE, Int.reduceAdd, Int.reduceSub, Int.reduceMul, Int.reduceNeg, Int.reduceMod, Int.reduceDiv, Int.reduceTMod, Int.reduceTDiv, Int.reduceToNat, okChain_i, okLoads_nil, okLoads_in, okLoads_eq]
theorem newerR_f (a b : Int) (H : Heap) : K 23 [.int .u8 a, .int .u8 b] H = some (.bool (newerB a b), H) := by
  rw [K, D_eq p23 _ _ (Nat.le_of_ble_eq_true rfl)]
  unfold newerB
  by_cases h : 1 ≤ IntKind.u8.wrap (a - b)
  · have h1 : decide (1 ≤ IntKind.u8.wrap (a - b)) = true := by simpa using h
    simp (maxDischargeDepth := 8) only [r23, b23, c23_0, c23_1, h1, Bool.true_and, RUN, Ed, knd, kndR, resV, binInt, mnmxV, mnmx2, fillL, unV, lenV, extractV, partV, loadAt, Nat.reduceAdd, Nat.reduceBEq, Nat.reduceEqDiff, Nat.reduceLT, Nat.reduceLeDiff, Nat.reduceMul, Nat.reduceSub, reduceIte, Int.reduceEq, Int.reduceNe, Int.reduceLT, Int.reduceLE, Int.reduceAdd, Int.reduceSub, Int.reduceMul, Int.reduceNeg, Int.reduceMod, Int.reduceDiv, Int.reduceTMod, Int.reduceTDiv, Int.reduceToNat, okChain_i, okLoads_nil, okLoads_in, okLoads_eq]
  · have h1 : decide (1 ≤ IntKind.u8.wrap (a - b)) = false := by simpa using h
    simp (maxDischargeDepth := 8) only [r23, b23, c23_0, c23_1, h1, Bool.false_and, RUN, Ed, knd, kndR, resV, binInt, mnmxV, mnmx2, fillL, unV, lenV, extractV, partV, loadAt, Nat.reduceAdd, Nat.reduceBEq, Nat.reduceEqDiff, Nat.reduceLT, Nat.reduceLeDiff, Nat.reduceMul, Nat.reduceSub, reduceIte, Int.reduceEq, Int.reduceNe, Int.reduceLT, Int.reduceLE, Int.reduceAdd, Int.reduceSub, Int.reduceMul, Int.reduceNeg, Int.reduceMod, Int.reduceDiv, Int.reduceTMod, Int.reduceTDiv, Int.reduceToNat, okChain_i, okLoads_nil, okLoads_in, okLoads_eq]
theorem ageR_f {F : Heap} {p : Nat} {s : Int} {f : Int → Option La} (hb : RB F p s f) (c : Int) : K 20 [.pointer (some ⟨p, 0, none⟩), .int .i64 c] F = some (.int .i64 (ageF f c), F) := by
  rw [K, D_eq p20 _ _ (Nat.le_of_ble_eq_true rfl)]
  obtain ⟨cs, h1, hc⟩ := hb
  have j1 := live_ltG h1
  unfold ageF
  by_cases hlo : c < 1
  · rw [hc.out c ((chan_not c).2 (.inl hlo))]
    simp (maxDischargeDepth := 8) only [r20, b20, c20_0, c20_1, c20_2, c20_3, hlo, RUN, Ed, knd, kndR, resV, binInt, mnmxV, mnmx2, fillL, unV, lenV, extractV, partV, loadAt, Nat.reduceAdd, Nat.reduceBEq, Nat.reduceEqDiff, Nat.reduceLT, Nat.reduceLeDiff, Nat.reduceMul, Nat.reduceSub, reduceIte, Int.reduceEq, Int.reduceNe, Int.reduceLT, Int.reduceLE, Int.reduceAdd, Int.reduceSub, Int.reduceMul, Int.reduceNeg, Int.reduceMod, Int.reduceDiv, Int.reduceTMod, Int.reduceTDiv, Int.reduceToNat, okChain_i, okLoads_nil, okLoads_in, okLoads_eq]
  · by_cases hhi : 48 ≤ c
    · rw [hc.out c ((chan_not c).2 (.inr hhi))]
      simp (maxDischargeDepth := 8) only [r20, b20, c20_0, c20_1, c20_2, c20_3, hlo, hhi, RUN, Ed, knd, kndR, resV, binInt, mnmxV, mnmx2, fillL, unV, lenV, extractV, partV, loadAt, Nat.reduceAdd, Nat.reduceBEq, Nat.reduceEqDiff, Nat.reduceLT, Nat.reduceLeDiff, Nat.reduceMul, Nat.reduceSub, reduceIte, Int.reduceEq, Int.reduceNe, Int.reduceLT, Int.reduceLE, Int.reduceAdd, Int.reduceSub, Int.reduceMul, Int.reduceNeg, Int.reduceMod, Int.reduceDiv, Int.reduceTMod, Int.reduceTDiv, Int.reduceToNat, okChain_i, okLoads_nil, okLoads_in, okLoads_eq]
    · have g0 : 0 ≤ c := by omega
      have g1 : c < 48 := by omega
      have hcn : ((c.toNat : Nat) : Int) = c := by omega
      obtain ⟨v, q, a, b, e1, e2, e3, e4, a0, a1, hf⟩ := hc.row c.toNat (by omega)
      rw [hcn] at hf
      rw [hf (by omega)]
      have g1' : c < ((48 : Nat) : Int) := by omega
      cases b
      · simp (maxDischargeDepth := 8) only [r20, b20, c20_0, c20_1, c20_2, c20_3, hlo, hhi, h1, j1, g0, g1', Nat.mul_one, e1, e2, e3, e4, RUN, Ed, knd, kndR, resV, binInt, mnmxV, mnmx2, fillL, unV, lenV, extractV, partV, loadAt, Nat.reduceAdd, Nat.reduceBEq, Nat.reduceEqDiff, Nat.reduceLT, Nat.reduceLeDiff, Nat.reduceMul, Nat.reduceSub, reduceIte, Int.reduceEq, Int.reduceNe, Int.reduceLT, Int.reduceLE, Int.reduceAdd, Int.reduceSub, Int.reduceMul, Int.reduceNeg, Int.reduceMod, Int.reduceDiv, Int.reduceTMod, Int.reduceTDiv, Int.reduceToNat, okChain_i, okLoads_nil, okLoads_in, okLoads_eq]
      · simp (maxDischargeDepth := 8) only [r20, b20, c20_0, c20_1, c20_2, c20_3, hlo, hhi, h1, j1, g0, g1', Nat.mul_one, e1, e2, e3, e4, RUN, Ed, knd, kndR, resV, binInt, mnmxV, mnmx2, fillL, unV, lenV, extractV, partV, loadAt, Nat.reduceAdd, Nat.reduceBEq, Nat.reduceEqDiff, Nat.reduceLT, Nat.reduceLeDiff, Nat.reduceMul, Nat.reduceSub, reduceIte, Int.reduceEq, Int.reduceNe, Int.reduceLT, Int.reduceLE, Int.reduceAdd, Int.reduceSub, Int.reduceMul, Int.reduceNeg, Int.reduceMod, Int.reduceDiv, Int.reduceTMod, Int.reduceTDiv, Int.reduceToNat, okChain_i, okLoads_nil, okLoads_in, okLoads_eq]
theorem getR_f {F : Heap} {p : Nat} {s : Int} {f : Int → Option La} (hb : RB F p s f) (c : Int) : ∃ X, K 18 [.pointer (some ⟨p, 0, none⟩), .int .i64 c] F = some (.agg ⟨[.int .i64 (valF f c), .bool (isF f s c)]⟩, F ++ X) := by
  rw [K, D_eq p18 _ _ (Nat.le_of_ble_eq_true rfl)]
  obtain ⟨cs, h1, hc⟩ := hb
  have j1 := live_ltG h1
  unfold valF isF
  by_cases hlo : c < 1
  · rw [hc.out c ((chan_not c).2 (.inl hlo))]
    refine ⟨?X1, ?run1⟩
    case run1 =>
      simp (maxDischargeDepth := 8) only [r18, b18, c18_0, c18_1, c18_2, c18_3, hlo, RUN, Ed, knd, kndR, resV, binInt, mnmxV, mnmx2, fillL, unV, lenV, extractV, partV, loadAt, Nat.reduceAdd, Nat.reduceBEq, Nat.reduceEqDiff, Nat.reduceLT, Nat.reduceLeDiff, Nat.reduceMul, Nat.reduceSub, reduceIte, Int.reduceEq, Int.reduceNe, Int.reduceLT, Int.reduceLE, Int.reduceAdd, Int.reduceSub, Int.reduceMul, Int.reduceNeg, Int.reduceMod, Int.reduceDiv, Int.reduceTMod, Int.reduceTDiv, Int.reduceToNat, okChain_i, okLoads_nil, okLoads_in, okLoads_eq]
      rfl
  · by_cases hhi : 48 ≤ c
    · rw [hc.out c ((chan_not c).2 (.inr hhi))]
      refine ⟨?X2, ?run2⟩
      case run2 =>
        simp (maxDischargeDepth := 8) only [r18, b18, c18_0, c18_1, c18_2, c18_3, hlo, hhi, RUN, Ed, knd, kndR, resV, binInt, mnmxV, mnmx2, fillL, unV, lenV, extractV, partV, loadAt, Nat.reduceAdd, Nat.reduceBEq, Nat.reduceEqDiff, Nat.reduceLT, Nat.reduceLeDiff, Nat.reduceMul, Nat.reduceSub, reduceIte, Int.reduceEq, Int.reduceNe, Int.reduceLT, Int.reduceLE, Int.reduceAdd, Int.reduceSub, Int.reduceMul, Int.reduceNeg, Int.reduceMod, Int.reduceDiv, Int.reduceTMod, Int.reduceTDiv, Int.reduceToNat, okChain_i, okLoads_nil, okLoads_in, okLoads_eq]
        rfl
    · have g0 : 0 ≤ c := by omega
      have g1 : c < 48 := by omega
      have hcn : ((c.toNat : Nat) : Int) = c := by omega
      obtain ⟨v, q, a, b, e1, e2, e3, e4, a0, a1, hf⟩ := hc.row c.toNat (by omega)
      rw [hcn] at hf
      rw [hf (by omega)]
      have e0 := hc.s0
      have g1' : c < ((48 : Nat) : Int) := by omega
      cases b
      · refine ⟨?X3, ?run3⟩
        case run3 =>
          simp (maxDischargeDepth := 8) only [r18, b18, c18_0, c18_1, c18_2, c18_3, hlo, hhi, h1, j1, g0, g1', Nat.mul_one, e0, e1, e2, e3, e4, RUN, Ed, knd, kndR, resV, binInt, mnmxV, mnmx2, fillL, unV, lenV, extractV, partV, loadAt, Nat.reduceAdd, Nat.reduceBEq, Nat.reduceEqDiff, Nat.reduceLT, Nat.reduceLeDiff, Nat.reduceMul, Nat.reduceSub, reduceIte, Int.reduceEq, Int.reduceNe, Int.reduceLT, Int.reduceLE, Int.reduceAdd, Int.reduceSub, Int.reduceMul, Int.reduceNeg, Int.reduceMod, Int.reduceDiv, Int.reduceTMod, Int.reduceTDiv, Int.reduceToNat, okChain_i, okLoads_nil, okLoads_in, okLoads_eq]
          rfl
      · refine ⟨?X4, ?run4⟩
        case run4 =>
          simp (maxDischargeDepth := 8) only [r18, b18, c18_0, c18_1, c18_2, c18_3, hlo, hhi, h1, j1, g0, g1', Nat.mul_one, e0, e1, e2, e3, e4, okChain_all, RUN, Ed, knd, kndR, resV, binInt, mnmxV, mnmx2, fillL, unV, lenV, extractV, partV, loadAt, Nat.reduceAdd, Nat.reduceBEq, Nat.reduceEqDiff, Nat.reduceLT, Nat.reduceLeDiff, Nat.reduceMul, Nat.reduceSub, reduceIte, Int.reduceEq, Int.reduceNe, Int.reduceLT, Int.reduceLE, Int.reduceAdd, Int.reduceSub, Int.reduceMul, Int.reduceNeg, Int.reduceMod, Int.reduceDiv, Int.reduceTMod, Int.reduceTDiv, Int.reduceToNat]
          rfl
end Go.Proofs.Ytoknmodbdlfdmaa.Sim
