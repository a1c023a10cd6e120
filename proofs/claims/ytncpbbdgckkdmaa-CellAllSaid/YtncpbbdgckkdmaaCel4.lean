/- CellAll over the plain heap. Printed by gen_cel4.py. -/
import Derived.Test.YtncpbbdgckkdmaaCel3
import Derived.Test.YtncpbbdgckkdmaaSim21
namespace Go.Proofs.Ytncpbbdgckkdmaa.Sim
open Go
set_option linter.unusedSimpArgs false
set_option linter.unusedVariables false
def g2 (a b : Int) : Bool := decide (300 < a - b) || decide (300 < b - a)
structure S4 (p10 p11 p12 : Nat) (i : Nat) (w : Int) (ρ : Fr) : Prop where
  r9 : ρ 9 = .bool true
  r10 : ρ 10 = .pointer (some ⟨p10, 0, none⟩)
  r11 : ρ 11 = .pointer (some ⟨p11, 0, none⟩)
  r12 : ρ 12 = .pointer (some ⟨p12, 0, none⟩)
  r13 : ρ 13 = .int .i64 w
  r14 : ρ 14 = .int .i64 i
theorem inner4 (c : Cv) (V : List Int) (h4 : V.length = 4) (hV : ∀ b ∈ V, 0 ≤ b ∧ b ≤ 6000) (p10 p11 p12 i : Nat) (a : Int) (ha : V[i]? = some a) (u o g : Bool) (ρ : Fr) (F : Heap) (hs : S4 p10 p11 p12 i (e3 u o g) ρ) (r15 : ρ 15 = .int .i64 0) (k10 : live F p10 = some ⟨true, 26, cfgL c⟩) (k11 : live F p11 = some ⟨true, 33, iL V⟩) :
    ∃ ρ' F', E Try.prog hints (.loop l4_0) ρ F = some (.exit 2, ρ', F') ∧ (S4 p10 p11 p12 i (e3 u o (g || (V.take i).any (g2 a))) ρ' ∧ F' = F) := by
  have hi : i < V.length := by
    rcases Nat.lt_or_ge i V.length with q | q
    · exact q
    · rw [List.getElem?_eq_none q] at ha; cases ha
  have i10 := live_lt k10
  have i11 := live_lt k11
  have vi := iL_get V i a ha
  have xi : idxAV 4 1 (.pointer (some ⟨p11, 0, none⟩)) (.int .i64 i) = some (.pointer (some ⟨p11, i, none⟩)) := by rw [idxA_s _ _ _ _ _ _ (by omega) (by omega)]; simp
  have har := hV a (List.mem_of_getElem? ha)
  refine loop_inv (fun j ρ F' => S4 p10 p11 p12 i (e3 u o (g || (V.take j).any (g2 a))) ρ ∧ ρ 15 = .int .i64 j ∧ F' = F) (fun ρ F' => S4 p10 p11 p12 i (e3 u o (g || (V.take i).any (g2 a))) ρ ∧ F' = F) i ?_ ?_ ρ F ⟨by simpa using hs, r15, rfl⟩
  · rintro j ρ F' hj ⟨⟨r9, r10, r11, r12, r13, r14⟩, r15, rfl⟩
    have hb : V[j]? = some V[j] := List.getElem?_eq_getElem (by omega)
    have vj := iL_get V j _ hb
    have xj : idxAV 4 1 (.pointer (some ⟨p11, 0, none⟩)) (.int .i64 j) = some (.pointer (some ⟨p11, j, none⟩)) := by rw [idxA_s _ _ _ _ _ _ (by omega) (by omega)]; simp
    have hbr := hV V[j] (List.getElem_mem (by omega))
    have hlt : (j : Int) < (i : Int) := by omega
    have w := wrap64 ((j : Int) + 1) (by omega) (by omega)
    have hgs := any_succ (g2 a) V j V[j] hb
    rw [hgs]
    generalize (V.take j).any (g2 a) = gj at r13 ⊢
    generalize V[j] = b at *
    have w1 := wrap64 (a - b) (by omega) (by omega)
    have w2 := wrap64 (b - a) (by omega) (by omega)
    by_cases h1 : 300 < a - b
    · have e4 := e3_4 u o (g || gj)
      have hgg : (g || (gj || g2 a b)) = true := by simp [g2, h1]
      rw [hgg]
      refine ⟨?ρ1, F', ?run1, ⟨?_, ?_, ?_, ?_, ?_, ?_⟩, ?_, rfl⟩
      case run1 =>
        simp (maxDischargeDepth := 8) only [l4_0, c4_16, c4_17, c4_18, c4_19, r9, r10, r11, r12, r13, r14, r15, hlt, xi, xj, vi, vj, i10, i11, k10, k11, cfg_13, w, w1, w2, h1, e4, okChain_all, RUN, Ed, knd, kndR, resV, binInt, mnmxV, mnmx2, fillL, unV, lenV, extractV, partV, loadAt, Nat.reduceAdd, Nat.reduceBEq, Nat.reduceEqDiff, Nat.reduceLT, Nat.reduceLeDiff, Nat.reduceMul, Nat.reduceSub, reduceIte, Int.reduceEq, Int.reduceNe, Int.reduceLT, Int.reduceLE, Int.reduceAdd, Int.reduceSub, Int.reduceMul, Int.reduceNeg, Int.reduceMod, Int.reduceDiv, Int.reduceTMod, Int.reduceTDiv, Int.reduceToNat]
        rfl
      all_goals first | (simp (maxDischargeDepth := 8) only [r9, r10, r11, r12, r13, r14, r15, RUN, Ed, knd, kndR, resV, binInt, mnmxV, mnmx2, fillL, unV, lenV, extractV, partV, loadAt, Nat.reduceAdd, Nat.reduceBEq, Nat.reduceEqDiff, Nat.reduceLT, Nat.reduceLeDiff, Nat.reduceMul, Nat.reduceSub, reduceIte, Int.reduceEq, Int.reduceNe, Int.reduceLT, Int.reduceLE, Int.reduceAdd, Int.reduceSub, Int.reduceMul, Int.reduceNeg, Int.reduceMod, Int.reduceDiv, Int.reduceTMod, Int.reduceTDiv, Int.reduceToNat, okChain_i, okLoads_nil, okLoads_in, okLoads_eq]; done) | (simp (maxDischargeDepth := 8) only [r9, r10, r11, r12, r13, r14, r15, RUN, Ed, knd, kndR, resV, binInt, mnmxV, mnmx2, fillL, unV, lenV, extractV, partV, loadAt, Nat.reduceAdd, Nat.reduceBEq, Nat.reduceEqDiff, Nat.reduceLT, Nat.reduceLeDiff, Nat.reduceMul, Nat.reduceSub, reduceIte, Int.reduceEq, Int.reduceNe, Int.reduceLT, Int.reduceLE, Int.reduceAdd, Int.reduceSub, Int.reduceMul, Int.reduceNeg, Int.reduceMod, Int.reduceDiv, Int.reduceTMod, Int.reduceTDiv, Int.reduceToNat, okChain_i, okLoads_nil, okLoads_in, okLoads_eq]; rfl)
    · by_cases h2 : 300 < b - a
      · have e4 := e3_4 u o (g || gj)
        have hgg : (g || (gj || g2 a b)) = true := by simp [g2, h2]
        rw [hgg]
        refine ⟨?ρ2, F', ?run2, ⟨?_, ?_, ?_, ?_, ?_, ?_⟩, ?_, rfl⟩
        case run2 =>
          simp (maxDischargeDepth := 8) only [l4_0, c4_16, c4_17, c4_18, c4_19, r9, r10, r11, r12, r13, r14, r15, hlt, xi, xj, vi, vj, i10, i11, k10, k11, cfg_13, w, w1, w2, h1, h2, e4, okChain_all, RUN, Ed, knd, kndR, resV, binInt, mnmxV, mnmx2, fillL, unV, lenV, extractV, partV, loadAt, Nat.reduceAdd, Nat.reduceBEq, Nat.reduceEqDiff, Nat.reduceLT, Nat.reduceLeDiff, Nat.reduceMul, Nat.reduceSub, reduceIte, Int.reduceEq, Int.reduceNe, Int.reduceLT, Int.reduceLE, Int.reduceAdd, Int.reduceSub, Int.reduceMul, Int.reduceNeg, Int.reduceMod, Int.reduceDiv, Int.reduceTMod, Int.reduceTDiv, Int.reduceToNat]
          rfl
        all_goals first | (simp (maxDischargeDepth := 8) only [r9, r10, r11, r12, r13, r14, r15, RUN, Ed, knd, kndR, resV, binInt, mnmxV, mnmx2, fillL, unV, lenV, extractV, partV, loadAt, Nat.reduceAdd, Nat.reduceBEq, Nat.reduceEqDiff, Nat.reduceLT, Nat.reduceLeDiff, Nat.reduceMul, Nat.reduceSub, reduceIte, Int.reduceEq, Int.reduceNe, Int.reduceLT, Int.reduceLE, Int.reduceAdd, Int.reduceSub, Int.reduceMul, Int.reduceNeg, Int.reduceMod, Int.reduceDiv, Int.reduceTMod, Int.reduceTDiv, Int.reduceToNat, okChain_i, okLoads_nil, okLoads_in, okLoads_eq]; done) | (simp (maxDischargeDepth := 8) only [r9, r10, r11, r12, r13, r14, r15, RUN, Ed, knd, kndR, resV, binInt, mnmxV, mnmx2, fillL, unV, lenV, extractV, partV, loadAt, Nat.reduceAdd, Nat.reduceBEq, Nat.reduceEqDiff, Nat.reduceLT, Nat.reduceLeDiff, Nat.reduceMul, Nat.reduceSub, reduceIte, Int.reduceEq, Int.reduceNe, Int.reduceLT, Int.reduceLE, Int.reduceAdd, Int.reduceSub, Int.reduceMul, Int.reduceNeg, Int.reduceMod, Int.reduceDiv, Int.reduceTMod, Int.reduceTDiv, Int.reduceToNat, okChain_i, okLoads_nil, okLoads_in, okLoads_eq]; rfl)
      · have hgg : (g || (gj || g2 a b)) = (g || gj) := by simp [g2, h1, h2]
        rw [hgg]
        refine ⟨?ρ3, F', ?run3, ⟨?_, ?_, ?_, ?_, ?_, ?_⟩, ?_, rfl⟩
        case run3 =>
          simp (maxDischargeDepth := 8) only [l4_0, c4_16, c4_17, c4_18, c4_19, r9, r10, r11, r12, r13, r14, r15, hlt, xi, xj, vi, vj, i10, i11, k10, k11, cfg_13, w, w1, w2, h1, h2, okChain_all, RUN, Ed, knd, kndR, resV, binInt, mnmxV, mnmx2, fillL, unV, lenV, extractV, partV, loadAt, Nat.reduceAdd, Nat.reduceBEq, Nat.reduceEqDiff, Nat.reduceLT, Nat.reduceLeDiff, Nat.reduceMul, Nat.reduceSub, reduceIte, Int.reduceEq, Int.reduceNe, Int.reduceLT, Int.reduceLE, Int.reduceAdd, Int.reduceSub, Int.reduceMul, Int.reduceNeg, Int.reduceMod, Int.reduceDiv, Int.reduceTMod, Int.reduceTDiv, Int.reduceToNat]
          rfl
        all_goals first | (simp (maxDischargeDepth := 8) only [r9, r10, r11, r12, r13, r14, r15, RUN, Ed, knd, kndR, resV, binInt, mnmxV, mnmx2, fillL, unV, lenV, extractV, partV, loadAt, Nat.reduceAdd, Nat.reduceBEq, Nat.reduceEqDiff, Nat.reduceLT, Nat.reduceLeDiff, Nat.reduceMul, Nat.reduceSub, reduceIte, Int.reduceEq, Int.reduceNe, Int.reduceLT, Int.reduceLE, Int.reduceAdd, Int.reduceSub, Int.reduceMul, Int.reduceNeg, Int.reduceMod, Int.reduceDiv, Int.reduceTMod, Int.reduceTDiv, Int.reduceToNat, okChain_i, okLoads_nil, okLoads_in, okLoads_eq]; done) | (simp (maxDischargeDepth := 8) only [r9, r10, r11, r12, r13, r14, r15, RUN, Ed, knd, kndR, resV, binInt, mnmxV, mnmx2, fillL, unV, lenV, extractV, partV, loadAt, Nat.reduceAdd, Nat.reduceBEq, Nat.reduceEqDiff, Nat.reduceLT, Nat.reduceLeDiff, Nat.reduceMul, Nat.reduceSub, reduceIte, Int.reduceEq, Int.reduceNe, Int.reduceLT, Int.reduceLE, Int.reduceAdd, Int.reduceSub, Int.reduceMul, Int.reduceNeg, Int.reduceMod, Int.reduceDiv, Int.reduceTMod, Int.reduceTDiv, Int.reduceToNat, okChain_i, okLoads_nil, okLoads_in, okLoads_eq]; rfl)
  · rintro ρ F' ⟨⟨r9, r10, r11, r12, r13, r14⟩, r15, rfl⟩
    have hlt : ¬ (i : Int) < (i : Int) := by omega
    refine ⟨?ρ4, F', ?run4, ⟨?_, ?_, ?_, ?_, ?_, ?_⟩, rfl⟩
    case run4 =>
      simp (maxDischargeDepth := 8) only [l4_0, c4_16, r14, r15, hlt, RUN, Ed, knd, kndR, resV, binInt, mnmxV, mnmx2, fillL, unV, lenV, extractV, partV, loadAt, Nat.reduceAdd, Nat.reduceBEq, Nat.reduceEqDiff, Nat.reduceLT, Nat.reduceLeDiff, Nat.reduceMul, Nat.reduceSub, reduceIte, Int.reduceEq, Int.reduceNe, Int.reduceLT, Int.reduceLE, Int.reduceAdd, Int.reduceSub, Int.reduceMul, Int.reduceNeg, Int.reduceMod, Int.reduceDiv, Int.reduceTMod, Int.reduceTDiv, Int.reduceToNat, okChain_i, okLoads_nil, okLoads_in, okLoads_eq]
      rfl
    all_goals simp (maxDischargeDepth := 8) only [r9, r10, r11, r12, r13, r14, RUN, Ed, knd, kndR, resV, binInt, mnmxV, mnmx2, fillL, unV, lenV, extractV, partV, loadAt, Nat.reduceAdd, Nat.reduceBEq, Nat.reduceEqDiff, Nat.reduceLT, Nat.reduceLeDiff, Nat.reduceMul, Nat.reduceSub, reduceIte, Int.reduceEq, Int.reduceNe, Int.reduceLT, Int.reduceLE, Int.reduceAdd, Int.reduceSub, Int.reduceMul, Int.reduceNeg, Int.reduceMod, Int.reduceDiv, Int.reduceTMod, Int.reduceTDiv, Int.reduceToNat, okChain_i, okLoads_nil, okLoads_in, okLoads_eq]
def i4 : RCode := .seq (.region c4_15) (.block 2 (.loop l4_0))
theorem l4t : l4_1 = .seq (.seq (.region c4_9) (.cond (.tmp 38) .skip (.exit 0))) (.seq (.block 1 (.seq (.region c4_10) (.seq (.seq (.draw c4_11) (.cond (.tmp 52) (.region c4_12) .skip)) (.seq (.seq (.draw c4_13) (.cond (.tmp 60) (.region c4_14) .skip)) i4)))) (.region c4_20)) := rfl
theorem rest4 (c : Cv) (V : List Int) (h4 : V.length = 4) (hV : ∀ b ∈ V, 0 ≤ b ∧ b ≤ 6000) (p10 p11 p12 i : Nat) (a : Int) (ha : V[i]? = some a) (u o g : Bool) (ρ : Fr) (F : Heap) (hs : S4 p10 p11 p12 i (e3 u o g) ρ) (k10 : live F p10 = some ⟨true, 26, cfgL c⟩) (k11 : live F p11 = some ⟨true, 33, iL V⟩) :
    ∃ ρ', andThen (blk 1 (E Try.prog hints i4 ρ F)) (E Try.prog hints (.region c4_20)) = some (.normal, ρ', F) ∧ S4 p10 p11 p12 (i + 1) (e3 u o (g || (V.take i).any (g2 a))) ρ' := by
  have hi : i < V.length := by
    rcases Nat.lt_or_ge i V.length with q | q
    · exact q
    · rw [List.getElem?_eq_none q] at ha; cases ha
  have w := wrap64 ((i : Int) + 1) (by omega) (by omega)
  obtain ⟨r9, r10, r11, r12, r13, r14⟩ := hs
  have key : ∀ ρ1, S4 p10 p11 p12 i (e3 u o g) ρ1 → ρ1 15 = .int .i64 0 → ∃ ρ', andThen (blk 1 (blk 2 (E Try.prog hints (.loop l4_0) ρ1 F))) (E Try.prog hints (.region c4_20)) = some (.normal, ρ', F) ∧ S4 p10 p11 p12 (i + 1) (e3 u o (g || (V.take i).any (g2 a))) ρ' := by
    intro ρ1 hs1 h15
    obtain ⟨ρ2, F2, e, ⟨s9, s10, s11, s12, s13, s14⟩, rfl⟩ := inner4 c V h4 hV p10 p11 p12 i a ha u o g ρ1 F hs1 h15 k10 k11
    rw [e]
    refine ⟨?ρ3, ?run3, ⟨?_, ?_, ?_, ?_, ?_, ?_⟩⟩
    case run3 =>
      simp (maxDischargeDepth := 8) only [c4_20, s14, w, RUN, Ed, knd, kndR, resV, binInt, mnmxV, mnmx2, fillL, unV, lenV, extractV, partV, loadAt, Nat.reduceAdd, Nat.reduceBEq, Nat.reduceEqDiff, Nat.reduceLT, Nat.reduceLeDiff, Nat.reduceMul, Nat.reduceSub, reduceIte, Int.reduceEq, Int.reduceNe, Int.reduceLT, Int.reduceLE, Int.reduceAdd, Int.reduceSub, Int.reduceMul, Int.reduceNeg, Int.reduceMod, Int.reduceDiv, Int.reduceTMod, Int.reduceTDiv, Int.reduceToNat, okChain_i, okLoads_nil, okLoads_in, okLoads_eq]
      rfl
    all_goals first | (simp (maxDischargeDepth := 8) only [s9, s10, s11, s12, s13, s14, RUN, Ed, knd, kndR, resV, binInt, mnmxV, mnmx2, fillL, unV, lenV, extractV, partV, loadAt, Nat.reduceAdd, Nat.reduceBEq, Nat.reduceEqDiff, Nat.reduceLT, Nat.reduceLeDiff, Nat.reduceMul, Nat.reduceSub, reduceIte, Int.reduceEq, Int.reduceNe, Int.reduceLT, Int.reduceLE, Int.reduceAdd, Int.reduceSub, Int.reduceMul, Int.reduceNeg, Int.reduceMod, Int.reduceDiv, Int.reduceTMod, Int.reduceTDiv, Int.reduceToNat, okChain_i, okLoads_nil, okLoads_in, okLoads_eq]; done) | (simp (maxDischargeDepth := 8) only [s9, s10, s11, s12, s13, s14, RUN, Ed, knd, kndR, resV, binInt, mnmxV, mnmx2, fillL, unV, lenV, extractV, partV, loadAt, Nat.reduceAdd, Nat.reduceBEq, Nat.reduceEqDiff, Nat.reduceLT, Nat.reduceLeDiff, Nat.reduceMul, Nat.reduceSub, reduceIte, Int.reduceEq, Int.reduceNe, Int.reduceLT, Int.reduceLE, Int.reduceAdd, Int.reduceSub, Int.reduceMul, Int.reduceNeg, Int.reduceMod, Int.reduceDiv, Int.reduceTMod, Int.reduceTDiv, Int.reduceToNat, okChain_i, okLoads_nil, okLoads_in, okLoads_eq]; rfl)
  simp (maxDischargeDepth := 8) only [i4, c4_15, RUN, Ed, knd, kndR, resV, binInt, mnmxV, mnmx2, fillL, unV, lenV, extractV, partV, loadAt, Nat.reduceAdd, Nat.reduceBEq, Nat.reduceEqDiff, Nat.reduceLT, Nat.reduceLeDiff, Nat.reduceMul, Nat.reduceSub, reduceIte, Int.reduceEq, Int.reduceNe, Int.reduceLT, Int.reduceLE, Int.reduceAdd, Int.reduceSub, Int.reduceMul, Int.reduceNeg, Int.reduceMod, Int.reduceDiv, Int.reduceTMod, Int.reduceTDiv, Int.reduceToNat, okChain_i, okLoads_nil, okLoads_in, okLoads_eq]
  refine key _ ⟨?_, ?_, ?_, ?_, ?_, ?_⟩ ?_
  all_goals simp (maxDischargeDepth := 8) only [r9, r10, r11, r12, r13, r14, RUN, Ed, knd, kndR, resV, binInt, mnmxV, mnmx2, fillL, unV, lenV, extractV, partV, loadAt, Nat.reduceAdd, Nat.reduceBEq, Nat.reduceEqDiff, Nat.reduceLT, Nat.reduceLeDiff, Nat.reduceMul, Nat.reduceSub, reduceIte, Int.reduceEq, Int.reduceNe, Int.reduceLT, Int.reduceLE, Int.reduceAdd, Int.reduceSub, Int.reduceMul, Int.reduceNeg, Int.reduceMod, Int.reduceDiv, Int.reduceTMod, Int.reduceTDiv, Int.reduceToNat, okChain_i, okLoads_nil, okLoads_in, okLoads_eq]
theorem round4_0 (c : Cv) (v0 v1 v2 v3 : Int) (hV : ∀ b ∈ [v0, v1, v2, v3], 0 ≤ b ∧ b ≤ 6000) (p10 p11 p12 : Nat) (hp : p10 ≠ p12 ∧ p11 ≠ p12) (u o g : Bool) (ρ : Fr) (F : Heap) (hs : S4 p10 p11 p12 0 (e3 u o g) ρ) (k10 : live F p10 = some ⟨true, 26, cfgL c⟩) (k11 : live F p11 = some ⟨true, 33, iL [v0, v1, v2, v3]⟩) (k12 : live F p12 = some ⟨true, 30, cells8 0 0 0 0 false false false false⟩) :
    ∃ ρ', E Try.prog hints l4_1 ρ F = some (.normal, ρ', F.set p12 (some ⟨true, 30, cells8 v0 0 0 0 true false false false⟩)) ∧ S4 p10 p11 p12 1 (e3 (u || decide (v0 < 3000)) (o || decide (4200 < v0)) (g || ([v0, v1, v2, v3].take 0).any (g2 v0))) ρ' := by
  obtain ⟨r9, r10, r11, r12, r13, r14⟩ := hs
  have i10 := live_lt k10
  have i11 := live_lt k11
  have i12 := live_lt k12
  have r14' : ρ 14 = .int .i64 0 := r14
  have y : idxAV 4 2 (.pointer (some ⟨p12, 0, none⟩)) (.int .i64 0) = some (.pointer (some ⟨p12, 0, none⟩)) := rfl
  have x : idxAV 4 1 (.pointer (some ⟨p11, 0, none⟩)) (.int .i64 0) = some (.pointer (some ⟨p11, 0, none⟩)) := rfl
  have vi : (iL [v0, v1, v2, v3])[0]? = some (.int .i64 v0) := rfl
  simp only [cells8] at k12
  obtain ⟨F1, hF1⟩ : ∃ F1, F1 = F.set p12 (some ⟨true, 30, cells8 v0 0 0 0 true false false false⟩) := ⟨_, rfl⟩
  have k10' : live F1 p10 = some ⟨true, 26, cfgL c⟩ := by rw [hF1, live_set_ne _ _ _ _ (Ne.symm hp.1)]; exact k10
  have k11' : live F1 p11 = some ⟨true, 33, iL [v0, v1, v2, v3]⟩ := by rw [hF1, live_set_ne _ _ _ _ (Ne.symm hp.2)]; exact k11
  have i10' := live_lt k10'
  have i11' := live_lt k11'
  have hF2 := hF1
  simp only [cells8] at hF2
  rw [← hF1, l4t]
  obtain ⟨U, hU⟩ : ∃ U, U = (u || decide (v0 < 3000)) := ⟨_, rfl⟩
  obtain ⟨O, hO⟩ : ∃ O, O = (o || decide (4200 < v0)) := ⟨_, rfl⟩
  rw [← hU, ← hO]
  have key := fun ρ1 hs => rest4 c [v0, v1, v2, v3] rfl hV p10 p11 p12 0 v0 rfl U O g ρ1 F1 hs k10' k11'
  by_cases h1 : v0 < 3000
  · by_cases h2 : 4200 < v0
    · have q0 := e3_1 u o g
      have q1 := e3_2 true o g
      simp (maxDischargeDepth := 8) only [c4_9, c4_10, c4_11, c4_12, c4_13, c4_14, r9, r10, r11, r12, r13, r14', x, y, vi, i10, i11, i12, k10, k11, k12, k10', k11', i10', i11', ← hF2, cfg_11, cfg_12, h1, h2, q0, q1, okChain_all, RUN, Ed, knd, kndR, resV, binInt, mnmxV, mnmx2, fillL, unV, lenV, extractV, partV, loadAt, Nat.reduceAdd, Nat.reduceBEq, Nat.reduceEqDiff, Nat.reduceLT, Nat.reduceLeDiff, Nat.reduceMul, Nat.reduceSub, reduceIte, Int.reduceEq, Int.reduceNe, Int.reduceLT, Int.reduceLE, Int.reduceAdd, Int.reduceSub, Int.reduceMul, Int.reduceNeg, Int.reduceMod, Int.reduceDiv, Int.reduceTMod, Int.reduceTDiv, Int.reduceToNat]
      refine key _ ⟨?_, ?_, ?_, ?_, ?_, ?_⟩
      all_goals first | (simp (maxDischargeDepth := 8) only [r9, r10, r11, r12, r13, r14, RUN, Ed, knd, kndR, resV, binInt, mnmxV, mnmx2, fillL, unV, lenV, extractV, partV, loadAt, Nat.reduceAdd, Nat.reduceBEq, Nat.reduceEqDiff, Nat.reduceLT, Nat.reduceLeDiff, Nat.reduceMul, Nat.reduceSub, reduceIte, Int.reduceEq, Int.reduceNe, Int.reduceLT, Int.reduceLE, Int.reduceAdd, Int.reduceSub, Int.reduceMul, Int.reduceNeg, Int.reduceMod, Int.reduceDiv, Int.reduceTMod, Int.reduceTDiv, Int.reduceToNat, okChain_i, okLoads_nil, okLoads_in, okLoads_eq]; done) | (simp (maxDischargeDepth := 8) only [r13, RUN, Ed, knd, kndR, resV, binInt, mnmxV, mnmx2, fillL, unV, lenV, extractV, partV, loadAt, Nat.reduceAdd, Nat.reduceBEq, Nat.reduceEqDiff, Nat.reduceLT, Nat.reduceLeDiff, Nat.reduceMul, Nat.reduceSub, reduceIte, Int.reduceEq, Int.reduceNe, Int.reduceLT, Int.reduceLE, Int.reduceAdd, Int.reduceSub, Int.reduceMul, Int.reduceNeg, Int.reduceMod, Int.reduceDiv, Int.reduceTMod, Int.reduceTDiv, Int.reduceToNat, okChain_i, okLoads_nil, okLoads_in, okLoads_eq]; rw [hU, hO]; simp [h1, h2]; done)
    · have q0 := e3_1 u o g
      simp (maxDischargeDepth := 8) only [c4_9, c4_10, c4_11, c4_12, c4_13, c4_14, r9, r10, r11, r12, r13, r14', x, y, vi, i10, i11, i12, k10, k11, k12, k10', k11', i10', i11', ← hF2, cfg_11, cfg_12, h1, h2, q0, okChain_all, RUN, Ed, knd, kndR, resV, binInt, mnmxV, mnmx2, fillL, unV, lenV, extractV, partV, loadAt, Nat.reduceAdd, Nat.reduceBEq, Nat.reduceEqDiff, Nat.reduceLT, Nat.reduceLeDiff, Nat.reduceMul, Nat.reduceSub, reduceIte, Int.reduceEq, Int.reduceNe, Int.reduceLT, Int.reduceLE, Int.reduceAdd, Int.reduceSub, Int.reduceMul, Int.reduceNeg, Int.reduceMod, Int.reduceDiv, Int.reduceTMod, Int.reduceTDiv, Int.reduceToNat]
      refine key _ ⟨?_, ?_, ?_, ?_, ?_, ?_⟩
      all_goals first | (simp (maxDischargeDepth := 8) only [r9, r10, r11, r12, r13, r14, RUN, Ed, knd, kndR, resV, binInt, mnmxV, mnmx2, fillL, unV, lenV, extractV, partV, loadAt, Nat.reduceAdd, Nat.reduceBEq, Nat.reduceEqDiff, Nat.reduceLT, Nat.reduceLeDiff, Nat.reduceMul, Nat.reduceSub, reduceIte, Int.reduceEq, Int.reduceNe, Int.reduceLT, Int.reduceLE, Int.reduceAdd, Int.reduceSub, Int.reduceMul, Int.reduceNeg, Int.reduceMod, Int.reduceDiv, Int.reduceTMod, Int.reduceTDiv, Int.reduceToNat, okChain_i, okLoads_nil, okLoads_in, okLoads_eq]; done) | (simp (maxDischargeDepth := 8) only [r13, RUN, Ed, knd, kndR, resV, binInt, mnmxV, mnmx2, fillL, unV, lenV, extractV, partV, loadAt, Nat.reduceAdd, Nat.reduceBEq, Nat.reduceEqDiff, Nat.reduceLT, Nat.reduceLeDiff, Nat.reduceMul, Nat.reduceSub, reduceIte, Int.reduceEq, Int.reduceNe, Int.reduceLT, Int.reduceLE, Int.reduceAdd, Int.reduceSub, Int.reduceMul, Int.reduceNeg, Int.reduceMod, Int.reduceDiv, Int.reduceTMod, Int.reduceTDiv, Int.reduceToNat, okChain_i, okLoads_nil, okLoads_in, okLoads_eq]; rw [hU, hO]; simp [h1, h2]; done)
  · by_cases h2 : 4200 < v0
    · have q0 := e3_2 u o g
      simp (maxDischargeDepth := 8) only [c4_9, c4_10, c4_11, c4_12, c4_13, c4_14, r9, r10, r11, r12, r13, r14', x, y, vi, i10, i11, i12, k10, k11, k12, k10', k11', i10', i11', ← hF2, cfg_11, cfg_12, h1, h2, q0, okChain_all, RUN, Ed, knd, kndR, resV, binInt, mnmxV, mnmx2, fillL, unV, lenV, extractV, partV, loadAt, Nat.reduceAdd, Nat.reduceBEq, Nat.reduceEqDiff, Nat.reduceLT, Nat.reduceLeDiff, Nat.reduceMul, Nat.reduceSub, reduceIte, Int.reduceEq, Int.reduceNe, Int.reduceLT, Int.reduceLE, Int.reduceAdd, Int.reduceSub, Int.reduceMul, Int.reduceNeg, Int.reduceMod, Int.reduceDiv, Int.reduceTMod, Int.reduceTDiv, Int.reduceToNat]
      refine key _ ⟨?_, ?_, ?_, ?_, ?_, ?_⟩
      all_goals first | (simp (maxDischargeDepth := 8) only [r9, r10, r11, r12, r13, r14, RUN, Ed, knd, kndR, resV, binInt, mnmxV, mnmx2, fillL, unV, lenV, extractV, partV, loadAt, Nat.reduceAdd, Nat.reduceBEq, Nat.reduceEqDiff, Nat.reduceLT, Nat.reduceLeDiff, Nat.reduceMul, Nat.reduceSub, reduceIte, Int.reduceEq, Int.reduceNe, Int.reduceLT, Int.reduceLE, Int.reduceAdd, Int.reduceSub, Int.reduceMul, Int.reduceNeg, Int.reduceMod, Int.reduceDiv, Int.reduceTMod, Int.reduceTDiv, Int.reduceToNat, okChain_i, okLoads_nil, okLoads_in, okLoads_eq]; done) | (simp (maxDischargeDepth := 8) only [r13, RUN, Ed, knd, kndR, resV, binInt, mnmxV, mnmx2, fillL, unV, lenV, extractV, partV, loadAt, Nat.reduceAdd, Nat.reduceBEq, Nat.reduceEqDiff, Nat.reduceLT, Nat.reduceLeDiff, Nat.reduceMul, Nat.reduceSub, reduceIte, Int.reduceEq, Int.reduceNe, Int.reduceLT, Int.reduceLE, Int.reduceAdd, Int.reduceSub, Int.reduceMul, Int.reduceNeg, Int.reduceMod, Int.reduceDiv, Int.reduceTMod, Int.reduceTDiv, Int.reduceToNat, okChain_i, okLoads_nil, okLoads_in, okLoads_eq]; rw [hU, hO]; simp [h1, h2]; done)
    · simp (maxDischargeDepth := 8) only [c4_9, c4_10, c4_11, c4_12, c4_13, c4_14, r9, r10, r11, r12, r13, r14', x, y, vi, i10, i11, i12, k10, k11, k12, k10', k11', i10', i11', ← hF2, cfg_11, cfg_12, h1, h2, okChain_all, RUN, Ed, knd, kndR, resV, binInt, mnmxV, mnmx2, fillL, unV, lenV, extractV, partV, loadAt, Nat.reduceAdd, Nat.reduceBEq, Nat.reduceEqDiff, Nat.reduceLT, Nat.reduceLeDiff, Nat.reduceMul, Nat.reduceSub, reduceIte, Int.reduceEq, Int.reduceNe, Int.reduceLT, Int.reduceLE, Int.reduceAdd, Int.reduceSub, Int.reduceMul, Int.reduceNeg, Int.reduceMod, Int.reduceDiv, Int.reduceTMod, Int.reduceTDiv, Int.reduceToNat]
      refine key _ ⟨?_, ?_, ?_, ?_, ?_, ?_⟩
      all_goals first | (simp (maxDischargeDepth := 8) only [r9, r10, r11, r12, r13, r14, RUN, Ed, knd, kndR, resV, binInt, mnmxV, mnmx2, fillL, unV, lenV, extractV, partV, loadAt, Nat.reduceAdd, Nat.reduceBEq, Nat.reduceEqDiff, Nat.reduceLT, Nat.reduceLeDiff, Nat.reduceMul, Nat.reduceSub, reduceIte, Int.reduceEq, Int.reduceNe, Int.reduceLT, Int.reduceLE, Int.reduceAdd, Int.reduceSub, Int.reduceMul, Int.reduceNeg, Int.reduceMod, Int.reduceDiv, Int.reduceTMod, Int.reduceTDiv, Int.reduceToNat, okChain_i, okLoads_nil, okLoads_in, okLoads_eq]; done) | (simp (maxDischargeDepth := 8) only [r13, RUN, Ed, knd, kndR, resV, binInt, mnmxV, mnmx2, fillL, unV, lenV, extractV, partV, loadAt, Nat.reduceAdd, Nat.reduceBEq, Nat.reduceEqDiff, Nat.reduceLT, Nat.reduceLeDiff, Nat.reduceMul, Nat.reduceSub, reduceIte, Int.reduceEq, Int.reduceNe, Int.reduceLT, Int.reduceLE, Int.reduceAdd, Int.reduceSub, Int.reduceMul, Int.reduceNeg, Int.reduceMod, Int.reduceDiv, Int.reduceTMod, Int.reduceTDiv, Int.reduceToNat, okChain_i, okLoads_nil, okLoads_in, okLoads_eq]; rw [hU, hO]; simp [h1, h2]; done)
theorem round4_1 (c : Cv) (v0 v1 v2 v3 : Int) (hV : ∀ b ∈ [v0, v1, v2, v3], 0 ≤ b ∧ b ≤ 6000) (p10 p11 p12 : Nat) (hp : p10 ≠ p12 ∧ p11 ≠ p12) (u o g : Bool) (ρ : Fr) (F : Heap) (hs : S4 p10 p11 p12 1 (e3 u o g) ρ) (k10 : live F p10 = some ⟨true, 26, cfgL c⟩) (k11 : live F p11 = some ⟨true, 33, iL [v0, v1, v2, v3]⟩) (k12 : live F p12 = some ⟨true, 30, cells8 v0 0 0 0 true false false false⟩) :
    ∃ ρ', E Try.prog hints l4_1 ρ F = some (.normal, ρ', F.set p12 (some ⟨true, 30, cells8 v0 v1 0 0 true true false false⟩)) ∧ S4 p10 p11 p12 2 (e3 (u || decide (v1 < 3000)) (o || decide (4200 < v1)) (g || ([v0, v1, v2, v3].take 1).any (g2 v1))) ρ' := by
  obtain ⟨r9, r10, r11, r12, r13, r14⟩ := hs
  have i10 := live_lt k10
  have i11 := live_lt k11
  have i12 := live_lt k12
  have r14' : ρ 14 = .int .i64 1 := r14
  have y : idxAV 4 2 (.pointer (some ⟨p12, 0, none⟩)) (.int .i64 1) = some (.pointer (some ⟨p12, 2, none⟩)) := rfl
  have x : idxAV 4 1 (.pointer (some ⟨p11, 0, none⟩)) (.int .i64 1) = some (.pointer (some ⟨p11, 1, none⟩)) := rfl
  have vi : (iL [v0, v1, v2, v3])[1]? = some (.int .i64 v1) := rfl
  simp only [cells8] at k12
  obtain ⟨F1, hF1⟩ : ∃ F1, F1 = F.set p12 (some ⟨true, 30, cells8 v0 v1 0 0 true true false false⟩) := ⟨_, rfl⟩
  have k10' : live F1 p10 = some ⟨true, 26, cfgL c⟩ := by rw [hF1, live_set_ne _ _ _ _ (Ne.symm hp.1)]; exact k10
  have k11' : live F1 p11 = some ⟨true, 33, iL [v0, v1, v2, v3]⟩ := by rw [hF1, live_set_ne _ _ _ _ (Ne.symm hp.2)]; exact k11
  have i10' := live_lt k10'
  have i11' := live_lt k11'
  have hF2 := hF1
  simp only [cells8] at hF2
  rw [← hF1, l4t]
  obtain ⟨U, hU⟩ : ∃ U, U = (u || decide (v1 < 3000)) := ⟨_, rfl⟩
  obtain ⟨O, hO⟩ : ∃ O, O = (o || decide (4200 < v1)) := ⟨_, rfl⟩
  rw [← hU, ← hO]
  have key := fun ρ1 hs => rest4 c [v0, v1, v2, v3] rfl hV p10 p11 p12 1 v1 rfl U O g ρ1 F1 hs k10' k11'
  by_cases h1 : v1 < 3000
  · by_cases h2 : 4200 < v1
    · have q0 := e3_1 u o g
      have q1 := e3_2 true o g
      simp (maxDischargeDepth := 8) only [c4_9, c4_10, c4_11, c4_12, c4_13, c4_14, r9, r10, r11, r12, r13, r14', x, y, vi, i10, i11, i12, k10, k11, k12, k10', k11', i10', i11', ← hF2, cfg_11, cfg_12, h1, h2, q0, q1, okChain_all, RUN, Ed, knd, kndR, resV, binInt, mnmxV, mnmx2, fillL, unV, lenV, extractV, partV, loadAt, Nat.reduceAdd, Nat.reduceBEq, Nat.reduceEqDiff, Nat.reduceLT, Nat.reduceLeDiff, Nat.reduceMul, Nat.reduceSub, reduceIte, Int.reduceEq, Int.reduceNe, Int.reduceLT, Int.reduceLE, Int.reduceAdd, Int.reduceSub, Int.reduceMul, Int.reduceNeg, Int.reduceMod, Int.reduceDiv, Int.reduceTMod, Int.reduceTDiv, Int.reduceToNat]
      refine key _ ⟨?_, ?_, ?_, ?_, ?_, ?_⟩
      all_goals first | (simp (maxDischargeDepth := 8) only [r9, r10, r11, r12, r13, r14, RUN, Ed, knd, kndR, resV, binInt, mnmxV, mnmx2, fillL, unV, lenV, extractV, partV, loadAt, Nat.reduceAdd, Nat.reduceBEq, Nat.reduceEqDiff, Nat.reduceLT, Nat.reduceLeDiff, Nat.reduceMul, Nat.reduceSub, reduceIte, Int.reduceEq, Int.reduceNe, Int.reduceLT, Int.reduceLE, Int.reduceAdd, Int.reduceSub, Int.reduceMul, Int.reduceNeg, Int.reduceMod, Int.reduceDiv, Int.reduceTMod, Int.reduceTDiv, Int.reduceToNat, okChain_i, okLoads_nil, okLoads_in, okLoads_eq]; done) | (simp (maxDischargeDepth := 8) only [r13, RUN, Ed, knd, kndR, resV, binInt, mnmxV, mnmx2, fillL, unV, lenV, extractV, partV, loadAt, Nat.reduceAdd, Nat.reduceBEq, Nat.reduceEqDiff, Nat.reduceLT, Nat.reduceLeDiff, Nat.reduceMul, Nat.reduceSub, reduceIte, Int.reduceEq, Int.reduceNe, Int.reduceLT, Int.reduceLE, Int.reduceAdd, Int.reduceSub, Int.reduceMul, Int.reduceNeg, Int.reduceMod, Int.reduceDiv, Int.reduceTMod, Int.reduceTDiv, Int.reduceToNat, okChain_i, okLoads_nil, okLoads_in, okLoads_eq]; rw [hU, hO]; simp [h1, h2]; done)
    · have q0 := e3_1 u o g
      simp (maxDischargeDepth := 8) only [c4_9, c4_10, c4_11, c4_12, c4_13, c4_14, r9, r10, r11, r12, r13, r14', x, y, vi, i10, i11, i12, k10, k11, k12, k10', k11', i10', i11', ← hF2, cfg_11, cfg_12, h1, h2, q0, okChain_all, RUN, Ed, knd, kndR, resV, binInt, mnmxV, mnmx2, fillL, unV, lenV, extractV, partV, loadAt, Nat.reduceAdd, Nat.reduceBEq, Nat.reduceEqDiff, Nat.reduceLT, Nat.reduceLeDiff, Nat.reduceMul, Nat.reduceSub, reduceIte, Int.reduceEq, Int.reduceNe, Int.reduceLT, Int.reduceLE, Int.reduceAdd, Int.reduceSub, Int.reduceMul, Int.reduceNeg, Int.reduceMod, Int.reduceDiv, Int.reduceTMod, Int.reduceTDiv, Int.reduceToNat]
      refine key _ ⟨?_, ?_, ?_, ?_, ?_, ?_⟩
      all_goals first | (simp (maxDischargeDepth := 8) only [r9, r10, r11, r12, r13, r14, RUN, Ed, knd, kndR, resV, binInt, mnmxV, mnmx2, fillL, unV, lenV, extractV, partV, loadAt, Nat.reduceAdd, Nat.reduceBEq, Nat.reduceEqDiff, Nat.reduceLT, Nat.reduceLeDiff, Nat.reduceMul, Nat.reduceSub, reduceIte, Int.reduceEq, Int.reduceNe, Int.reduceLT, Int.reduceLE, Int.reduceAdd, Int.reduceSub, Int.reduceMul, Int.reduceNeg, Int.reduceMod, Int.reduceDiv, Int.reduceTMod, Int.reduceTDiv, Int.reduceToNat, okChain_i, okLoads_nil, okLoads_in, okLoads_eq]; done) | (simp (maxDischargeDepth := 8) only [r13, RUN, Ed, knd, kndR, resV, binInt, mnmxV, mnmx2, fillL, unV, lenV, extractV, partV, loadAt, Nat.reduceAdd, Nat.reduceBEq, Nat.reduceEqDiff, Nat.reduceLT, Nat.reduceLeDiff, Nat.reduceMul, Nat.reduceSub, reduceIte, Int.reduceEq, Int.reduceNe, Int.reduceLT, Int.reduceLE, Int.reduceAdd, Int.reduceSub, Int.reduceMul, Int.reduceNeg, Int.reduceMod, Int.reduceDiv, Int.reduceTMod, Int.reduceTDiv, Int.reduceToNat, okChain_i, okLoads_nil, okLoads_in, okLoads_eq]; rw [hU, hO]; simp [h1, h2]; done)
  · by_cases h2 : 4200 < v1
    · have q0 := e3_2 u o g
      simp (maxDischargeDepth := 8) only [c4_9, c4_10, c4_11, c4_12, c4_13, c4_14, r9, r10, r11, r12, r13, r14', x, y, vi, i10, i11, i12, k10, k11, k12, k10', k11', i10', i11', ← hF2, cfg_11, cfg_12, h1, h2, q0, okChain_all, RUN, Ed, knd, kndR, resV, binInt, mnmxV, mnmx2, fillL, unV, lenV, extractV, partV, loadAt, Nat.reduceAdd, Nat.reduceBEq, Nat.reduceEqDiff, Nat.reduceLT, Nat.reduceLeDiff, Nat.reduceMul, Nat.reduceSub, reduceIte, Int.reduceEq, Int.reduceNe, Int.reduceLT, Int.reduceLE, Int.reduceAdd, Int.reduceSub, Int.reduceMul, Int.reduceNeg, Int.reduceMod, Int.reduceDiv, Int.reduceTMod, Int.reduceTDiv, Int.reduceToNat]
      refine key _ ⟨?_, ?_, ?_, ?_, ?_, ?_⟩
      all_goals first | (simp (maxDischargeDepth := 8) only [r9, r10, r11, r12, r13, r14, RUN, Ed, knd, kndR, resV, binInt, mnmxV, mnmx2, fillL, unV, lenV, extractV, partV, loadAt, Nat.reduceAdd, Nat.reduceBEq, Nat.reduceEqDiff, Nat.reduceLT, Nat.reduceLeDiff, Nat.reduceMul, Nat.reduceSub, reduceIte, Int.reduceEq, Int.reduceNe, Int.reduceLT, Int.reduceLE, Int.reduceAdd, Int.reduceSub, Int.reduceMul, Int.reduceNeg, Int.reduceMod, Int.reduceDiv, Int.reduceTMod, Int.reduceTDiv, Int.reduceToNat, okChain_i, okLoads_nil, okLoads_in, okLoads_eq]; done) | (simp (maxDischargeDepth := 8) only [r13, RUN, Ed, knd, kndR, resV, binInt, mnmxV, mnmx2, fillL, unV, lenV, extractV, partV, loadAt, Nat.reduceAdd, Nat.reduceBEq, Nat.reduceEqDiff, Nat.reduceLT, Nat.reduceLeDiff, Nat.reduceMul, Nat.reduceSub, reduceIte, Int.reduceEq, Int.reduceNe, Int.reduceLT, Int.reduceLE, Int.reduceAdd, Int.reduceSub, Int.reduceMul, Int.reduceNeg, Int.reduceMod, Int.reduceDiv, Int.reduceTMod, Int.reduceTDiv, Int.reduceToNat, okChain_i, okLoads_nil, okLoads_in, okLoads_eq]; rw [hU, hO]; simp [h1, h2]; done)
    · simp (maxDischargeDepth := 8) only [c4_9, c4_10, c4_11, c4_12, c4_13, c4_14, r9, r10, r11, r12, r13, r14', x, y, vi, i10, i11, i12, k10, k11, k12, k10', k11', i10', i11', ← hF2, cfg_11, cfg_12, h1, h2, okChain_all, RUN, Ed, knd, kndR, resV, binInt, mnmxV, mnmx2, fillL, unV, lenV, extractV, partV, loadAt, Nat.reduceAdd, Nat.reduceBEq, Nat.reduceEqDiff, Nat.reduceLT, Nat.reduceLeDiff, Nat.reduceMul, Nat.reduceSub, reduceIte, Int.reduceEq, Int.reduceNe, Int.reduceLT, Int.reduceLE, Int.reduceAdd, Int.reduceSub, Int.reduceMul, Int.reduceNeg, Int.reduceMod, Int.reduceDiv, Int.reduceTMod, Int.reduceTDiv, Int.reduceToNat]
      refine key _ ⟨?_, ?_, ?_, ?_, ?_, ?_⟩
      all_goals first | (simp (maxDischargeDepth := 8) only [r9, r10, r11, r12, r13, r14, RUN, Ed, knd, kndR, resV, binInt, mnmxV, mnmx2, fillL, unV, lenV, extractV, partV, loadAt, Nat.reduceAdd, Nat.reduceBEq, Nat.reduceEqDiff, Nat.reduceLT, Nat.reduceLeDiff, Nat.reduceMul, Nat.reduceSub, reduceIte, Int.reduceEq, Int.reduceNe, Int.reduceLT, Int.reduceLE, Int.reduceAdd, Int.reduceSub, Int.reduceMul, Int.reduceNeg, Int.reduceMod, Int.reduceDiv, Int.reduceTMod, Int.reduceTDiv, Int.reduceToNat, okChain_i, okLoads_nil, okLoads_in, okLoads_eq]; done) | (simp (maxDischargeDepth := 8) only [r13, RUN, Ed, knd, kndR, resV, binInt, mnmxV, mnmx2, fillL, unV, lenV, extractV, partV, loadAt, Nat.reduceAdd, Nat.reduceBEq, Nat.reduceEqDiff, Nat.reduceLT, Nat.reduceLeDiff, Nat.reduceMul, Nat.reduceSub, reduceIte, Int.reduceEq, Int.reduceNe, Int.reduceLT, Int.reduceLE, Int.reduceAdd, Int.reduceSub, Int.reduceMul, Int.reduceNeg, Int.reduceMod, Int.reduceDiv, Int.reduceTMod, Int.reduceTDiv, Int.reduceToNat, okChain_i, okLoads_nil, okLoads_in, okLoads_eq]; rw [hU, hO]; simp [h1, h2]; done)
theorem round4_2 (c : Cv) (v0 v1 v2 v3 : Int) (hV : ∀ b ∈ [v0, v1, v2, v3], 0 ≤ b ∧ b ≤ 6000) (p10 p11 p12 : Nat) (hp : p10 ≠ p12 ∧ p11 ≠ p12) (u o g : Bool) (ρ : Fr) (F : Heap) (hs : S4 p10 p11 p12 2 (e3 u o g) ρ) (k10 : live F p10 = some ⟨true, 26, cfgL c⟩) (k11 : live F p11 = some ⟨true, 33, iL [v0, v1, v2, v3]⟩) (k12 : live F p12 = some ⟨true, 30, cells8 v0 v1 0 0 true true false false⟩) :
    ∃ ρ', E Try.prog hints l4_1 ρ F = some (.normal, ρ', F.set p12 (some ⟨true, 30, cells8 v0 v1 v2 0 true true true false⟩)) ∧ S4 p10 p11 p12 3 (e3 (u || decide (v2 < 3000)) (o || decide (4200 < v2)) (g || ([v0, v1, v2, v3].take 2).any (g2 v2))) ρ' := by
  obtain ⟨r9, r10, r11, r12, r13, r14⟩ := hs
  have i10 := live_lt k10
  have i11 := live_lt k11
  have i12 := live_lt k12
  have r14' : ρ 14 = .int .i64 2 := r14
  have y : idxAV 4 2 (.pointer (some ⟨p12, 0, none⟩)) (.int .i64 2) = some (.pointer (some ⟨p12, 4, none⟩)) := rfl
  have x : idxAV 4 1 (.pointer (some ⟨p11, 0, none⟩)) (.int .i64 2) = some (.pointer (some ⟨p11, 2, none⟩)) := rfl
  have vi : (iL [v0, v1, v2, v3])[2]? = some (.int .i64 v2) := rfl
  simp only [cells8] at k12
  obtain ⟨F1, hF1⟩ : ∃ F1, F1 = F.set p12 (some ⟨true, 30, cells8 v0 v1 v2 0 true true true false⟩) := ⟨_, rfl⟩
  have k10' : live F1 p10 = some ⟨true, 26, cfgL c⟩ := by rw [hF1, live_set_ne _ _ _ _ (Ne.symm hp.1)]; exact k10
  have k11' : live F1 p11 = some ⟨true, 33, iL [v0, v1, v2, v3]⟩ := by rw [hF1, live_set_ne _ _ _ _ (Ne.symm hp.2)]; exact k11
  have i10' := live_lt k10'
  have i11' := live_lt k11'
  have hF2 := hF1
  simp only [cells8] at hF2
  rw [← hF1, l4t]
  obtain ⟨U, hU⟩ : ∃ U, U = (u || decide (v2 < 3000)) := ⟨_, rfl⟩
  obtain ⟨O, hO⟩ : ∃ O, O = (o || decide (4200 < v2)) := ⟨_, rfl⟩
  rw [← hU, ← hO]
  have key := fun ρ1 hs => rest4 c [v0, v1, v2, v3] rfl hV p10 p11 p12 2 v2 rfl U O g ρ1 F1 hs k10' k11'
  by_cases h1 : v2 < 3000
  · by_cases h2 : 4200 < v2
    · have q0 := e3_1 u o g
      have q1 := e3_2 true o g
      simp (maxDischargeDepth := 8) only [c4_9, c4_10, c4_11, c4_12, c4_13, c4_14, r9, r10, r11, r12, r13, r14', x, y, vi, i10, i11, i12, k10, k11, k12, k10', k11', i10', i11', ← hF2, cfg_11, cfg_12, h1, h2, q0, q1, okChain_all, RUN, Ed, knd, kndR, resV, binInt, mnmxV, mnmx2, fillL, unV, lenV, extractV, partV, loadAt, Nat.reduceAdd, Nat.reduceBEq, Nat.reduceEqDiff, Nat.reduceLT, Nat.reduceLeDiff, Nat.reduceMul, Nat.reduceSub, reduceIte, Int.reduceEq, Int.reduceNe, Int.reduceLT, Int.reduceLE, Int.reduceAdd, Int.reduceSub, Int.reduceMul, Int.reduceNeg, Int.reduceMod, Int.reduceDiv, Int.reduceTMod, Int.reduceTDiv, Int.reduceToNat]
      refine key _ ⟨?_, ?_, ?_, ?_, ?_, ?_⟩
      all_goals first | (simp (maxDischargeDepth := 8) only [r9, r10, r11, r12, r13, r14, RUN, Ed, knd, kndR, resV, binInt, mnmxV, mnmx2, fillL, unV, lenV, extractV, partV, loadAt, Nat.reduceAdd, Nat.reduceBEq, Nat.reduceEqDiff, Nat.reduceLT, Nat.reduceLeDiff, Nat.reduceMul, Nat.reduceSub, reduceIte, Int.reduceEq, Int.reduceNe, Int.reduceLT, Int.reduceLE, Int.reduceAdd, Int.reduceSub, Int.reduceMul, Int.reduceNeg, Int.reduceMod, Int.reduceDiv, Int.reduceTMod, Int.reduceTDiv, Int.reduceToNat, okChain_i, okLoads_nil, okLoads_in, okLoads_eq]; done) | (simp (maxDischargeDepth := 8) only [r13, RUN, Ed, knd, kndR, resV, binInt, mnmxV, mnmx2, fillL, unV, lenV, extractV, partV, loadAt, Nat.reduceAdd, Nat.reduceBEq, Nat.reduceEqDiff, Nat.reduceLT, Nat.reduceLeDiff, Nat.reduceMul, Nat.reduceSub, reduceIte, Int.reduceEq, Int.reduceNe, Int.reduceLT, Int.reduceLE, Int.reduceAdd, Int.reduceSub, Int.reduceMul, Int.reduceNeg, Int.reduceMod, Int.reduceDiv, Int.reduceTMod, Int.reduceTDiv, Int.reduceToNat, okChain_i, okLoads_nil, okLoads_in, okLoads_eq]; rw [hU, hO]; simp [h1, h2]; done)
    · have q0 := e3_1 u o g
      simp (maxDischargeDepth := 8) only [c4_9, c4_10, c4_11, c4_12, c4_13, c4_14, r9, r10, r11, r12, r13, r14', x, y, vi, i10, i11, i12, k10, k11, k12, k10', k11', i10', i11', ← hF2, cfg_11, cfg_12, h1, h2, q0, okChain_all, RUN, Ed, knd, kndR, resV, binInt, mnmxV, mnmx2, fillL, unV, lenV, extractV, partV, loadAt, Nat.reduceAdd, Nat.reduceBEq, Nat.reduceEqDiff, Nat.reduceLT, Nat.reduceLeDiff, Nat.reduceMul, Nat.reduceSub, reduceIte, Int.reduceEq, Int.reduceNe, Int.reduceLT, Int.reduceLE, Int.reduceAdd, Int.reduceSub, Int.reduceMul, Int.reduceNeg, Int.reduceMod, Int.reduceDiv, Int.reduceTMod, Int.reduceTDiv, Int.reduceToNat]
      refine key _ ⟨?_, ?_, ?_, ?_, ?_, ?_⟩
      all_goals first | (simp (maxDischargeDepth := 8) only [r9, r10, r11, r12, r13, r14, RUN, Ed, knd, kndR, resV, binInt, mnmxV, mnmx2, fillL, unV, lenV, extractV, partV, loadAt, Nat.reduceAdd, Nat.reduceBEq, Nat.reduceEqDiff, Nat.reduceLT, Nat.reduceLeDiff, Nat.reduceMul, Nat.reduceSub, reduceIte, Int.reduceEq, Int.reduceNe, Int.reduceLT, Int.reduceLE, Int.reduceAdd, Int.reduceSub, Int.reduceMul, Int.reduceNeg, Int.reduceMod, Int.reduceDiv, Int.reduceTMod, Int.reduceTDiv, Int.reduceToNat, okChain_i, okLoads_nil, okLoads_in, okLoads_eq]; done) | (simp (maxDischargeDepth := 8) only [r13, RUN, Ed, knd, kndR, resV, binInt, mnmxV, mnmx2, fillL, unV, lenV, extractV, partV, loadAt, Nat.reduceAdd, Nat.reduceBEq, Nat.reduceEqDiff, Nat.reduceLT, Nat.reduceLeDiff, Nat.reduceMul, Nat.reduceSub, reduceIte, Int.reduceEq, Int.reduceNe, Int.reduceLT, Int.reduceLE, Int.reduceAdd, Int.reduceSub, Int.reduceMul, Int.reduceNeg, Int.reduceMod, Int.reduceDiv, Int.reduceTMod, Int.reduceTDiv, Int.reduceToNat, okChain_i, okLoads_nil, okLoads_in, okLoads_eq]; rw [hU, hO]; simp [h1, h2]; done)
  · by_cases h2 : 4200 < v2
    · have q0 := e3_2 u o g
      simp (maxDischargeDepth := 8) only [c4_9, c4_10, c4_11, c4_12, c4_13, c4_14, r9, r10, r11, r12, r13, r14', x, y, vi, i10, i11, i12, k10, k11, k12, k10', k11', i10', i11', ← hF2, cfg_11, cfg_12, h1, h2, q0, okChain_all, RUN, Ed, knd, kndR, resV, binInt, mnmxV, mnmx2, fillL, unV, lenV, extractV, partV, loadAt, Nat.reduceAdd, Nat.reduceBEq, Nat.reduceEqDiff, Nat.reduceLT, Nat.reduceLeDiff, Nat.reduceMul, Nat.reduceSub, reduceIte, Int.reduceEq, Int.reduceNe, Int.reduceLT, Int.reduceLE, Int.reduceAdd, Int.reduceSub, Int.reduceMul, Int.reduceNeg, Int.reduceMod, Int.reduceDiv, Int.reduceTMod, Int.reduceTDiv, Int.reduceToNat]
      refine key _ ⟨?_, ?_, ?_, ?_, ?_, ?_⟩
      all_goals first | (simp (maxDischargeDepth := 8) only [r9, r10, r11, r12, r13, r14, RUN, Ed, knd, kndR, resV, binInt, mnmxV, mnmx2, fillL, unV, lenV, extractV, partV, loadAt, Nat.reduceAdd, Nat.reduceBEq, Nat.reduceEqDiff, Nat.reduceLT, Nat.reduceLeDiff, Nat.reduceMul, Nat.reduceSub, reduceIte, Int.reduceEq, Int.reduceNe, Int.reduceLT, Int.reduceLE, Int.reduceAdd, Int.reduceSub, Int.reduceMul, Int.reduceNeg, Int.reduceMod, Int.reduceDiv, Int.reduceTMod, Int.reduceTDiv, Int.reduceToNat, okChain_i, okLoads_nil, okLoads_in, okLoads_eq]; done) | (simp (maxDischargeDepth := 8) only [r13, RUN, Ed, knd, kndR, resV, binInt, mnmxV, mnmx2, fillL, unV, lenV, extractV, partV, loadAt, Nat.reduceAdd, Nat.reduceBEq, Nat.reduceEqDiff, Nat.reduceLT, Nat.reduceLeDiff, Nat.reduceMul, Nat.reduceSub, reduceIte, Int.reduceEq, Int.reduceNe, Int.reduceLT, Int.reduceLE, Int.reduceAdd, Int.reduceSub, Int.reduceMul, Int.reduceNeg, Int.reduceMod, Int.reduceDiv, Int.reduceTMod, Int.reduceTDiv, Int.reduceToNat, okChain_i, okLoads_nil, okLoads_in, okLoads_eq]; rw [hU, hO]; simp [h1, h2]; done)
    · simp (maxDischargeDepth := 8) only [c4_9, c4_10, c4_11, c4_12, c4_13, c4_14, r9, r10, r11, r12, r13, r14', x, y, vi, i10, i11, i12, k10, k11, k12, k10', k11', i10', i11', ← hF2, cfg_11, cfg_12, h1, h2, okChain_all, RUN, Ed, knd, kndR, resV, binInt, mnmxV, mnmx2, fillL, unV, lenV, extractV, partV, loadAt, Nat.reduceAdd, Nat.reduceBEq, Nat.reduceEqDiff, Nat.reduceLT, Nat.reduceLeDiff, Nat.reduceMul, Nat.reduceSub, reduceIte, Int.reduceEq, Int.reduceNe, Int.reduceLT, Int.reduceLE, Int.reduceAdd, Int.reduceSub, Int.reduceMul, Int.reduceNeg, Int.reduceMod, Int.reduceDiv, Int.reduceTMod, Int.reduceTDiv, Int.reduceToNat]
      refine key _ ⟨?_, ?_, ?_, ?_, ?_, ?_⟩
      all_goals first | (simp (maxDischargeDepth := 8) only [r9, r10, r11, r12, r13, r14, RUN, Ed, knd, kndR, resV, binInt, mnmxV, mnmx2, fillL, unV, lenV, extractV, partV, loadAt, Nat.reduceAdd, Nat.reduceBEq, Nat.reduceEqDiff, Nat.reduceLT, Nat.reduceLeDiff, Nat.reduceMul, Nat.reduceSub, reduceIte, Int.reduceEq, Int.reduceNe, Int.reduceLT, Int.reduceLE, Int.reduceAdd, Int.reduceSub, Int.reduceMul, Int.reduceNeg, Int.reduceMod, Int.reduceDiv, Int.reduceTMod, Int.reduceTDiv, Int.reduceToNat, okChain_i, okLoads_nil, okLoads_in, okLoads_eq]; done) | (simp (maxDischargeDepth := 8) only [r13, RUN, Ed, knd, kndR, resV, binInt, mnmxV, mnmx2, fillL, unV, lenV, extractV, partV, loadAt, Nat.reduceAdd, Nat.reduceBEq, Nat.reduceEqDiff, Nat.reduceLT, Nat.reduceLeDiff, Nat.reduceMul, Nat.reduceSub, reduceIte, Int.reduceEq, Int.reduceNe, Int.reduceLT, Int.reduceLE, Int.reduceAdd, Int.reduceSub, Int.reduceMul, Int.reduceNeg, Int.reduceMod, Int.reduceDiv, Int.reduceTMod, Int.reduceTDiv, Int.reduceToNat, okChain_i, okLoads_nil, okLoads_in, okLoads_eq]; rw [hU, hO]; simp [h1, h2]; done)
theorem round4_3 (c : Cv) (v0 v1 v2 v3 : Int) (hV : ∀ b ∈ [v0, v1, v2, v3], 0 ≤ b ∧ b ≤ 6000) (p10 p11 p12 : Nat) (hp : p10 ≠ p12 ∧ p11 ≠ p12) (u o g : Bool) (ρ : Fr) (F : Heap) (hs : S4 p10 p11 p12 3 (e3 u o g) ρ) (k10 : live F p10 = some ⟨true, 26, cfgL c⟩) (k11 : live F p11 = some ⟨true, 33, iL [v0, v1, v2, v3]⟩) (k12 : live F p12 = some ⟨true, 30, cells8 v0 v1 v2 0 true true true false⟩) :
    ∃ ρ', E Try.prog hints l4_1 ρ F = some (.normal, ρ', F.set p12 (some ⟨true, 30, cells8 v0 v1 v2 v3 true true true true⟩)) ∧ S4 p10 p11 p12 4 (e3 (u || decide (v3 < 3000)) (o || decide (4200 < v3)) (g || ([v0, v1, v2, v3].take 3).any (g2 v3))) ρ' := by
  obtain ⟨r9, r10, r11, r12, r13, r14⟩ := hs
  have i10 := live_lt k10
  have i11 := live_lt k11
  have i12 := live_lt k12
  have r14' : ρ 14 = .int .i64 3 := r14
  have y : idxAV 4 2 (.pointer (some ⟨p12, 0, none⟩)) (.int .i64 3) = some (.pointer (some ⟨p12, 6, none⟩)) := rfl
  have x : idxAV 4 1 (.pointer (some ⟨p11, 0, none⟩)) (.int .i64 3) = some (.pointer (some ⟨p11, 3, none⟩)) := rfl
  have vi : (iL [v0, v1, v2, v3])[3]? = some (.int .i64 v3) := rfl
  simp only [cells8] at k12
  obtain ⟨F1, hF1⟩ : ∃ F1, F1 = F.set p12 (some ⟨true, 30, cells8 v0 v1 v2 v3 true true true true⟩) := ⟨_, rfl⟩
  have k10' : live F1 p10 = some ⟨true, 26, cfgL c⟩ := by rw [hF1, live_set_ne _ _ _ _ (Ne.symm hp.1)]; exact k10
  have k11' : live F1 p11 = some ⟨true, 33, iL [v0, v1, v2, v3]⟩ := by rw [hF1, live_set_ne _ _ _ _ (Ne.symm hp.2)]; exact k11
  have i10' := live_lt k10'
  have i11' := live_lt k11'
  have hF2 := hF1
  simp only [cells8] at hF2
  rw [← hF1, l4t]
  obtain ⟨U, hU⟩ : ∃ U, U = (u || decide (v3 < 3000)) := ⟨_, rfl⟩
  obtain ⟨O, hO⟩ : ∃ O, O = (o || decide (4200 < v3)) := ⟨_, rfl⟩
  rw [← hU, ← hO]
  have key := fun ρ1 hs => rest4 c [v0, v1, v2, v3] rfl hV p10 p11 p12 3 v3 rfl U O g ρ1 F1 hs k10' k11'
  by_cases h1 : v3 < 3000
  · by_cases h2 : 4200 < v3
    · have q0 := e3_1 u o g
      have q1 := e3_2 true o g
      simp (maxDischargeDepth := 8) only [c4_9, c4_10, c4_11, c4_12, c4_13, c4_14, r9, r10, r11, r12, r13, r14', x, y, vi, i10, i11, i12, k10, k11, k12, k10', k11', i10', i11', ← hF2, cfg_11, cfg_12, h1, h2, q0, q1, okChain_all, RUN, Ed, knd, kndR, resV, binInt, mnmxV, mnmx2, fillL, unV, lenV, extractV, partV, loadAt, Nat.reduceAdd, Nat.reduceBEq, Nat.reduceEqDiff, Nat.reduceLT, Nat.reduceLeDiff, Nat.reduceMul, Nat.reduceSub, reduceIte, Int.reduceEq, Int.reduceNe, Int.reduceLT, Int.reduceLE, Int.reduceAdd, Int.reduceSub, Int.reduceMul, Int.reduceNeg, Int.reduceMod, Int.reduceDiv, Int.reduceTMod, Int.reduceTDiv, Int.reduceToNat]
      refine key _ ⟨?_, ?_, ?_, ?_, ?_, ?_⟩
      all_goals first | (simp (maxDischargeDepth := 8) only [r9, r10, r11, r12, r13, r14, RUN, Ed, knd, kndR, resV, binInt, mnmxV, mnmx2, fillL, unV, lenV, extractV, partV, loadAt, Nat.reduceAdd, Nat.reduceBEq, Nat.reduceEqDiff, Nat.reduceLT, Nat.reduceLeDiff, Nat.reduceMul, Nat.reduceSub, reduceIte, Int.reduceEq, Int.reduceNe, Int.reduceLT, Int.reduceLE, Int.reduceAdd, Int.reduceSub, Int.reduceMul, Int.reduceNeg, Int.reduceMod, Int.reduceDiv, Int.reduceTMod, Int.reduceTDiv, Int.reduceToNat, okChain_i, okLoads_nil, okLoads_in, okLoads_eq]; done) | (simp (maxDischargeDepth := 8) only [r13, RUN, Ed, knd, kndR, resV, binInt, mnmxV, mnmx2, fillL, unV, lenV, extractV, partV, loadAt, Nat.reduceAdd, Nat.reduceBEq, Nat.reduceEqDiff, Nat.reduceLT, Nat.reduceLeDiff, Nat.reduceMul, Nat.reduceSub, reduceIte, Int.reduceEq, Int.reduceNe, Int.reduceLT, Int.reduceLE, Int.reduceAdd, Int.reduceSub, Int.reduceMul, Int.reduceNeg, Int.reduceMod, Int.reduceDiv, Int.reduceTMod, Int.reduceTDiv, Int.reduceToNat, okChain_i, okLoads_nil, okLoads_in, okLoads_eq]; rw [hU, hO]; simp [h1, h2]; done)
    · have q0 := e3_1 u o g
      simp (maxDischargeDepth := 8) only [c4_9, c4_10, c4_11, c4_12, c4_13, c4_14, r9, r10, r11, r12, r13, r14', x, y, vi, i10, i11, i12, k10, k11, k12, k10', k11', i10', i11', ← hF2, cfg_11, cfg_12, h1, h2, q0, okChain_all, RUN, Ed, knd, kndR, resV, binInt, mnmxV, mnmx2, fillL, unV, lenV, extractV, partV, loadAt, Nat.reduceAdd, Nat.reduceBEq, Nat.reduceEqDiff, Nat.reduceLT, Nat.reduceLeDiff, Nat.reduceMul, Nat.reduceSub, reduceIte, Int.reduceEq, Int.reduceNe, Int.reduceLT, Int.reduceLE, Int.reduceAdd, Int.reduceSub, Int.reduceMul, Int.reduceNeg, Int.reduceMod, Int.reduceDiv, Int.reduceTMod, Int.reduceTDiv, Int.reduceToNat]
      refine key _ ⟨?_, ?_, ?_, ?_, ?_, ?_⟩
      all_goals first | (simp (maxDischargeDepth := 8) only [r9, r10, r11, r12, r13, r14, RUN, Ed, knd, kndR, resV, binInt, mnmxV, mnmx2, fillL, unV, lenV, extractV, partV, loadAt, Nat.reduceAdd, Nat.reduceBEq, Nat.reduceEqDiff, Nat.reduceLT, Nat.reduceLeDiff, Nat.reduceMul, Nat.reduceSub, reduceIte, Int.reduceEq, Int.reduceNe, Int.reduceLT, Int.reduceLE, Int.reduceAdd, Int.reduceSub, Int.reduceMul, Int.reduceNeg, Int.reduceMod, Int.reduceDiv, Int.reduceTMod, Int.reduceTDiv, Int.reduceToNat, okChain_i, okLoads_nil, okLoads_in, okLoads_eq]; done) | (simp (maxDischargeDepth := 8) only [r13, RUN, Ed, knd, kndR, resV, binInt, mnmxV, mnmx2, fillL, unV, lenV, extractV, partV, loadAt, Nat.reduceAdd, Nat.reduceBEq, Nat.reduceEqDiff, Nat.reduceLT, Nat.reduceLeDiff, Nat.reduceMul, Nat.reduceSub, reduceIte, Int.reduceEq, Int.reduceNe, Int.reduceLT, Int.reduceLE, Int.reduceAdd, Int.reduceSub, Int.reduceMul, Int.reduceNeg, Int.reduceMod, Int.reduceDiv, Int.reduceTMod, Int.reduceTDiv, Int.reduceToNat, okChain_i, okLoads_nil, okLoads_in, okLoads_eq]; rw [hU, hO]; simp [h1, h2]; done)
  · by_cases h2 : 4200 < v3
    · have q0 := e3_2 u o g
      simp (maxDischargeDepth := 8) only [c4_9, c4_10, c4_11, c4_12, c4_13, c4_14, r9, r10, r11, r12, r13, r14', x, y, vi, i10, i11, i12, k10, k11, k12, k10', k11', i10', i11', ← hF2, cfg_11, cfg_12, h1, h2, q0, okChain_all, RUN, Ed, knd, kndR, resV, binInt, mnmxV, mnmx2, fillL, unV, lenV, extractV, partV, loadAt, Nat.reduceAdd, Nat.reduceBEq, Nat.reduceEqDiff, Nat.reduceLT, Nat.reduceLeDiff, Nat.reduceMul, Nat.reduceSub, reduceIte, Int.reduceEq, Int.reduceNe, Int.reduceLT, Int.reduceLE, Int.reduceAdd, Int.reduceSub, Int.reduceMul, Int.reduceNeg, Int.reduceMod, Int.reduceDiv, Int.reduceTMod, Int.reduceTDiv, Int.reduceToNat]
      refine key _ ⟨?_, ?_, ?_, ?_, ?_, ?_⟩
      all_goals first | (simp (maxDischargeDepth := 8) only [r9, r10, r11, r12, r13, r14, RUN, Ed, knd, kndR, resV, binInt, mnmxV, mnmx2, fillL, unV, lenV, extractV, partV, loadAt, Nat.reduceAdd, Nat.reduceBEq, Nat.reduceEqDiff, Nat.reduceLT, Nat.reduceLeDiff, Nat.reduceMul, Nat.reduceSub, reduceIte, Int.reduceEq, Int.reduceNe, Int.reduceLT, Int.reduceLE, Int.reduceAdd, Int.reduceSub, Int.reduceMul, Int.reduceNeg, Int.reduceMod, Int.reduceDiv, Int.reduceTMod, Int.reduceTDiv, Int.reduceToNat, okChain_i, okLoads_nil, okLoads_in, okLoads_eq]; done) | (simp (maxDischargeDepth := 8) only [r13, RUN, Ed, knd, kndR, resV, binInt, mnmxV, mnmx2, fillL, unV, lenV, extractV, partV, loadAt, Nat.reduceAdd, Nat.reduceBEq, Nat.reduceEqDiff, Nat.reduceLT, Nat.reduceLeDiff, Nat.reduceMul, Nat.reduceSub, reduceIte, Int.reduceEq, Int.reduceNe, Int.reduceLT, Int.reduceLE, Int.reduceAdd, Int.reduceSub, Int.reduceMul, Int.reduceNeg, Int.reduceMod, Int.reduceDiv, Int.reduceTMod, Int.reduceTDiv, Int.reduceToNat, okChain_i, okLoads_nil, okLoads_in, okLoads_eq]; rw [hU, hO]; simp [h1, h2]; done)
    · simp (maxDischargeDepth := 8) only [c4_9, c4_10, c4_11, c4_12, c4_13, c4_14, r9, r10, r11, r12, r13, r14', x, y, vi, i10, i11, i12, k10, k11, k12, k10', k11', i10', i11', ← hF2, cfg_11, cfg_12, h1, h2, okChain_all, RUN, Ed, knd, kndR, resV, binInt, mnmxV, mnmx2, fillL, unV, lenV, extractV, partV, loadAt, Nat.reduceAdd, Nat.reduceBEq, Nat.reduceEqDiff, Nat.reduceLT, Nat.reduceLeDiff, Nat.reduceMul, Nat.reduceSub, reduceIte, Int.reduceEq, Int.reduceNe, Int.reduceLT, Int.reduceLE, Int.reduceAdd, Int.reduceSub, Int.reduceMul, Int.reduceNeg, Int.reduceMod, Int.reduceDiv, Int.reduceTMod, Int.reduceTDiv, Int.reduceToNat]
      refine key _ ⟨?_, ?_, ?_, ?_, ?_, ?_⟩
      all_goals first | (simp (maxDischargeDepth := 8) only [r9, r10, r11, r12, r13, r14, RUN, Ed, knd, kndR, resV, binInt, mnmxV, mnmx2, fillL, unV, lenV, extractV, partV, loadAt, Nat.reduceAdd, Nat.reduceBEq, Nat.reduceEqDiff, Nat.reduceLT, Nat.reduceLeDiff, Nat.reduceMul, Nat.reduceSub, reduceIte, Int.reduceEq, Int.reduceNe, Int.reduceLT, Int.reduceLE, Int.reduceAdd, Int.reduceSub, Int.reduceMul, Int.reduceNeg, Int.reduceMod, Int.reduceDiv, Int.reduceTMod, Int.reduceTDiv, Int.reduceToNat, okChain_i, okLoads_nil, okLoads_in, okLoads_eq]; done) | (simp (maxDischargeDepth := 8) only [r13, RUN, Ed, knd, kndR, resV, binInt, mnmxV, mnmx2, fillL, unV, lenV, extractV, partV, loadAt, Nat.reduceAdd, Nat.reduceBEq, Nat.reduceEqDiff, Nat.reduceLT, Nat.reduceLeDiff, Nat.reduceMul, Nat.reduceSub, reduceIte, Int.reduceEq, Int.reduceNe, Int.reduceLT, Int.reduceLE, Int.reduceAdd, Int.reduceSub, Int.reduceMul, Int.reduceNeg, Int.reduceMod, Int.reduceDiv, Int.reduceTMod, Int.reduceTDiv, Int.reduceToNat, okChain_i, okLoads_nil, okLoads_in, okLoads_eq]; rw [hU, hO]; simp [h1, h2]; done)
theorem all_W (v0 v1 v2 v3 : Int) (hV : ∀ b ∈ [v0, v1, v2, v3], 0 ≤ b ∧ b ≤ 6000) : W ((((false || decide (v0 < 3000)) || decide (v1 < 3000)) || decide (v2 < 3000)) || decide (v3 < 3000)) ((((false || decide (4200 < v0)) || decide (4200 < v1)) || decide (4200 < v2)) || decide (4200 < v3))
    ((((false || ([v0, v1, v2, v3].take 0).any (g2 v0)) || ([v0, v1, v2, v3].take 1).any (g2 v1)) || ([v0, v1, v2, v3].take 2).any (g2 v2)) || ([v0, v1, v2, v3].take 3).any (g2 v3)) [v0, v1, v2, v3] := by
  refine ⟨?_, ?_, ?_, by simp, hV⟩
  · simp [uP, Bool.or_assoc]
  · simp [oP, Bool.or_assoc]
  · rw [Bool.eq_iff_iff]; simp [gP, gp, g2]; omega
def t4 : RCode := .seq (.region c4_21) .ret
theorem b4t : b4 = .seq (.region c4_0) (.seq (.region c4_1) (.seq (.seq (.region c4_2) (.cond (.tmp 18) (.seq (.region c4_3) .ret) .skip)) (.seq (.region c4_4) (.seq (.region c4_5) (.seq (.region c4_6) (.seq (.region c4_7) (.seq (.seq (.region c4_8) (.block 0 (.loop l4_1))) t4))))))) := (rfl)
theorem all4 (a0 a1 a2 a3 : Int) (H : Heap) : Ok (K 4 [.int .i64 a0, .int .i64 a1, .int .i64 a2, .int .i64 a3] H) := by
  obtain ⟨X0, e0⟩ := firstC_f H
  obtain ⟨G, hG⟩ : ∃ G, G = H ++ X0 := ⟨_, rfl⟩
  rw [← hG] at e0
  obtain ⟨v0, n0, m0, hv0, hw0⟩ := mod6001 a0
  obtain ⟨v1, n1, m1, hv1, hw1⟩ := mod6001 a1
  obtain ⟨v2, n2, m2, hv2, hw2⟩ := mod6001 a2
  obtain ⟨v3, n3, m3, hv3, hw3⟩ := mod6001 a3
  have hV : ∀ b ∈ [v0, v1, v2, v3], 0 ≤ b ∧ b ≤ 6000 := by
    intro b hb; simp at hb; rcases hb with rfl | rfl | rfl | rfl <;> omega
  have ec := config0_f 0 G (by omega) (by omega)
  simp only [K] at ec
  obtain ⟨cc, hcc⟩ : ∃ cc, cc = cv0 0 G.length := ⟨_, rfl⟩
  have hone : (cfgL cc).all Value.oneCell' = true := by rw [hcc]; rfl
  rw [← hcc] at ec
  rw [K, D_eq p4 _ _ (Nat.le_of_ble_eq_true rfl)]
  obtain ⟨F0, hF0⟩ : ∃ F0, F0 = G ++ [some ⟨true, 26, cfgL cc⟩, some ⟨true, 26, cfgL cc⟩, ocvB, some ⟨true, 26, cfgL cc⟩, some ⟨true, 33, iL [v0, v1, v2, v3]⟩, some ⟨true, 30, cells8 0 0 0 0 false false false false⟩] := ⟨_, rfl⟩
  have k10 : live F0 (G.length + 3) = some ⟨true, 26, cfgL cc⟩ := by rw [hF0]; exact (live_app_add _ _ _).trans rfl
  have k11 : live F0 (G.length + 4) = some ⟨true, 33, iL [v0, v1, v2, v3]⟩ := by rw [hF0]; exact (live_app_add _ _ _).trans rfl
  have k12 : live F0 (G.length + 5) = some ⟨true, 30, cells8 0 0 0 0 false false false false⟩ := by rw [hF0]; exact (live_app_add _ _ _).trans rfl
  have key : ∀ ρ, S4 (G.length + 3) (G.length + 4) (G.length + 5) 0 (e3 false false false) ρ → Ok (done [.tmp 8] (andThen (blk 0 (E Try.prog hints (.loop l4_1) ρ F0)) (E Try.prog hints t4))) := by
    intro ρ hs
    have hp : G.length + 3 ≠ G.length + 5 ∧ G.length + 4 ≠ G.length + 5 := by omega
    obtain ⟨ρ1, e1, s1⟩ := round4_0 cc v0 v1 v2 v3 hV _ _ _ hp _ _ _ ρ F0 hs k10 k11 k12
    have q10 : ∀ z, live (F0.set (G.length + 5) z) (G.length + 3) = some ⟨true, 26, cfgL cc⟩ := fun z => by rw [live_set_ne _ _ _ _ (by omega)]; exact k10
    have q11 : ∀ z, live (F0.set (G.length + 5) z) (G.length + 4) = some ⟨true, 33, iL [v0, v1, v2, v3]⟩ := fun z => by rw [live_set_ne _ _ _ _ (by omega)]; exact k11
    have q12 : ∀ z, live (F0.set (G.length + 5) z) (G.length + 5) = z := fun z => live_set_eq _ _ _ (live_lt k12)
    obtain ⟨ρ2, e2, s2⟩ := round4_1 cc v0 v1 v2 v3 hV _ _ _ hp _ _ _ ρ1 _ s1 (q10 _) (q11 _) (q12 _)
    rw [List.set_set] at e2
    obtain ⟨ρ3, e3', s3⟩ := round4_2 cc v0 v1 v2 v3 hV _ _ _ hp _ _ _ ρ2 _ s2 (q10 _) (q11 _) (q12 _)
    rw [List.set_set] at e3'
    obtain ⟨ρ4, e4, s4⟩ := round4_3 cc v0 v1 v2 v3 hV _ _ _ hp _ _ _ ρ3 _ s3 (q10 _) (q11 _) (q12 _)
    rw [List.set_set] at e4
    have hW := all_W v0 v1 v2 v3 hV
    obtain ⟨XF, ef⟩ := flags_W cc hone 1 (by omega) v0 v1 v2 v3 true true true true _ _ _ hW (F0.set (G.length + 5) (some ⟨true, 30, cells8 v0 v1 v2 v3 true true true true⟩))
    have k10' := q10 (some ⟨true, 30, cells8 v0 v1 v2 v3 true true true true⟩)
    have k12' := q12 (some ⟨true, 30, cells8 v0 v1 v2 v3 true true true true⟩)
    have hc8 : (cells8 v0 v1 v2 v3 true true true true).length = 8 := rfl
    have ht8 : (cells8 v0 v1 v2 v3 true true true true).take 8 = cells8 v0 v1 v2 v3 true true true true := rfl
    rw [El, e1, andThen_n, El, e2, andThen_n, El, e3', andThen_n, El, e4, andThen_n, El]
    obtain ⟨r9, r10, r11, r12, r13, r14⟩ := s4
    have r14' : ρ4 14 = .int .i64 4 := r14
    generalize F0.set (G.length + 5) (some ⟨true, 30, cells8 v0 v1 v2 v3 true true true true⟩) = F1 at *
    have i10 := live_lt k10'
    have i12 := live_lt k12'
    generalize e3 _ _ _ = w at r13 ef
    simp (maxDischargeDepth := 8) only [l4t, c4_9, t4, c4_21, r9, r10, r11, r12, r13, r14', k10', k12', i10, i12, hc8, ht8, cfg_len, cfg_take, ef, RUN, Ed, knd, kndR, resV, binInt, mnmxV, mnmx2, fillL, unV, lenV, extractV, partV, loadAt, Nat.reduceAdd, Nat.reduceBEq, Nat.reduceEqDiff, Nat.reduceLT, Nat.reduceLeDiff, Nat.reduceMul, Nat.reduceSub, reduceIte, Int.reduceEq, Int.reduceNe, Int.reduceLT, Int.reduceLE, Int.reduceAdd, Int.reduceSub, Int.reduceMul, Int.reduceNeg, Int.reduceMod, Int.reduceDiv, Int.reduceTMod, Int.reduceTDiv, Int.reduceToNat, okChain_i, okLoads_nil, okLoads_in, okLoads_eq]
    exact Ok.mk _
  have hF1 := hF0
  simp only [iL, cells8, List.map_cons, List.map_nil] at hF1
  simp (maxDischargeDepth := 8) only [r4, b4t, c4_0, c4_1, c4_2, c4_3, c4_4, c4_5, c4_6, c4_7, c4_8, e0, ec, hone, cfg_len, n0, n1, n2, n3, m0, m1, m2, m3, ← hF1, RUN, Ed, knd, kndR, resV, binInt, mnmxV, mnmx2, fillL, unV, lenV, extractV, partV, loadAt, Nat.reduceAdd, Nat.reduceBEq, Nat.reduceEqDiff, Nat.reduceLT, Nat.reduceLeDiff, Nat.reduceMul, Nat.reduceSub, reduceIte, Int.reduceEq, Int.reduceNe, Int.reduceLT, Int.reduceLE, Int.reduceAdd, Int.reduceSub, Int.reduceMul, Int.reduceNeg, Int.reduceMod, Int.reduceDiv, Int.reduceTMod, Int.reduceTDiv, Int.reduceToNat, okChain_i, okLoads_nil, okLoads_in, okLoads_eq]
  refine key _ ⟨?_, ?_, ?_, ?_, ?_, ?_⟩
  all_goals first | (simp (maxDischargeDepth := 8) only [RUN, Ed, knd, kndR, resV, binInt, mnmxV, mnmx2, fillL, unV, lenV, extractV, partV, loadAt, Nat.reduceAdd, Nat.reduceBEq, Nat.reduceEqDiff, Nat.reduceLT, Nat.reduceLeDiff, Nat.reduceMul, Nat.reduceSub, reduceIte, Int.reduceEq, Int.reduceNe, Int.reduceLT, Int.reduceLE, Int.reduceAdd, Int.reduceSub, Int.reduceMul, Int.reduceNeg, Int.reduceMod, Int.reduceDiv, Int.reduceTMod, Int.reduceTDiv, Int.reduceToNat, okChain_i, okLoads_nil, okLoads_in, okLoads_eq]; done) | (simp (maxDischargeDepth := 8) only [RUN, Ed, knd, kndR, resV, binInt, mnmxV, mnmx2, fillL, unV, lenV, extractV, partV, loadAt, Nat.reduceAdd, Nat.reduceBEq, Nat.reduceEqDiff, Nat.reduceLT, Nat.reduceLeDiff, Nat.reduceMul, Nat.reduceSub, reduceIte, Int.reduceEq, Int.reduceNe, Int.reduceLT, Int.reduceLE, Int.reduceAdd, Int.reduceSub, Int.reduceMul, Int.reduceNeg, Int.reduceMod, Int.reduceDiv, Int.reduceTMod, Int.reduceTDiv, Int.reduceToNat, okChain_i, okLoads_nil, okLoads_in, okLoads_eq]; rfl)
def sh4 : List Sh := [.int .i64, .int .i64, .int .i64, .int .i64]
theorem all_law (H : Heap) (ls : List (List Value)) (o : OpnAll H sh4 ls) : Ok (K 4 (argsS sh4 ls) H) := by
  obtain ⟨l0, _, rfl, h0, o⟩ := o.uncons
  obtain ⟨l1, _, rfl, h1, o⟩ := o.uncons
  obtain ⟨l2, _, rfl, h2, o⟩ := o.uncons
  obtain ⟨l3, _, rfl, h3, o⟩ := o.uncons
  cases o.unnil
  simp only [Opn] at h0 h1 h2 h3
  obtain ⟨a, rfl, _⟩ := h0
  obtain ⟨b, rfl, _⟩ := h1
  obtain ⟨c, rfl, _⟩ := h2
  obtain ⟨d, rfl, _⟩ := h3
  exact all4 a b c d H
end Go.Proofs.Ytncpbbdgckkdmaa.Sim

