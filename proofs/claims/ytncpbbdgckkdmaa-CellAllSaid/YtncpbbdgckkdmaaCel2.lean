/- What is amiss with a battery's cells. -/
import Derived.Test.YtncpbbdgckkdmaaCel1
import Derived.Test.YtncpbbdgckkdmaaSim21
namespace Go.Proofs.Ytncpbbdgckkdmaa.Sim
open Go
set_option linter.unusedSimpArgs false
set_option linter.unusedVariables false
def i14 : RCode := .seq (.region c14_16) (.block 4 (.loop l14_1))
theorem outer14 (H : Heap) (p3 p5 : Nat) (v : Value) (L : List Int) (hL : L.length ≤ 10) (hI : In6 L) (cf : List Value) (mn mx gap tm : Int) (hcf : Cf cf mn mx gap tm) (hg : -1000000 ≤ gap ∧ gap ≤ 1000000) (ρ : Fr) (G : Heap) (hs : T14 p3 p5 v L.length 0 (e3 false false false) ρ) (hm : SL H G v L) (k3 : live G p3 = some ⟨true, 26, cf⟩) :
    ∃ ρ' G', E Try.prog hints (.loop l14_2) ρ G = some (.exit 2, ρ', G') ∧ (T14 p3 p5 v L.length L.length (e3 (uP L mn) (oP L mx) (gP L L gap)) ρ' ∧ G' = G) := by
  have l1 := hm.len
  have i3 := live_lt k3
  refine loop_inv (fun i ρ G' => T14 p3 p5 v L.length i (e3 (uP (L.take i) mn) (oP (L.take i) mx) (gP (L.take i) L gap)) ρ ∧ G' = G) (fun ρ G' => T14 p3 p5 v L.length L.length (e3 (uP L mn) (oP L mx) (gP L L gap)) ρ ∧ G' = G) L.length ?_ ?_ ρ G ⟨by simpa [uP, oP, gP] using hs, rfl⟩
  · rintro i ρ G' hi ⟨⟨r3, r5, r7, r8, r27, r28, r29⟩, rfl⟩
    have hb : L[i]? = some L[i] := List.getElem?_eq_getElem hi
    obtain ⟨c, x1, x2, x3⟩ := hm.idx hb
    have ic := live_lt x2
    have hlt : (i : Int) < (L.length : Int) := by omega
    have w := wrap64 ((i : Int) + 1) (by omega) (by omega)
    have har := hI L[i] (List.getElem_mem hi)
    have hu := any_succ (fun a => decide (a < mn)) L i L[i] hb
    have ho := any_succ (fun a => decide (mx < a)) L i L[i] hb
    have hgg := any_succ (fun a => gp L gap a) L i L[i] hb
    have hc11 := hcf.c11
    have hc12 := hcf.c12
    simp only [uP, oP, gP] at r7 ⊢
    rw [hu, ho, hgg]
    generalize (L.take i).any (fun a => decide (a < mn)) = u at r7 ⊢
    generalize (L.take i).any (fun a => decide (mx < a)) = o at r7 ⊢
    generalize (L.take i).any (fun a => gp L gap a) = g at r7 ⊢
    generalize L[i] = a at *
    obtain ⟨U, hU⟩ : ∃ U, U = (u || decide (a < mn)) := ⟨_, rfl⟩
    obtain ⟨O, hO⟩ : ∃ O, O = (o || decide (mx < a)) := ⟨_, rfl⟩
    simp only [← hU, ← hO]
    have key : ∀ ρ1, T14 p3 p5 v L.length i (e3 U O g) ρ1 → ρ1 12 = .int .i64 a → ∃ ρ' F', andThen (blk 3 (E Try.prog hints i14 ρ1 G')) (E Try.prog hints (.region c14_22)) = some (.normal, ρ', F') ∧ (T14 p3 p5 v L.length (i + 1) (e3 U O (g || gp L gap a)) ρ' ∧ F' = G') := by
      rintro ρ1 hs1 s12
      have hs2 := hs1
      obtain ⟨s3, s5, s7, s8, s27, s28, s29⟩ := hs1
      have key2 : ∀ ρ2, (T14 p3 p5 v L.length i (e3 U O g) ρ2 ∧ ρ2 12 = .int .i64 a ∧ ρ2 45 = v ∧ ρ2 46 = .int .i64 L.length ∧ ρ2 47 = .int .i64 0) → ∃ ρ' F', andThen (blk 3 (blk 4 (E Try.prog hints (.loop l14_1) ρ2 G'))) (E Try.prog hints (.region c14_22)) = some (.normal, ρ', F') ∧ (T14 p3 p5 v L.length (i + 1) (e3 U O (g || gp L gap a)) ρ' ∧ F' = G') := by
        rintro ρ2 ⟨ht, u12, u45, u46, u47⟩
        obtain ⟨ρ3, G3, e1, ⟨v3, v5, v7, v8, v27, v28, v29⟩, rfl⟩ := inner14 H p3 p5 v L hL hI cf mn mx gap tm hcf hg i _ _ g a har ρ2 G' ht u12 u45 u46 u47 hm k3
        rw [e1]
        refine ⟨?ρ4, G3, ?run4, ⟨?_, ?_, ?_, ?_, ?_, ?_, ?_⟩, rfl⟩
        case run4 =>
          simp (maxDischargeDepth := 8) only [c14_22, v29, w, RUN, Ed, knd, kndR, resV, binInt, mnmxV, mnmx2, fillL, unV, lenV, extractV, partV, loadAt, Nat.reduceAdd, Nat.reduceBEq, Nat.reduceEqDiff, Nat.reduceLT, Nat.reduceLeDiff, Nat.reduceMul, Nat.reduceSub, reduceIte, Int.reduceEq, Int.reduceNe, Int.reduceLT, Int.reduceLE, Int.reduceAdd, Int.reduceSub, Int.reduceMul, Int.reduceNeg, Int.reduceMod, Int.reduceDiv, Int.reduceTMod, Int.reduceTDiv, Int.reduceToNat, okChain_i, okLoads_nil, okLoads_in, okLoads_eq]
          rfl
        all_goals first | (simp (maxDischargeDepth := 8) only [v3, v5, v7, v8, v27, v28, v29, RUN, Ed, knd, kndR, resV, binInt, mnmxV, mnmx2, fillL, unV, lenV, extractV, partV, loadAt, Nat.reduceAdd, Nat.reduceBEq, Nat.reduceEqDiff, Nat.reduceLT, Nat.reduceLeDiff, Nat.reduceMul, Nat.reduceSub, reduceIte, Int.reduceEq, Int.reduceNe, Int.reduceLT, Int.reduceLE, Int.reduceAdd, Int.reduceSub, Int.reduceMul, Int.reduceNeg, Int.reduceMod, Int.reduceDiv, Int.reduceTMod, Int.reduceTDiv, Int.reduceToNat, okChain_i, okLoads_nil, okLoads_in, okLoads_eq]; done) | (simp (maxDischargeDepth := 8) only [v3, v5, v7, v8, v27, v28, v29, RUN, Ed, knd, kndR, resV, binInt, mnmxV, mnmx2, fillL, unV, lenV, extractV, partV, loadAt, Nat.reduceAdd, Nat.reduceBEq, Nat.reduceEqDiff, Nat.reduceLT, Nat.reduceLeDiff, Nat.reduceMul, Nat.reduceSub, reduceIte, Int.reduceEq, Int.reduceNe, Int.reduceLT, Int.reduceLE, Int.reduceAdd, Int.reduceSub, Int.reduceMul, Int.reduceNeg, Int.reduceMod, Int.reduceDiv, Int.reduceTMod, Int.reduceTDiv, Int.reduceToNat, okChain_i, okLoads_nil, okLoads_in, okLoads_eq]; rfl)
      simp (maxDischargeDepth := 8) only [i14, c14_16, s3, s5, s7, s8, s27, s28, s29, l1, RUN, Ed, knd, kndR, resV, binInt, mnmxV, mnmx2, fillL, unV, extractV, partV, loadAt, Nat.reduceAdd, Nat.reduceBEq, Nat.reduceEqDiff, Nat.reduceLT, Nat.reduceLeDiff, Nat.reduceMul, Nat.reduceSub, reduceIte, Int.reduceEq, Int.reduceNe, Int.reduceLT, Int.reduceLE, Int.reduceAdd, Int.reduceSub, Int.reduceMul, Int.reduceNeg, Int.reduceMod, Int.reduceDiv, Int.reduceTMod, Int.reduceTDiv, Int.reduceToNat, okChain_i, okLoads_nil, okLoads_in, okLoads_eq]
      refine key2 _ ⟨⟨?_, ?_, ?_, ?_, ?_, ?_, ?_⟩, ?_, ?_, ?_, ?_⟩
      all_goals simp (maxDischargeDepth := 8) only [s3, s5, s7, s8, s27, s28, s29, s12, RUN, Ed, knd, kndR, resV, binInt, mnmxV, mnmx2, fillL, unV, lenV, extractV, partV, loadAt, Nat.reduceAdd, Nat.reduceBEq, Nat.reduceEqDiff, Nat.reduceLT, Nat.reduceLeDiff, Nat.reduceMul, Nat.reduceSub, reduceIte, Int.reduceEq, Int.reduceNe, Int.reduceLT, Int.reduceLE, Int.reduceAdd, Int.reduceSub, Int.reduceMul, Int.reduceNeg, Int.reduceMod, Int.reduceDiv, Int.reduceTMod, Int.reduceTDiv, Int.reduceToNat, okChain_i, okLoads_nil, okLoads_in, okLoads_eq]
    have hl : l14_2 = .seq (.region c14_10) (.seq (.cond (.tmp 30) .skip (.exit 2)) (.seq (.block 3 (.seq (.region c14_11) (.seq (.seq (.region c14_12) (.cond (.tmp 36) (.region c14_13) .skip)) (.seq (.seq (.region c14_14) (.cond (.tmp 42) (.region c14_15) .skip)) i14)))) (.region c14_22))) := rfl
    rw [hl]
    by_cases h1 : a < mn
    · by_cases h2 : mx < a
      · have q1 := e3_1 u o g
        have q2 := e3_2 true o g
        simp (maxDischargeDepth := 8) only [c14_10, c14_11, c14_12, c14_13, c14_14, c14_15, r3, r5, r7, r8, r27, r28, r29, hlt, x1, x2, x3, ic, i3, k3, hc11, hc12, h1, h2, q1, q2, RUN, Ed, knd, kndR, resV, binInt, mnmxV, mnmx2, fillL, unV, lenV, extractV, partV, loadAt, Nat.reduceAdd, Nat.reduceBEq, Nat.reduceEqDiff, Nat.reduceLT, Nat.reduceLeDiff, Nat.reduceMul, Nat.reduceSub, reduceIte, Int.reduceEq, Int.reduceNe, Int.reduceLT, Int.reduceLE, Int.reduceAdd, Int.reduceSub, Int.reduceMul, Int.reduceNeg, Int.reduceMod, Int.reduceDiv, Int.reduceTMod, Int.reduceTDiv, Int.reduceToNat, okChain_i, okLoads_nil, okLoads_in, okLoads_eq]
        refine key _ ⟨?_, ?_, ?_, ?_, ?_, ?_, ?_⟩ ?_
        all_goals first | (simp (maxDischargeDepth := 8) only [r3, r5, r7, r8, r27, r28, r29, RUN, Ed, knd, kndR, resV, binInt, mnmxV, mnmx2, fillL, unV, lenV, extractV, partV, loadAt, Nat.reduceAdd, Nat.reduceBEq, Nat.reduceEqDiff, Nat.reduceLT, Nat.reduceLeDiff, Nat.reduceMul, Nat.reduceSub, reduceIte, Int.reduceEq, Int.reduceNe, Int.reduceLT, Int.reduceLE, Int.reduceAdd, Int.reduceSub, Int.reduceMul, Int.reduceNeg, Int.reduceMod, Int.reduceDiv, Int.reduceTMod, Int.reduceTDiv, Int.reduceToNat, okChain_i, okLoads_nil, okLoads_in, okLoads_eq]; done) | (simp (maxDischargeDepth := 8) only [r7, RUN, Ed, knd, kndR, resV, binInt, mnmxV, mnmx2, fillL, unV, lenV, extractV, partV, loadAt, Nat.reduceAdd, Nat.reduceBEq, Nat.reduceEqDiff, Nat.reduceLT, Nat.reduceLeDiff, Nat.reduceMul, Nat.reduceSub, reduceIte, Int.reduceEq, Int.reduceNe, Int.reduceLT, Int.reduceLE, Int.reduceAdd, Int.reduceSub, Int.reduceMul, Int.reduceNeg, Int.reduceMod, Int.reduceDiv, Int.reduceTMod, Int.reduceTDiv, Int.reduceToNat, okChain_i, okLoads_nil, okLoads_in, okLoads_eq]; rw [hU, hO]; simp [h1, h2]; done)
      · have q1 := e3_1 u o g
        simp (maxDischargeDepth := 8) only [c14_10, c14_11, c14_12, c14_13, c14_14, c14_15, r3, r5, r7, r8, r27, r28, r29, hlt, x1, x2, x3, ic, i3, k3, hc11, hc12, h1, h2, q1, RUN, Ed, knd, kndR, resV, binInt, mnmxV, mnmx2, fillL, unV, lenV, extractV, partV, loadAt, Nat.reduceAdd, Nat.reduceBEq, Nat.reduceEqDiff, Nat.reduceLT, Nat.reduceLeDiff, Nat.reduceMul, Nat.reduceSub, reduceIte, Int.reduceEq, Int.reduceNe, Int.reduceLT, Int.reduceLE, Int.reduceAdd, Int.reduceSub, Int.reduceMul, Int.reduceNeg, Int.reduceMod, Int.reduceDiv, Int.reduceTMod, Int.reduceTDiv, Int.reduceToNat, okChain_i, okLoads_nil, okLoads_in, okLoads_eq]
        refine key _ ⟨?_, ?_, ?_, ?_, ?_, ?_, ?_⟩ ?_
        all_goals first | (simp (maxDischargeDepth := 8) only [r3, r5, r7, r8, r27, r28, r29, RUN, Ed, knd, kndR, resV, binInt, mnmxV, mnmx2, fillL, unV, lenV, extractV, partV, loadAt, Nat.reduceAdd, Nat.reduceBEq, Nat.reduceEqDiff, Nat.reduceLT, Nat.reduceLeDiff, Nat.reduceMul, Nat.reduceSub, reduceIte, Int.reduceEq, Int.reduceNe, Int.reduceLT, Int.reduceLE, Int.reduceAdd, Int.reduceSub, Int.reduceMul, Int.reduceNeg, Int.reduceMod, Int.reduceDiv, Int.reduceTMod, Int.reduceTDiv, Int.reduceToNat, okChain_i, okLoads_nil, okLoads_in, okLoads_eq]; done) | (simp (maxDischargeDepth := 8) only [r7, RUN, Ed, knd, kndR, resV, binInt, mnmxV, mnmx2, fillL, unV, lenV, extractV, partV, loadAt, Nat.reduceAdd, Nat.reduceBEq, Nat.reduceEqDiff, Nat.reduceLT, Nat.reduceLeDiff, Nat.reduceMul, Nat.reduceSub, reduceIte, Int.reduceEq, Int.reduceNe, Int.reduceLT, Int.reduceLE, Int.reduceAdd, Int.reduceSub, Int.reduceMul, Int.reduceNeg, Int.reduceMod, Int.reduceDiv, Int.reduceTMod, Int.reduceTDiv, Int.reduceToNat, okChain_i, okLoads_nil, okLoads_in, okLoads_eq]; rw [hU, hO]; simp [h1, h2]; done)
    · by_cases h2 : mx < a
      · have q2 := e3_2 u o g
        simp (maxDischargeDepth := 8) only [c14_10, c14_11, c14_12, c14_13, c14_14, c14_15, r3, r5, r7, r8, r27, r28, r29, hlt, x1, x2, x3, ic, i3, k3, hc11, hc12, h1, h2, q2, RUN, Ed, knd, kndR, resV, binInt, mnmxV, mnmx2, fillL, unV, lenV, extractV, partV, loadAt, Nat.reduceAdd, Nat.reduceBEq, Nat.reduceEqDiff, Nat.reduceLT, Nat.reduceLeDiff, Nat.reduceMul, Nat.reduceSub, reduceIte, Int.reduceEq, Int.reduceNe, Int.reduceLT, Int.reduceLE, Int.reduceAdd, Int.reduceSub, Int.reduceMul, Int.reduceNeg, Int.reduceMod, Int.reduceDiv, Int.reduceTMod, Int.reduceTDiv, Int.reduceToNat, okChain_i, okLoads_nil, okLoads_in, okLoads_eq]
        refine key _ ⟨?_, ?_, ?_, ?_, ?_, ?_, ?_⟩ ?_
        all_goals first | (simp (maxDischargeDepth := 8) only [r3, r5, r7, r8, r27, r28, r29, RUN, Ed, knd, kndR, resV, binInt, mnmxV, mnmx2, fillL, unV, lenV, extractV, partV, loadAt, Nat.reduceAdd, Nat.reduceBEq, Nat.reduceEqDiff, Nat.reduceLT, Nat.reduceLeDiff, Nat.reduceMul, Nat.reduceSub, reduceIte, Int.reduceEq, Int.reduceNe, Int.reduceLT, Int.reduceLE, Int.reduceAdd, Int.reduceSub, Int.reduceMul, Int.reduceNeg, Int.reduceMod, Int.reduceDiv, Int.reduceTMod, Int.reduceTDiv, Int.reduceToNat, okChain_i, okLoads_nil, okLoads_in, okLoads_eq]; done) | (simp (maxDischargeDepth := 8) only [r7, RUN, Ed, knd, kndR, resV, binInt, mnmxV, mnmx2, fillL, unV, lenV, extractV, partV, loadAt, Nat.reduceAdd, Nat.reduceBEq, Nat.reduceEqDiff, Nat.reduceLT, Nat.reduceLeDiff, Nat.reduceMul, Nat.reduceSub, reduceIte, Int.reduceEq, Int.reduceNe, Int.reduceLT, Int.reduceLE, Int.reduceAdd, Int.reduceSub, Int.reduceMul, Int.reduceNeg, Int.reduceMod, Int.reduceDiv, Int.reduceTMod, Int.reduceTDiv, Int.reduceToNat, okChain_i, okLoads_nil, okLoads_in, okLoads_eq]; rw [hU, hO]; simp [h1, h2]; done)
      · simp (maxDischargeDepth := 8) only [c14_10, c14_11, c14_12, c14_13, c14_14, c14_15, r3, r5, r7, r8, r27, r28, r29, hlt, x1, x2, x3, ic, i3, k3, hc11, hc12, h1, h2, RUN, Ed, knd, kndR, resV, binInt, mnmxV, mnmx2, fillL, unV, lenV, extractV, partV, loadAt, Nat.reduceAdd, Nat.reduceBEq, Nat.reduceEqDiff, Nat.reduceLT, Nat.reduceLeDiff, Nat.reduceMul, Nat.reduceSub, reduceIte, Int.reduceEq, Int.reduceNe, Int.reduceLT, Int.reduceLE, Int.reduceAdd, Int.reduceSub, Int.reduceMul, Int.reduceNeg, Int.reduceMod, Int.reduceDiv, Int.reduceTMod, Int.reduceTDiv, Int.reduceToNat, okChain_i, okLoads_nil, okLoads_in, okLoads_eq]
        refine key _ ⟨?_, ?_, ?_, ?_, ?_, ?_, ?_⟩ ?_
        all_goals first | (simp (maxDischargeDepth := 8) only [r3, r5, r7, r8, r27, r28, r29, RUN, Ed, knd, kndR, resV, binInt, mnmxV, mnmx2, fillL, unV, lenV, extractV, partV, loadAt, Nat.reduceAdd, Nat.reduceBEq, Nat.reduceEqDiff, Nat.reduceLT, Nat.reduceLeDiff, Nat.reduceMul, Nat.reduceSub, reduceIte, Int.reduceEq, Int.reduceNe, Int.reduceLT, Int.reduceLE, Int.reduceAdd, Int.reduceSub, Int.reduceMul, Int.reduceNeg, Int.reduceMod, Int.reduceDiv, Int.reduceTMod, Int.reduceTDiv, Int.reduceToNat, okChain_i, okLoads_nil, okLoads_in, okLoads_eq]; done) | (simp (maxDischargeDepth := 8) only [r7, RUN, Ed, knd, kndR, resV, binInt, mnmxV, mnmx2, fillL, unV, lenV, extractV, partV, loadAt, Nat.reduceAdd, Nat.reduceBEq, Nat.reduceEqDiff, Nat.reduceLT, Nat.reduceLeDiff, Nat.reduceMul, Nat.reduceSub, reduceIte, Int.reduceEq, Int.reduceNe, Int.reduceLT, Int.reduceLE, Int.reduceAdd, Int.reduceSub, Int.reduceMul, Int.reduceNeg, Int.reduceMod, Int.reduceDiv, Int.reduceTMod, Int.reduceTDiv, Int.reduceToNat, okChain_i, okLoads_nil, okLoads_in, okLoads_eq]; rw [hU, hO]; simp [h1, h2]; done)
  · rintro ρ G' ⟨⟨r3, r5, r7, r8, r27, r28, r29⟩, rfl⟩
    rw [List.take_length] at r7
    have hlt : ¬ (L.length : Int) < (L.length : Int) := by omega
    refine ⟨?ρ3, G', ?run3, ⟨?_, ?_, ?_, ?_, ?_, ?_, ?_⟩, rfl⟩
    case run3 =>
      simp (maxDischargeDepth := 8) only [l14_2, c14_10, r28, r29, hlt, RUN, Ed, knd, kndR, resV, binInt, mnmxV, mnmx2, fillL, unV, lenV, extractV, partV, loadAt, Nat.reduceAdd, Nat.reduceBEq, Nat.reduceEqDiff, Nat.reduceLT, Nat.reduceLeDiff, Nat.reduceMul, Nat.reduceSub, reduceIte, Int.reduceEq, Int.reduceNe, Int.reduceLT, Int.reduceLE, Int.reduceAdd, Int.reduceSub, Int.reduceMul, Int.reduceNeg, Int.reduceMod, Int.reduceDiv, Int.reduceTMod, Int.reduceTDiv, Int.reduceToNat, okChain_i, okLoads_nil, okLoads_in, okLoads_eq]
      rfl
    all_goals simp (maxDischargeDepth := 8) only [r3, r5, r7, r8, r27, r28, r29, RUN, Ed, knd, kndR, resV, binInt, mnmxV, mnmx2, fillL, unV, lenV, extractV, partV, loadAt, Nat.reduceAdd, Nat.reduceBEq, Nat.reduceEqDiff, Nat.reduceLT, Nat.reduceLeDiff, Nat.reduceMul, Nat.reduceSub, reduceIte, Int.reduceEq, Int.reduceNe, Int.reduceLT, Int.reduceLE, Int.reduceAdd, Int.reduceSub, Int.reduceMul, Int.reduceNeg, Int.reduceMod, Int.reduceDiv, Int.reduceTMod, Int.reduceTDiv, Int.reduceToNat, okChain_i, okLoads_nil, okLoads_in, okLoads_eq]
def app (f : Bool) (v : Int) (L : List Int) : List Int := if f = true then L ++ [v] else L
theorem app_len (f : Bool) (v : Int) (L : List Int) : (app f v L).length ≤ L.length + 1 := by unfold app; split <;> simp
def fresh4 (v0 v1 v2 v3 : Int) (f0 f1 f2 f3 : Bool) : List Int := app f3 v3 (app f2 v2 (app f1 v1 (app f0 v0 [])))
def cells8 (v0 v1 v2 v3 : Int) (f0 f1 f2 f3 : Bool) : List Value := [.int .i64 v0, .bool f0, .int .i64 v1, .bool f1, .int .i64 v2, .bool f2, .int .i64 v3, .bool f3]
def w14 : RCode := .seq (.seq (.region c14_23) (.cond (.tmp 69) (.region c14_24) .skip)) (.seq (.seq (.region c14_25) (.cond (.tmp 79) (.region c14_26) .skip)) (.seq (.region c14_27) .ret))
def u14 : RCode := .seq (.seq (.region c14_9) (.block 2 (.loop l14_2))) w14
theorem b14t : b14 = .seq (.region c14_0) (.seq (.region c14_1) (.seq (.region c14_2) (.seq (.seq (.region c14_3) (.block 0 (.loop l14_0))) u14))) := (rfl)
theorem flags_f (cf : List Value) (mn mx gap tm tv : Int) (hcf : Cf cf mn mx gap tm) (hcl : cf.length = 27) (hone : cf.all Value.oneCell' = true) (hg : -1000000 ≤ gap ∧ gap ≤ 1000000) (hT : ¬ tm < tv) (v0 v1 v2 v3 : Int) (f0 f1 f2 f3 : Bool) (hI : In6 (fresh4 v0 v1 v2 v3 f0 f1 f2 f3)) (h3 : 3 ≤ (fresh4 v0 v1 v2 v3 f0 f1 f2 f3).length) (H : Heap) :
    ∃ X, D Try.prog hints 14 [.agg ⟨cf⟩, .agg ⟨cells8 v0 v1 v2 v3 f0 f1 f2 f3⟩, .agg ⟨[.int .i64 tv, .bool true]⟩] H = some (.int .i64 (e3 (uP (fresh4 v0 v1 v2 v3 f0 f1 f2 f3) mn) (oP (fresh4 v0 v1 v2 v3 f0 f1 f2 f3) mx) (gP (fresh4 v0 v1 v2 v3 f0 f1 f2 f3) (fresh4 v0 v1 v2 v3 f0 f1 f2 f3) gap)), H ++ X) := by
  obtain ⟨H1, hH1⟩ : ∃ H1, H1 = H ++ [some ⟨true, 26, cf⟩, some ⟨true, 30, cells8 v0 v1 v2 v3 f0 f1 f2 f3⟩, some ⟨true, 29, [.int .i64 tv, .bool true]⟩] := ⟨_, rfl⟩
  have k3 : live H1 H.length = some ⟨true, 26, cf⟩ := by rw [hH1]; exact (live_app_len _ _).trans rfl
  have k4 : live H1 (H.length + 1) = some ⟨true, 30, cells8 v0 v1 v2 v3 f0 f1 f2 f3⟩ := by rw [hH1]; exact (live_app_add _ _ _).trans rfl
  have k5 : live H1 (H.length + 2) = some ⟨true, 29, [.int .i64 tv, .bool true]⟩ := by rw [hH1]; exact (live_app_add _ _ _).trans rfl
  have i3 := live_lt k3
  have i4 := live_lt k4
  have i5 := live_lt k5
  have key : ∀ ρ, S14 H.length (H.length + 2) (cells8 v0 v1 v2 v3 f0 f1 f2 f3) 0 (.slice none 0 0) ρ → ∃ X, done [.tmp 6] (andThen (blk 0 (E Try.prog hints (.loop l14_0) ρ H1)) (E Try.prog hints u14)) = some (.int .i64 (e3 (uP (fresh4 v0 v1 v2 v3 f0 f1 f2 f3) mn) (oP (fresh4 v0 v1 v2 v3 f0 f1 f2 f3) mx) (gP (fresh4 v0 v1 v2 v3 f0 f1 f2 f3) (fresh4 v0 v1 v2 v3 f0 f1 f2 f3) gap)), H ++ X) := by
    intro ρ hs
    obtain ⟨ρ1, G1, w1, e1, s1, m1⟩ := round14 H1 H.length (H.length + 2) _ 0 1 (by decide) (by decide) v0 f0 rfl _ [] (by simp) ρ H1 hs ⟨⟨[], by simp⟩, .inl ⟨rfl, rfl⟩⟩
    have n1 := app_len f0 v0 []
    obtain ⟨ρ2, G2, w2, e2, s2, m2⟩ := round14 H1 H.length (H.length + 2) _ 1 2 (by decide) (by decide) v1 f1 rfl _ (app f0 v0 []) (by simp at n1 ⊢; omega) ρ1 G1 s1 m1
    have n2 := app_len f1 v1 (app f0 v0 [])
    obtain ⟨ρ3, G3, w3, e3', s3, m3⟩ := round14 H1 H.length (H.length + 2) _ 2 3 (by decide) (by decide) v2 f2 rfl _ (app f1 v1 (app f0 v0 [])) (by simp at n1 n2 ⊢; omega) ρ2 G2 s2 m2
    have n3 := app_len f2 v2 (app f1 v1 (app f0 v0 []))
    obtain ⟨ρ4, G4, w4, e4, s4, m4⟩ := round14 H1 H.length (H.length + 2) _ 3 4 (by decide) (by decide) v3 f3 rfl _ (app f2 v2 (app f1 v1 (app f0 v0 []))) (by simp at n1 n2 n3 ⊢; omega) ρ3 G3 s3 m3
    have n4 := app_len f3 v3 (app f2 v2 (app f1 v1 (app f0 v0 [])))
    have hL : (fresh4 v0 v1 v2 v3 f0 f1 f2 f3).length ≤ 10 := by unfold fresh4; simp at n1; omega
    have m4 : SL H1 G4 w4 (fresh4 v0 v1 v2 v3 f0 f1 f2 f3) := m4
    rw [El, e1, andThen_n, El, e2, andThen_n, El, e3', andThen_n, El, e4, andThen_n, El]
    generalize fresh4 v0 v1 v2 v3 f0 f1 f2 f3 = L at *
    obtain ⟨r3, r5, r7, r8, r15, r16⟩ := s4
    have l1 := m4.len
    obtain ⟨⟨X, hX⟩, hv⟩ := m4
    have k3' : live G4 H.length = some ⟨true, 26, cf⟩ := by rw [hX, live_app _ _ _ i3]; exact k3
    have k5' : live G4 (H.length + 2) = some ⟨true, 29, [.int .i64 tv, .bool true]⟩ := by rw [hX, live_app _ _ _ i5]; exact k5
    have i3' := live_lt k3'
    have i5' := live_lt k5'
    have key2 : ∀ ρ, T14 H.length (H.length + 2) w4 L.length 0 (e3 false false false) ρ → ∃ X, done [.tmp 6] (andThen (blk 2 (E Try.prog hints (.loop l14_2) ρ G4)) (E Try.prog hints w14)) = some (.int .i64 (e3 (uP L mn) (oP L mx) (gP L L gap)), H ++ X) := by
      intro ρ hs
      obtain ⟨ρ5, G5, e5, ⟨t3, t5, t7, t8, t27, t28, t29⟩, rfl⟩ := outer14 H1 H.length (H.length + 2) w4 L hL hI cf mn mx gap tm hcf hg ρ G4 hs ⟨⟨X, hX⟩, hv⟩ k3'
      rw [e5]
      have hc14 := hcf.c14
      have hl3 : ¬ ((L.length : Int) < 3) := by omega
      refine ⟨[some ⟨true, 26, cf⟩, some ⟨true, 30, cells8 v0 v1 v2 v3 f0 f1 f2 f3⟩, some ⟨true, 29, [.int .i64 tv, .bool true]⟩] ++ X, ?_⟩
      rw [← List.append_assoc, ← hH1, ← hX]
      simp (maxDischargeDepth := 8) only [w14, c14_23, c14_24, c14_25, c14_26, c14_27, t3, t5, t7, t8, k3', k5', i3', i5', hc14, hT, l1, hl3, RUN, Ed, knd, kndR, resV, binInt, mnmxV, mnmx2, fillL, unV, extractV, partV, loadAt, Nat.reduceAdd, Nat.reduceBEq, Nat.reduceEqDiff, Nat.reduceLT, Nat.reduceLeDiff, Nat.reduceMul, Nat.reduceSub, reduceIte, Int.reduceEq, Int.reduceNe, Int.reduceLT, Int.reduceLE, Int.reduceAdd, Int.reduceSub, Int.reduceMul, Int.reduceNeg, Int.reduceMod, Int.reduceDiv, Int.reduceTMod, Int.reduceTDiv, Int.reduceToNat, okChain_i, okLoads_nil, okLoads_in, okLoads_eq]
    simp (maxDischargeDepth := 8) only [l14_0, c14_4, u14, c14_9, r3, r5, r7, r8, r15, r16, l1, RUN, Ed, knd, kndR, resV, binInt, mnmxV, mnmx2, fillL, unV, extractV, partV, loadAt, Nat.reduceAdd, Nat.reduceBEq, Nat.reduceEqDiff, Nat.reduceLT, Nat.reduceLeDiff, Nat.reduceMul, Nat.reduceSub, reduceIte, Int.reduceEq, Int.reduceNe, Int.reduceLT, Int.reduceLE, Int.reduceAdd, Int.reduceSub, Int.reduceMul, Int.reduceNeg, Int.reduceMod, Int.reduceDiv, Int.reduceTMod, Int.reduceTDiv, Int.reduceToNat, okChain_i, okLoads_nil, okLoads_in, okLoads_eq]
    refine key2 _ ⟨?_, ?_, ?_, ?_, ?_, ?_, ?_⟩
    all_goals first | (simp (maxDischargeDepth := 8) only [r3, r5, r7, r8, r15, r16, RUN, Ed, knd, kndR, resV, binInt, mnmxV, mnmx2, fillL, unV, lenV, extractV, partV, loadAt, Nat.reduceAdd, Nat.reduceBEq, Nat.reduceEqDiff, Nat.reduceLT, Nat.reduceLeDiff, Nat.reduceMul, Nat.reduceSub, reduceIte, Int.reduceEq, Int.reduceNe, Int.reduceLT, Int.reduceLE, Int.reduceAdd, Int.reduceSub, Int.reduceMul, Int.reduceNeg, Int.reduceMod, Int.reduceDiv, Int.reduceTMod, Int.reduceTDiv, Int.reduceToNat, okChain_i, okLoads_nil, okLoads_in, okLoads_eq]; done) | (simp (maxDischargeDepth := 8) only [r3, r5, r7, r8, r15, r16, RUN, Ed, knd, kndR, resV, binInt, mnmxV, mnmx2, fillL, unV, lenV, extractV, partV, loadAt, Nat.reduceAdd, Nat.reduceBEq, Nat.reduceEqDiff, Nat.reduceLT, Nat.reduceLeDiff, Nat.reduceMul, Nat.reduceSub, reduceIte, Int.reduceEq, Int.reduceNe, Int.reduceLT, Int.reduceLE, Int.reduceAdd, Int.reduceSub, Int.reduceMul, Int.reduceNeg, Int.reduceMod, Int.reduceDiv, Int.reduceTMod, Int.reduceTDiv, Int.reduceToNat, okChain_i, okLoads_nil, okLoads_in, okLoads_eq]; rfl)
  rw [D_eq p14 _ _ (Nat.le_of_ble_eq_true rfl)]
  have hc8 : (cells8 v0 v1 v2 v3 f0 f1 f2 f3).length = 8 := rfl
  have ht8 : (cells8 v0 v1 v2 v3 f0 f1 f2 f3).take 8 = cells8 v0 v1 v2 v3 f0 f1 f2 f3 := rfl
  simp (maxDischargeDepth := 8) only [r14, b14t, c14_0, c14_1, c14_2, c14_3, ← hH1, k4, i4, hc8, ht8, hone, hcl, RUN, Ed, knd, kndR, resV, binInt, mnmxV, mnmx2, fillL, unV, lenV, extractV, partV, loadAt, Nat.reduceAdd, Nat.reduceBEq, Nat.reduceEqDiff, Nat.reduceLT, Nat.reduceLeDiff, Nat.reduceMul, Nat.reduceSub, reduceIte, Int.reduceEq, Int.reduceNe, Int.reduceLT, Int.reduceLE, Int.reduceAdd, Int.reduceSub, Int.reduceMul, Int.reduceNeg, Int.reduceMod, Int.reduceDiv, Int.reduceTMod, Int.reduceTDiv, Int.reduceToNat, okChain_i, okLoads_nil, okLoads_in, okLoads_eq]
  refine key _ ⟨?_, ?_, ?_, ?_, ?_, ?_⟩
  all_goals first | (simp (maxDischargeDepth := 8) only [RUN, Ed, knd, kndR, resV, binInt, mnmxV, mnmx2, fillL, unV, lenV, extractV, partV, loadAt, Nat.reduceAdd, Nat.reduceBEq, Nat.reduceEqDiff, Nat.reduceLT, Nat.reduceLeDiff, Nat.reduceMul, Nat.reduceSub, reduceIte, Int.reduceEq, Int.reduceNe, Int.reduceLT, Int.reduceLE, Int.reduceAdd, Int.reduceSub, Int.reduceMul, Int.reduceNeg, Int.reduceMod, Int.reduceDiv, Int.reduceTMod, Int.reduceTDiv, Int.reduceToNat, okChain_i, okLoads_nil, okLoads_in, okLoads_eq]; done) | (simp (maxDischargeDepth := 8) only [RUN, Ed, knd, kndR, resV, binInt, mnmxV, mnmx2, fillL, unV, lenV, extractV, partV, loadAt, Nat.reduceAdd, Nat.reduceBEq, Nat.reduceEqDiff, Nat.reduceLT, Nat.reduceLeDiff, Nat.reduceMul, Nat.reduceSub, reduceIte, Int.reduceEq, Int.reduceNe, Int.reduceLT, Int.reduceLE, Int.reduceAdd, Int.reduceSub, Int.reduceMul, Int.reduceNeg, Int.reduceMod, Int.reduceDiv, Int.reduceTMod, Int.reduceTDiv, Int.reduceToNat, okChain_i, okLoads_nil, okLoads_in, okLoads_eq]; rfl)
theorem bad8_f (H : Heap) : D Try.prog hints 27 [.int .i64 8] H = some (.bool true, H) := by
  have e : IntKind.i64.wrap (BitVec.ofInt IntKind.i64.bits 8 &&& BitVec.ofInt IntKind.i64.bits 15).toNat = 8 := by decide
  rw [D_eq p27 _ _ (Nat.le_of_ble_eq_true rfl)]
  simp (maxDischargeDepth := 8) only [r27, b27, c27_0, c27_1, e, RUN, Ed, knd, kndR, resV, binInt, mnmxV, mnmx2, fillL, unV, lenV, extractV, partV, loadAt, Nat.reduceAdd, Nat.reduceBEq, Nat.reduceEqDiff, Nat.reduceLT, Nat.reduceLeDiff, Nat.reduceMul, Nat.reduceSub, reduceIte, Int.reduceEq, Int.reduceNe, Int.reduceLT, Int.reduceLE, Int.reduceAdd, Int.reduceSub, Int.reduceMul, Int.reduceNeg, Int.reduceMod, Int.reduceDiv, Int.reduceTMod, Int.reduceTDiv, Int.reduceToNat, okChain_i, okLoads_nil, okLoads_in, okLoads_eq]
theorem bad16_f (H : Heap) : D Try.prog hints 27 [.int .i64 16] H = some (.bool false, H) := by
  have e : IntKind.i64.wrap (BitVec.ofInt IntKind.i64.bits 16 &&& BitVec.ofInt IntKind.i64.bits 15).toNat = 0 := by decide
  rw [D_eq p27 _ _ (Nat.le_of_ble_eq_true rfl)]
  simp (maxDischargeDepth := 8) only [r27, b27, c27_0, c27_1, e, RUN, Ed, knd, kndR, resV, binInt, mnmxV, mnmx2, fillL, unV, lenV, extractV, partV, loadAt, Nat.reduceAdd, Nat.reduceBEq, Nat.reduceEqDiff, Nat.reduceLT, Nat.reduceLeDiff, Nat.reduceMul, Nat.reduceSub, reduceIte, Int.reduceEq, Int.reduceNe, Int.reduceLT, Int.reduceLE, Int.reduceAdd, Int.reduceSub, Int.reduceMul, Int.reduceNeg, Int.reduceMod, Int.reduceDiv, Int.reduceTMod, Int.reduceTDiv, Int.reduceToNat, okChain_i, okLoads_nil, okLoads_in, okLoads_eq]
def zcf : List Value := [.int .i64 0, .int .i64 0, .int .i64 0, .int .i64 0, .int .i64 0, .int .i64 0, .int .i64 0, .int .i64 0, .int .i64 0, .int .i64 0, .int .i64 0, .int .i64 0, .int .i64 0, .int .i64 0, .int .i64 0, .int .i64 0, .int .i64 0, .int .i64 0, .int .i64 0, .int .i64 0, .slice none 0 0, .int .i64 0, .int .i64 0, .int .i64 0, .int .i64 0, .int .i64 0, .slice none 0 0]
theorem flags0_f (H : Heap) : ∃ X, D Try.prog hints 14 [.agg ⟨zcf⟩, .agg ⟨cells8 0 0 0 0 false false false false⟩, .agg ⟨[.int .i64 0, .bool false]⟩] H = some (.int .i64 16, H ++ X) := by
  have q : IntKind.i64.wrap (BitVec.ofInt IntKind.i64.bits 0 ||| BitVec.ofInt IntKind.i64.bits 16).toNat = 16 := by decide
  have p0 : idxVV true 4 2 (.agg ⟨cells8 0 0 0 0 false false false false⟩) (.int .i64 0) = some (.agg ⟨[.int .i64 0, .bool false]⟩) := rfl
  have p1 : idxVV true 4 2 (.agg ⟨cells8 0 0 0 0 false false false false⟩) (.int .i64 1) = some (.agg ⟨[.int .i64 0, .bool false]⟩) := rfl
  have p2 : idxVV true 4 2 (.agg ⟨cells8 0 0 0 0 false false false false⟩) (.int .i64 2) = some (.agg ⟨[.int .i64 0, .bool false]⟩) := rfl
  have p3 : idxVV true 4 2 (.agg ⟨cells8 0 0 0 0 false false false false⟩) (.int .i64 3) = some (.agg ⟨[.int .i64 0, .bool false]⟩) := rfl
  simp only [cells8] at p0 p1 p2 p3 ⊢
  refine ⟨?X, ?run⟩
  case run =>
    rw [D_eq p14 _ _ (Nat.le_of_ble_eq_true rfl)]
    simp (maxDischargeDepth := 8) only [zcf, r14, b14, c14_0, c14_1, c14_2, c14_3, RUN, Ed, knd, kndR, resV, binInt, mnmxV, mnmx2, fillL, unV, lenV, extractV, partV, loadAt, Nat.reduceAdd, Nat.reduceBEq, Nat.reduceEqDiff, Nat.reduceLT, Nat.reduceLeDiff, Nat.reduceMul, Nat.reduceSub, reduceIte, Int.reduceEq, Int.reduceNe, Int.reduceLT, Int.reduceLE, Int.reduceAdd, Int.reduceSub, Int.reduceMul, Int.reduceNeg, Int.reduceMod, Int.reduceDiv, Int.reduceTMod, Int.reduceTDiv, Int.reduceToNat, okChain_i, okLoads_nil, okLoads_in, okLoads_eq]
    rw [El]
    simp (maxDischargeDepth := 8) only [l14_0, c14_4, c14_5, c14_6, c14_8, p0, RUN, Ed, knd, kndR, resV, binInt, mnmxV, mnmx2, fillL, unV, lenV, extractV, partV, loadAt, Nat.reduceAdd, Nat.reduceBEq, Nat.reduceEqDiff, Nat.reduceLT, Nat.reduceLeDiff, Nat.reduceMul, Nat.reduceSub, reduceIte, Int.reduceEq, Int.reduceNe, Int.reduceLT, Int.reduceLE, Int.reduceAdd, Int.reduceSub, Int.reduceMul, Int.reduceNeg, Int.reduceMod, Int.reduceDiv, Int.reduceTMod, Int.reduceTDiv, Int.reduceToNat, okChain_i, okLoads_nil, okLoads_in, okLoads_eq]
    rw [El]
    simp (maxDischargeDepth := 8) only [l14_0, c14_4, c14_5, c14_6, c14_8, p1, RUN, Ed, knd, kndR, resV, binInt, mnmxV, mnmx2, fillL, unV, lenV, extractV, partV, loadAt, Nat.reduceAdd, Nat.reduceBEq, Nat.reduceEqDiff, Nat.reduceLT, Nat.reduceLeDiff, Nat.reduceMul, Nat.reduceSub, reduceIte, Int.reduceEq, Int.reduceNe, Int.reduceLT, Int.reduceLE, Int.reduceAdd, Int.reduceSub, Int.reduceMul, Int.reduceNeg, Int.reduceMod, Int.reduceDiv, Int.reduceTMod, Int.reduceTDiv, Int.reduceToNat, okChain_i, okLoads_nil, okLoads_in, okLoads_eq]
    rw [El]
    simp (maxDischargeDepth := 8) only [l14_0, c14_4, c14_5, c14_6, c14_8, p2, RUN, Ed, knd, kndR, resV, binInt, mnmxV, mnmx2, fillL, unV, lenV, extractV, partV, loadAt, Nat.reduceAdd, Nat.reduceBEq, Nat.reduceEqDiff, Nat.reduceLT, Nat.reduceLeDiff, Nat.reduceMul, Nat.reduceSub, reduceIte, Int.reduceEq, Int.reduceNe, Int.reduceLT, Int.reduceLE, Int.reduceAdd, Int.reduceSub, Int.reduceMul, Int.reduceNeg, Int.reduceMod, Int.reduceDiv, Int.reduceTMod, Int.reduceTDiv, Int.reduceToNat, okChain_i, okLoads_nil, okLoads_in, okLoads_eq]
    rw [El]
    simp (maxDischargeDepth := 8) only [l14_0, c14_4, c14_5, c14_6, c14_8, p3, RUN, Ed, knd, kndR, resV, binInt, mnmxV, mnmx2, fillL, unV, lenV, extractV, partV, loadAt, Nat.reduceAdd, Nat.reduceBEq, Nat.reduceEqDiff, Nat.reduceLT, Nat.reduceLeDiff, Nat.reduceMul, Nat.reduceSub, reduceIte, Int.reduceEq, Int.reduceNe, Int.reduceLT, Int.reduceLE, Int.reduceAdd, Int.reduceSub, Int.reduceMul, Int.reduceNeg, Int.reduceMod, Int.reduceDiv, Int.reduceTMod, Int.reduceTDiv, Int.reduceToNat, okChain_i, okLoads_nil, okLoads_in, okLoads_eq]
    rw [El]
    simp (maxDischargeDepth := 8) only [l14_0, c14_4, c14_9, RUN, Ed, knd, kndR, resV, binInt, mnmxV, mnmx2, fillL, unV, lenV, extractV, partV, loadAt, Nat.reduceAdd, Nat.reduceBEq, Nat.reduceEqDiff, Nat.reduceLT, Nat.reduceLeDiff, Nat.reduceMul, Nat.reduceSub, reduceIte, Int.reduceEq, Int.reduceNe, Int.reduceLT, Int.reduceLE, Int.reduceAdd, Int.reduceSub, Int.reduceMul, Int.reduceNeg, Int.reduceMod, Int.reduceDiv, Int.reduceTMod, Int.reduceTDiv, Int.reduceToNat, okChain_i, okLoads_nil, okLoads_in, okLoads_eq]
    rw [El]
    simp (maxDischargeDepth := 8) only [l14_2, c14_10, c14_23, c14_24, c14_25, c14_26, c14_27, Int.natCast_zero, q, RUN, Ed, knd, kndR, resV, binInt, mnmxV, mnmx2, fillL, unV, lenV, extractV, partV, loadAt, Nat.reduceAdd, Nat.reduceBEq, Nat.reduceEqDiff, Nat.reduceLT, Nat.reduceLeDiff, Nat.reduceMul, Nat.reduceSub, reduceIte, Int.reduceEq, Int.reduceNe, Int.reduceLT, Int.reduceLE, Int.reduceAdd, Int.reduceSub, Int.reduceMul, Int.reduceNeg, Int.reduceMod, Int.reduceDiv, Int.reduceTMod, Int.reduceTDiv, Int.reduceToNat, okChain_i, okLoads_nil, okLoads_in, okLoads_eq]
    rfl
theorem firstC_f (H : Heap) : ∃ X, D Try.prog hints 12 [] H = some (.bool true, H ++ X) := by
  obtain ⟨X, e⟩ := flags0_f H
  have e1 := fun G => bad8_f G
  have e2 := fun G => bad16_f G
  simp only [cells8, zcf] at e
  refine ⟨X, ?_⟩
  rw [D_eq p12 _ _ (Nat.le_of_ble_eq_true rfl)]
  simp (maxDischargeDepth := 8) only [r12, b12, c12_0, c12_1, e, e1, e2, RUN, Ed, knd, kndR, resV, binInt, mnmxV, mnmx2, fillL, unV, lenV, extractV, partV, loadAt, Nat.reduceAdd, Nat.reduceBEq, Nat.reduceEqDiff, Nat.reduceLT, Nat.reduceLeDiff, Nat.reduceMul, Nat.reduceSub, reduceIte, Int.reduceEq, Int.reduceNe, Int.reduceLT, Int.reduceLE, Int.reduceAdd, Int.reduceSub, Int.reduceMul, Int.reduceNeg, Int.reduceMod, Int.reduceDiv, Int.reduceTMod, Int.reduceTDiv, Int.reduceToNat, okChain_i, okLoads_nil, okLoads_in, okLoads_eq]
end Go.Proofs.Ytncpbbdgckkdmaa.Sim
