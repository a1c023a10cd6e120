/- The laws of chapter 4: covers of so many. -/
import Derived.Test.YtbamnfladjkkcaaVot7
import Derived.Test.YtbamnfladjkkcaaSim21
namespace Go.Proofs.Ytbamnfladjkkcaa.Sim
open Go
set_option linter.unusedSimpArgs false
set_option linter.unusedVariables false
structure C14 (w : Value) (n : Nat) (fa fb fl fo : Bool) (pa pb pl po ph pm : Nat) (may : Bool) (i : Nat) (ρ : Fr) : Prop where
  q5 : ρ 5 = .bool true
  q6 : ρ 6 = w
  q7 : ρ 7 = .int .i64 n
  q8 : ρ 8 = .pointer (some ⟨pa, 0, none⟩)
  q9 : ρ 9 = .bool fa
  q10 : ρ 10 = .pointer (some ⟨pb, 0, none⟩)
  q11 : ρ 11 = .bool fb
  q12 : ρ 12 = .pointer (some ⟨pl, 0, none⟩)
  q13 : ρ 13 = .bool fl
  q14 : ρ 14 = .pointer (some ⟨po, 0, none⟩)
  q15 : ρ 15 = .bool fo
  q16 : ρ 16 = .pointer (some ⟨ph, 0, none⟩)
  q17 : ρ 17 = .pointer (some ⟨pm, 0, none⟩)
  q18 : ρ 18 = .bool may
  q19 : ρ 19 = .int .i64 i
structure M14 (G0 : Heap) (ph pm : Nat) (h m : Sp) (G : Heap) : Prop where
  ext : Ext G0 G
  hp : G0.length ≤ ph
  hm : G0.length ≤ pm
  ne : ph ≠ pm
  kh : live G ph = some ⟨true, 65, sL h⟩
  km : live G pm = some ⟨true, 65, sL m⟩
theorem M14.app {G0 : Heap} {ph pm : Nat} {h m : Sp} {G : Heap} (x : M14 G0 ph pm h m G) (Y : Heap) : M14 G0 ph pm h m (G ++ Y) := ⟨x.ext.app Y, x.hp, x.hm, x.ne, live_more0 x.kh Y, live_more0 x.km Y⟩
theorem M14.puth {G0 : Heap} {ph pm : Nat} {h m : Sp} {G : Heap} (x : M14 G0 ph pm h m G) (h' : Sp) : M14 G0 ph pm h' m (G.set ph (some ⟨true, 65, sL h'⟩)) :=
  ⟨x.ext.set x.hp _, x.hp, x.hm, x.ne, live_set_eq _ _ _ (live_ltG x.kh), live_put x.km x.ne _⟩
theorem M14.putm {G0 : Heap} {ph pm : Nat} {h m : Sp} {G : Heap} (x : M14 G0 ph pm h m G) (m' : Sp) : M14 G0 ph pm h m' (G.set pm (some ⟨true, 65, sL m'⟩)) :=
  ⟨x.ext.set x.hm _, x.hp, x.hm, x.ne, live_put x.kh x.ne.symm _, live_set_eq _ _ _ (live_ltG x.km)⟩
def v14 : RCode := (.seq (.draw c14_19) (.seq (.region c14_20) (.seq (.region c14_21) (.seq (.region c14_22) (.cond (.tmp 102) (.region c14_23) .skip)))))
theorem round14 (w : Value) (L : List Sp) (hL : L.length ≤ 1000) (fa fb fl fo : Bool) (pa pb pl po ph pm : Nat) (G0 : Heap) (hS : SS G0 w L) (may : Bool) (i : Nat) (s : Sp) (hi : L[i]? = some s) (h m : Sp) (ρ : Fr) (G : Heap)
    (hs : C14 w L.length fa fb fl fo pa pb pl po ph pm may i ρ) (hm : M14 G0 ph pm h m G) :
    ∃ ρ' G', E Try.prog hints l14_0 ρ G = some (.normal, ρ', G') ∧ C14 w L.length fa fb fl fo pa pb pl po ph pm (stepM (m, may) s).2 (i + 1) ρ' ∧ M14 G0 ph pm (hull h s) (stepM (m, may) s).1 G' := by
  obtain ⟨q5, q6, q7, q8, q9, q10, q11, q12, q13, q14, q15, q16, q17, q18, q19⟩ := hs
  obtain ⟨c, x1, x2, x3, x4, x5, x6⟩ := (hS.ext hm.ext).idx hi
  have hil : i < L.length := by
    rcases Nat.lt_or_ge i L.length with q | q
    · exact q
    · rw [List.getElem?_eq_none q] at hi; cases hi
  have hlt : (i : Int) < (L.length : Int) := by omega
  have w1 := wrap64 ((i : Int) + 1) (by omega) (by omega)
  have i1 := live_ltG x2
  have kh := hm.kh
  have km := hm.km
  have ih := live_ltG kh
  have im := live_ltG km
  have ne1 := hm.ne
  have ne2 := hm.ne.symm
  have hc0 : c < G0.length := by
    rcases hS.idx hi with ⟨c', y1, y2, _⟩
    rw [x1] at y1
    injection y1 with y1; injection y1 with y1; injection y1 with y1; injection y1 with y1
    rw [y1]; exact live_ltG y2
  have ne3 : ph ≠ c := by have := hm.hp; omega
  have ne4 : pm ≠ c := by have := hm.hm; omega
  have e44 := fun F => hull2_f h s F
  have hz : [Value.int .i64 0, Value.int .i64 0] = sL (0, 0) := rfl
  have hm1 := (hm.puth (hull h s)).app [some ⟨true, 65, sL h⟩, some ⟨true, 65, sL s⟩, some ⟨true, 65, sL (hull h s)⟩]
  have x2' : live (G.set ph (some ⟨true, 65, sL (hull h s)⟩) ++ [some ⟨true, 65, sL h⟩, some ⟨true, 65, sL s⟩, some ⟨true, 65, sL (hull h s)⟩]) c = some ⟨true, 65, spL L⟩ := live_more0 (live_put x2 ne3 _) _
  obtain ⟨X, e45⟩ := meet_f m s (G.set ph (some ⟨true, 65, sL (hull h s)⟩) ++ [some ⟨true, 65, sL h⟩, some ⟨true, 65, sL s⟩, some ⟨true, 65, sL (hull h s)⟩])
  have hl : l14_0 = (.seq (.seq (.region c14_17) (.cond (.tmp 78) .skip (.exit 0))) (.seq (.block 1 (.seq (.draw c14_18) v14)) (.region c14_24))) := rfl
  rw [hl]
  simp only [stepM]
  have key : ∀ ρ1 F, ρ1 5 = .bool true → ρ1 6 = w → ρ1 7 = .int .i64 L.length → ρ1 8 = .pointer (some ⟨pa, 0, none⟩) → ρ1 9 = .bool fa → ρ1 10 = .pointer (some ⟨pb, 0, none⟩) → ρ1 11 = .bool fb → ρ1 12 = .pointer (some ⟨pl, 0, none⟩) → ρ1 13 = .bool fl → ρ1 14 = .pointer (some ⟨po, 0, none⟩) → ρ1 15 = .bool fo → ρ1 16 = .pointer (some ⟨ph, 0, none⟩) → ρ1 17 = .pointer (some ⟨pm, 0, none⟩) → ρ1 18 = .bool may → ρ1 19 = .int .i64 i → M14 G0 ph pm (hull h s) m F → (∃ X, F = G.set ph (some ⟨true, 65, sL (hull h s)⟩) ++ X) → D Try.prog hints 45 [.agg ⟨sL m⟩, .agg ⟨sL s⟩] F = some (.tuple ⟨[.agg ⟨sL (meetP m s).1⟩, .bool (meetP m s).2]⟩, F ++ X) →
      ∃ ρ' G', andThen (blk 1 (E Try.prog hints v14 ρ1 F)) (E Try.prog hints (.region c14_24)) = some (.normal, ρ', G') ∧ C14 w L.length fa fb fl fo pa pb pl po ph pm (may && (meetP m s).2) (i + 1) ρ' ∧ M14 G0 ph pm (hull h s) (if (meetP m s).2 = true then (meetP m s).1 else s) G' := by
    intro ρ1 F z5 z6 z7 z8 z9 z10 z11 z12 z13 z14 z15 z16 z17 z18 z19 hF hFe e45
    obtain ⟨Y, hY⟩ := hFe
    have y2 : live F c = some ⟨true, 65, spL L⟩ := by rw [hY]; exact live_more0 (live_put x2 ne3 _) _
    have j1 := live_ltG y2
    have jm := live_ltG hF.km
    have kmF := hF.km
    generalize meetP m s = mm at *
    obtain ⟨mo, mf⟩ := mm
    simp only at e45 ⊢
    have hF2 := (hF.app X).app [some ⟨true, 65, sL mo⟩]
    cases mf
    · cases may
      · refine ⟨?ρ1, ?G1, ?run1, ⟨?_, ?_, ?_, ?_, ?_, ?_, ?_, ?_, ?_, ?_, ?_, ?_, ?_, ?_, ?_⟩, ?inv1⟩
        case run1 =>
          simp (maxDischargeDepth := 8) only [v14, c14_19, c14_20, c14_21, c14_22, c14_23, c14_24, z5, z6, z7, z8, z9, z10, z11, z12, z13, z14, z15, z16, z17, z18, z19, x1, y2, x3, x4, j1, jm, kmF, ne4, hz, e45, w1, fullOf_appG, fullOf_mapG, List.length_map, sL_len, sL_one, sL_take, sL_put, RUN, Ed, knd, kndR, resV, binInt, mnmxV, mnmx2, fillL, unV, lenV, extractV, partV, loadAt, Nat.reduceAdd, Nat.reduceBEq, Nat.reduceEqDiff, Nat.reduceLT, Nat.reduceLeDiff, Nat.reduceMul, Nat.reduceSub, reduceIte, Int.reduceEq, Int.reduceNe, Int.reduceLT, Int.reduceLE, Int.reduceAdd, Int.reduceSub, Int.reduceMul, Int.reduceNeg, Int.reduceMod, Int.reduceDiv, Int.reduceTMod, Int.reduceTDiv, Int.reduceToNat, okChain_i, okLoads_nil, okLoads_in, okLoads_eq]
          rfl
        case inv1 => exact (hF.putm _).app _
        all_goals first | (simp (maxDischargeDepth := 8) only [z5, z6, z7, z8, z9, z10, z11, z12, z13, z14, z15, z16, z17, z18, z19, RUN, Ed, knd, kndR, resV, binInt, mnmxV, mnmx2, fillL, unV, lenV, extractV, partV, loadAt, Nat.reduceAdd, Nat.reduceBEq, Nat.reduceEqDiff, Nat.reduceLT, Nat.reduceLeDiff, Nat.reduceMul, Nat.reduceSub, reduceIte, Int.reduceEq, Int.reduceNe, Int.reduceLT, Int.reduceLE, Int.reduceAdd, Int.reduceSub, Int.reduceMul, Int.reduceNeg, Int.reduceMod, Int.reduceDiv, Int.reduceTMod, Int.reduceTDiv, Int.reduceToNat, okChain_i, okLoads_nil, okLoads_in, okLoads_eq]; done) | (simp (maxDischargeDepth := 8) only [z5, z6, z7, z8, z9, z10, z11, z12, z13, z14, z15, z16, z17, z18, z19, RUN, Ed, knd, kndR, resV, binInt, mnmxV, mnmx2, fillL, unV, lenV, extractV, partV, loadAt, Nat.reduceAdd, Nat.reduceBEq, Nat.reduceEqDiff, Nat.reduceLT, Nat.reduceLeDiff, Nat.reduceMul, Nat.reduceSub, reduceIte, Int.reduceEq, Int.reduceNe, Int.reduceLT, Int.reduceLE, Int.reduceAdd, Int.reduceSub, Int.reduceMul, Int.reduceNeg, Int.reduceMod, Int.reduceDiv, Int.reduceTMod, Int.reduceTDiv, Int.reduceToNat, okChain_i, okLoads_nil, okLoads_in, okLoads_eq]; rfl)
      · refine ⟨?ρ2, ?G2, ?run2, ⟨?_, ?_, ?_, ?_, ?_, ?_, ?_, ?_, ?_, ?_, ?_, ?_, ?_, ?_, ?_⟩, ?inv2⟩
        case run2 =>
          simp (maxDischargeDepth := 8) only [v14, c14_19, c14_20, c14_21, c14_22, c14_23, c14_24, z5, z6, z7, z8, z9, z10, z11, z12, z13, z14, z15, z16, z17, z18, z19, x1, y2, x3, x4, j1, jm, kmF, ne4, hz, e45, w1, fullOf_appG, fullOf_mapG, List.length_map, sL_len, sL_one, sL_take, sL_put, RUN, Ed, knd, kndR, resV, binInt, mnmxV, mnmx2, fillL, unV, lenV, extractV, partV, loadAt, Nat.reduceAdd, Nat.reduceBEq, Nat.reduceEqDiff, Nat.reduceLT, Nat.reduceLeDiff, Nat.reduceMul, Nat.reduceSub, reduceIte, Int.reduceEq, Int.reduceNe, Int.reduceLT, Int.reduceLE, Int.reduceAdd, Int.reduceSub, Int.reduceMul, Int.reduceNeg, Int.reduceMod, Int.reduceDiv, Int.reduceTMod, Int.reduceTDiv, Int.reduceToNat, okChain_i, okLoads_nil, okLoads_in, okLoads_eq]
          rfl
        case inv2 => exact (hF.putm _).app _
        all_goals first | (simp (maxDischargeDepth := 8) only [z5, z6, z7, z8, z9, z10, z11, z12, z13, z14, z15, z16, z17, z18, z19, RUN, Ed, knd, kndR, resV, binInt, mnmxV, mnmx2, fillL, unV, lenV, extractV, partV, loadAt, Nat.reduceAdd, Nat.reduceBEq, Nat.reduceEqDiff, Nat.reduceLT, Nat.reduceLeDiff, Nat.reduceMul, Nat.reduceSub, reduceIte, Int.reduceEq, Int.reduceNe, Int.reduceLT, Int.reduceLE, Int.reduceAdd, Int.reduceSub, Int.reduceMul, Int.reduceNeg, Int.reduceMod, Int.reduceDiv, Int.reduceTMod, Int.reduceTDiv, Int.reduceToNat, okChain_i, okLoads_nil, okLoads_in, okLoads_eq]; done) | (simp (maxDischargeDepth := 8) only [z5, z6, z7, z8, z9, z10, z11, z12, z13, z14, z15, z16, z17, z18, z19, RUN, Ed, knd, kndR, resV, binInt, mnmxV, mnmx2, fillL, unV, lenV, extractV, partV, loadAt, Nat.reduceAdd, Nat.reduceBEq, Nat.reduceEqDiff, Nat.reduceLT, Nat.reduceLeDiff, Nat.reduceMul, Nat.reduceSub, reduceIte, Int.reduceEq, Int.reduceNe, Int.reduceLT, Int.reduceLE, Int.reduceAdd, Int.reduceSub, Int.reduceMul, Int.reduceNeg, Int.reduceMod, Int.reduceDiv, Int.reduceTMod, Int.reduceTDiv, Int.reduceToNat, okChain_i, okLoads_nil, okLoads_in, okLoads_eq]; rfl)
    · cases may
      · refine ⟨?ρ3, ?G3, ?run3, ⟨?_, ?_, ?_, ?_, ?_, ?_, ?_, ?_, ?_, ?_, ?_, ?_, ?_, ?_, ?_⟩, ?inv3⟩
        case run3 =>
          simp (maxDischargeDepth := 8) only [v14, c14_19, c14_20, c14_21, c14_22, c14_23, c14_24, z5, z6, z7, z8, z9, z10, z11, z12, z13, z14, z15, z16, z17, z18, z19, x1, y2, x3, x4, j1, jm, kmF, ne4, hz, e45, w1, fullOf_appG, fullOf_mapG, List.length_map, sL_len, sL_one, sL_take, sL_put, RUN, Ed, knd, kndR, resV, binInt, mnmxV, mnmx2, fillL, unV, lenV, extractV, partV, loadAt, Nat.reduceAdd, Nat.reduceBEq, Nat.reduceEqDiff, Nat.reduceLT, Nat.reduceLeDiff, Nat.reduceMul, Nat.reduceSub, reduceIte, Int.reduceEq, Int.reduceNe, Int.reduceLT, Int.reduceLE, Int.reduceAdd, Int.reduceSub, Int.reduceMul, Int.reduceNeg, Int.reduceMod, Int.reduceDiv, Int.reduceTMod, Int.reduceTDiv, Int.reduceToNat, okChain_i, okLoads_nil, okLoads_in, okLoads_eq]
          rfl
        case inv3 => exact (hF.putm _).app _
        all_goals first | (simp (maxDischargeDepth := 8) only [z5, z6, z7, z8, z9, z10, z11, z12, z13, z14, z15, z16, z17, z18, z19, RUN, Ed, knd, kndR, resV, binInt, mnmxV, mnmx2, fillL, unV, lenV, extractV, partV, loadAt, Nat.reduceAdd, Nat.reduceBEq, Nat.reduceEqDiff, Nat.reduceLT, Nat.reduceLeDiff, Nat.reduceMul, Nat.reduceSub, reduceIte, Int.reduceEq, Int.reduceNe, Int.reduceLT, Int.reduceLE, Int.reduceAdd, Int.reduceSub, Int.reduceMul, Int.reduceNeg, Int.reduceMod, Int.reduceDiv, Int.reduceTMod, Int.reduceTDiv, Int.reduceToNat, okChain_i, okLoads_nil, okLoads_in, okLoads_eq]; done) | (simp (maxDischargeDepth := 8) only [z5, z6, z7, z8, z9, z10, z11, z12, z13, z14, z15, z16, z17, z18, z19, RUN, Ed, knd, kndR, resV, binInt, mnmxV, mnmx2, fillL, unV, lenV, extractV, partV, loadAt, Nat.reduceAdd, Nat.reduceBEq, Nat.reduceEqDiff, Nat.reduceLT, Nat.reduceLeDiff, Nat.reduceMul, Nat.reduceSub, reduceIte, Int.reduceEq, Int.reduceNe, Int.reduceLT, Int.reduceLE, Int.reduceAdd, Int.reduceSub, Int.reduceMul, Int.reduceNeg, Int.reduceMod, Int.reduceDiv, Int.reduceTMod, Int.reduceTDiv, Int.reduceToNat, okChain_i, okLoads_nil, okLoads_in, okLoads_eq]; rfl)
      · refine ⟨?ρ4, ?G4, ?run4, ⟨?_, ?_, ?_, ?_, ?_, ?_, ?_, ?_, ?_, ?_, ?_, ?_, ?_, ?_, ?_⟩, ?inv4⟩
        case run4 =>
          simp (maxDischargeDepth := 8) only [v14, c14_19, c14_20, c14_21, c14_22, c14_23, c14_24, z5, z6, z7, z8, z9, z10, z11, z12, z13, z14, z15, z16, z17, z18, z19, x1, y2, x3, x4, j1, jm, kmF, ne4, hz, e45, w1, fullOf_appG, fullOf_mapG, List.length_map, sL_len, sL_one, sL_take, sL_put, RUN, Ed, knd, kndR, resV, binInt, mnmxV, mnmx2, fillL, unV, lenV, extractV, partV, loadAt, Nat.reduceAdd, Nat.reduceBEq, Nat.reduceEqDiff, Nat.reduceLT, Nat.reduceLeDiff, Nat.reduceMul, Nat.reduceSub, reduceIte, Int.reduceEq, Int.reduceNe, Int.reduceLT, Int.reduceLE, Int.reduceAdd, Int.reduceSub, Int.reduceMul, Int.reduceNeg, Int.reduceMod, Int.reduceDiv, Int.reduceTMod, Int.reduceTDiv, Int.reduceToNat, okChain_i, okLoads_nil, okLoads_in, okLoads_eq]
          rfl
        case inv4 => exact (hF.putm _).app _
        all_goals first | (simp (maxDischargeDepth := 8) only [z5, z6, z7, z8, z9, z10, z11, z12, z13, z14, z15, z16, z17, z18, z19, RUN, Ed, knd, kndR, resV, binInt, mnmxV, mnmx2, fillL, unV, lenV, extractV, partV, loadAt, Nat.reduceAdd, Nat.reduceBEq, Nat.reduceEqDiff, Nat.reduceLT, Nat.reduceLeDiff, Nat.reduceMul, Nat.reduceSub, reduceIte, Int.reduceEq, Int.reduceNe, Int.reduceLT, Int.reduceLE, Int.reduceAdd, Int.reduceSub, Int.reduceMul, Int.reduceNeg, Int.reduceMod, Int.reduceDiv, Int.reduceTMod, Int.reduceTDiv, Int.reduceToNat, okChain_i, okLoads_nil, okLoads_in, okLoads_eq]; done) | (simp (maxDischargeDepth := 8) only [z5, z6, z7, z8, z9, z10, z11, z12, z13, z14, z15, z16, z17, z18, z19, RUN, Ed, knd, kndR, resV, binInt, mnmxV, mnmx2, fillL, unV, lenV, extractV, partV, loadAt, Nat.reduceAdd, Nat.reduceBEq, Nat.reduceEqDiff, Nat.reduceLT, Nat.reduceLeDiff, Nat.reduceMul, Nat.reduceSub, reduceIte, Int.reduceEq, Int.reduceNe, Int.reduceLT, Int.reduceLE, Int.reduceAdd, Int.reduceSub, Int.reduceMul, Int.reduceNeg, Int.reduceMod, Int.reduceDiv, Int.reduceTMod, Int.reduceTDiv, Int.reduceToNat, okChain_i, okLoads_nil, okLoads_in, okLoads_eq]; rfl)
  simp (maxDischargeDepth := 8) only [c14_17, c14_18, q5, q6, q7, q8, q9, q10, q11, q12, q13, q14, q15, q16, q17, q18, q19, hlt, x1, x2, x3, x4, i1, kh, ih, ne3, e44, sL_len, sL_one, sL_take, sL_put, RUN, Ed, knd, kndR, resV, binInt, mnmxV, mnmx2, fillL, unV, lenV, extractV, partV, loadAt, Nat.reduceAdd, Nat.reduceBEq, Nat.reduceEqDiff, Nat.reduceLT, Nat.reduceLeDiff, Nat.reduceMul, Nat.reduceSub, reduceIte, Int.reduceEq, Int.reduceNe, Int.reduceLT, Int.reduceLE, Int.reduceAdd, Int.reduceSub, Int.reduceMul, Int.reduceNeg, Int.reduceMod, Int.reduceDiv, Int.reduceTMod, Int.reduceTDiv, Int.reduceToNat, okChain_i, okLoads_nil, okLoads_in, okLoads_eq]
  refine key _ _ ?_ ?_ ?_ ?_ ?_ ?_ ?_ ?_ ?_ ?_ ?_ ?_ ?_ ?_ ?_ hm1 ⟨_, rfl⟩ e45
  all_goals first | (simp (maxDischargeDepth := 8) only [q5, q6, q7, q8, q9, q10, q11, q12, q13, q14, q15, q16, q17, q18, q19, RUN, Ed, knd, kndR, resV, binInt, mnmxV, mnmx2, fillL, unV, lenV, extractV, partV, loadAt, Nat.reduceAdd, Nat.reduceBEq, Nat.reduceEqDiff, Nat.reduceLT, Nat.reduceLeDiff, Nat.reduceMul, Nat.reduceSub, reduceIte, Int.reduceEq, Int.reduceNe, Int.reduceLT, Int.reduceLE, Int.reduceAdd, Int.reduceSub, Int.reduceMul, Int.reduceNeg, Int.reduceMod, Int.reduceDiv, Int.reduceTMod, Int.reduceTDiv, Int.reduceToNat, okChain_i, okLoads_nil, okLoads_in, okLoads_eq]; done) | (simp (maxDischargeDepth := 8) only [q5, q6, q7, q8, q9, q10, q11, q12, q13, q14, q15, q16, q17, q18, q19, RUN, Ed, knd, kndR, resV, binInt, mnmxV, mnmx2, fillL, unV, lenV, extractV, partV, loadAt, Nat.reduceAdd, Nat.reduceBEq, Nat.reduceEqDiff, Nat.reduceLT, Nat.reduceLeDiff, Nat.reduceMul, Nat.reduceSub, reduceIte, Int.reduceEq, Int.reduceNe, Int.reduceLT, Int.reduceLE, Int.reduceAdd, Int.reduceSub, Int.reduceMul, Int.reduceNeg, Int.reduceMod, Int.reduceDiv, Int.reduceTMod, Int.reduceTDiv, Int.reduceToNat, okChain_i, okLoads_nil, okLoads_in, okLoads_eq]; rfl)
theorem loop14 (w : Value) (s0 : Sp) (R : List Sp) (hL : (s0 :: R).length ≤ 1000) (fa fb fl fo : Bool) (pa pb pl po ph pm : Nat) (G0 : Heap) (hS : SS G0 w (s0 :: R)) (ρ : Fr) (G : Heap)
    (hs : C14 w (s0 :: R).length fa fb fl fo pa pb pl po ph pm true 1 ρ) (hm : M14 G0 ph pm s0 s0 G) :
    ∃ ρ' G', E Try.prog hints (.loop l14_0) ρ G = some (.exit 0, ρ', G') ∧ (C14 w (s0 :: R).length fa fb fl fo pa pb pl po ph pm (R.foldl stepM (s0, true)).2 (R.length + 1) ρ' ∧ M14 G0 ph pm (R.foldl hull s0) (R.foldl stepM (s0, true)).1 G') := by
  refine loop_inv (fun k ρ G => C14 w (s0 :: R).length fa fb fl fo pa pb pl po ph pm ((R.take k).foldl stepM (s0, true)).2 (k + 1) ρ ∧ M14 G0 ph pm ((R.take k).foldl hull s0) ((R.take k).foldl stepM (s0, true)).1 G)
    (fun ρ G => C14 w (s0 :: R).length fa fb fl fo pa pb pl po ph pm (R.foldl stepM (s0, true)).2 (R.length + 1) ρ ∧ M14 G0 ph pm (R.foldl hull s0) (R.foldl stepM (s0, true)).1 G) R.length ?_ ?_ ρ G ⟨hs, hm⟩
  · rintro k ρ G hk ⟨hs, hm⟩
    have hb : R[k]? = some R[k] := List.getElem?_eq_getElem hk
    rw [take_getG R k _ hb, List.foldl_append, List.foldl_append]
    exact round14 w (s0 :: R) hL fa fb fl fo pa pb pl po ph pm G0 hS _ (k + 1) R[k] (by rw [List.getElem?_cons_succ]; exact hb) _ _ ρ G hs hm
  · rintro ρ G ⟨⟨q5, q6, q7, q8, q9, q10, q11, q12, q13, q14, q15, q16, q17, q18, q19⟩, hm⟩
    rw [List.take_length] at hm q18
    have hlt : ¬ (((R.length + 1 : Nat) : Int) < ((R.length + 1 : Nat) : Int)) := by omega
    refine ⟨?ρ4, G, ?run4, ⟨?_, ?_, ?_, ?_, ?_, ?_, ?_, ?_, ?_, ?_, ?_, ?_, ?_, ?_, ?_⟩, hm⟩
    case run4 =>
      simp (maxDischargeDepth := 8) only [l14_0, c14_17, q7, q19, hlt, RUN, Ed, knd, kndR, resV, binInt, mnmxV, mnmx2, fillL, unV, lenV, extractV, partV, loadAt, Nat.reduceAdd, Nat.reduceBEq, Nat.reduceEqDiff, Nat.reduceLT, Nat.reduceLeDiff, Nat.reduceMul, Nat.reduceSub, reduceIte, Int.reduceEq, Int.reduceNe, Int.reduceLT, Int.reduceLE, Int.reduceAdd, Int.reduceSub, Int.reduceMul, Int.reduceNeg, Int.reduceMod, Int.reduceDiv, Int.reduceTMod, Int.reduceTDiv, Int.reduceToNat, okChain_i, okLoads_nil, okLoads_in, okLoads_eq]
      rfl
    all_goals simp (maxDischargeDepth := 8) only [q5, q6, q7, q8, q9, q10, q11, q12, q13, q14, q15, q16, q17, q18, q19, RUN, Ed, knd, kndR, resV, binInt, mnmxV, mnmx2, fillL, unV, lenV, extractV, partV, loadAt, Nat.reduceAdd, Nat.reduceBEq, Nat.reduceEqDiff, Nat.reduceLT, Nat.reduceLeDiff, Nat.reduceMul, Nat.reduceSub, reduceIte, Int.reduceEq, Int.reduceNe, Int.reduceLT, Int.reduceLE, Int.reduceAdd, Int.reduceSub, Int.reduceMul, Int.reduceNeg, Int.reduceMod, Int.reduceDiv, Int.reduceTMod, Int.reduceTDiv, Int.reduceToNat, okChain_i, okLoads_nil, okLoads_in, okLoads_eq]
def u14 : RCode := (.seq (.draw c14_27) .ret)
def t14 : RCode := (.seq (.seq (.region c14_25) (.cond (.tmp 127) (.seq (.region c14_26) .ret) .skip)) u14)
theorem tail14 (w : Value) (L : List Sp) (hL : L.length ≤ 1000) (fa fb fl fo : Bool) (pa pb pl po ph pm : Nat) (may : Bool) (G : Heap) (hS : SS G w L) (a b al h s0 sn : Sp) (ρ : Fr) (hs : C14 w L.length fa fb fl fo pa pb pl po ph pm may L.length ρ)
    (ka : live G pa = some ⟨true, 65, sL a⟩) (kb : live G pb = some ⟨true, 65, sL b⟩) (kl : live G pl = some ⟨true, 65, sL al⟩) (ko : live G po = some ⟨true, 65, sL h⟩) (kh : live G ph = some ⟨true, 65, sL h⟩)
    (h0 : L[0]? = some s0) (hn : L[L.length - 1]? = some sn) (f1 : fb = true → fa = true ∧ inP b a = true) (f2 : fo = true) (f3 : fl = true → may = true ∧ inP al s0 = true ∧ inP al sn = true) (f4 : 1 ≤ mst L L) :
    Ok (done [.tmp 4] (E Try.prog hints t14 ρ G)) := by
  obtain ⟨q5, q6, q7, q8, q9, q10, q11, q12, q13, q14, q15, q16, q17, q18, q19⟩ := hs
  have hpos : 0 < L.length := by
    rcases Nat.eq_zero_or_pos L.length with q | q
    · rw [List.eq_nil_of_length_eq_zero q] at h0; cases h0
    · exact q
  obtain ⟨c, x1, x2, x3, x4, _, _⟩ := hS.idx h0
  obtain ⟨c', y1, y2, y3, y4, _, _⟩ := hS.idx hn
  have x1' : idxSV 2 w (.int .i64 0) = some (.pointer (some ⟨c, 0 * 2, none⟩)) := x1
  have x4' : (spL L).take 2 = sL s0 := x4
  have x3' : 2 ≤ (spL L).length := by omega
  have hc : ((L.length : Int) - 1) = ((L.length - 1 : Nat) : Int) := by omega
  have w1 := wrap64 ((L.length - 1 : Nat) : Int) (by omega) (by omega)
  have ia := live_ltG ka
  have ib := live_ltG kb
  have il := live_ltG kl
  have io := live_ltG ko
  have ih := live_ltG kh
  have ic := live_ltG x2
  have ic' := live_ltG y2
  have e1 := fun F => inS_f b a F
  have e2 := fun F => sameSp_t h F
  have e3 := fun F => inS_f al s0 F
  have e4 := fun F => inS_f al sn F
  have f4' : (1 : Int) ≤ mst L L := f4
  subst f2
  have em : ∃ Xs : Heap → Heap, ∀ F, SS F w L → D Try.prog hints 42 [w] F = some (.int .i64 (mst L L), F ++ Xs F) := by
    refine ⟨fun F => Classical.epsilon fun X => D Try.prog hints 42 [w] F = some (.int .i64 (mst L L), F ++ X), fun F hF => ?_⟩
    exact Classical.epsilon_spec (most_f w L hL F hF)
  obtain ⟨Xs, em⟩ := em
  have key : ∀ ρ1 F, ρ1 5 = .bool true → ρ1 6 = w → ρ1 7 = .int .i64 L.length → ρ1 12 = .pointer (some ⟨pl, 0, none⟩) → ρ1 13 = .bool fl → ρ1 18 = .bool may → Ext G F → Ok (done [.tmp 4] (E Try.prog hints (.seq (.draw c14_27) .ret) ρ1 F)) := by
    intro ρ1 F z5 z6 z7 z12 z13 z18 hF
    have kl' := hF.live kl
    have x2' := hF.live x2
    have y2' := hF.live y2
    have jl := live_ltG kl'
    have jc := live_ltG x2'
    have jc' := live_ltG y2'
    obtain ⟨Z, hZ⟩ := hF
    have hSm : ∀ news b, SS (maskOf F news b) w L := fun news b => by rw [hZ]; exact (hS.more Z).more _
    have hSf : SS F w L := by rw [hZ]; exact hS.more Z
    cases fl
    · simp (maxDischargeDepth := 8) only [c14_0, c14_1, c14_2, c14_3, c14_4, c14_5, c14_6, c14_7, c14_8, c14_9, c14_10, c14_11, c14_12, c14_13, c14_14, c14_15, c14_16, c14_17, c14_18, c14_19, c14_20, c14_21, c14_22, c14_23, c14_24, c14_25, c14_26, c14_27, z5, z6, z7, z12, z13, z18, em, hSm, hSf, f4', fullOf_appG, fullOf_mapG, RUN, Ed, knd, kndR, resV, binInt, mnmxV, mnmx2, fillL, unV, lenV, extractV, partV, loadAt, Nat.reduceAdd, Nat.reduceBEq, Nat.reduceEqDiff, Nat.reduceLT, Nat.reduceLeDiff, Nat.reduceMul, Nat.reduceSub, reduceIte, Int.reduceEq, Int.reduceNe, Int.reduceLT, Int.reduceLE, Int.reduceAdd, Int.reduceSub, Int.reduceMul, Int.reduceNeg, Int.reduceMod, Int.reduceDiv, Int.reduceTMod, Int.reduceTDiv, Int.reduceToNat, okChain_i, okLoads_nil, okLoads_in, okLoads_eq]
      exact Ok.mk _
    · obtain ⟨g1, g2, g3⟩ := f3 rfl
      subst g1
      rw [g2] at e3
      rw [g3] at e4
      simp (maxDischargeDepth := 8) only [c14_0, c14_1, c14_2, c14_3, c14_4, c14_5, c14_6, c14_7, c14_8, c14_9, c14_10, c14_11, c14_12, c14_13, c14_14, c14_15, c14_16, c14_17, c14_18, c14_19, c14_20, c14_21, c14_22, c14_23, c14_24, c14_25, c14_26, c14_27, z5, z6, z7, z12, z13, z18, x1', x2', x3', x4', y1, y2', y3, y4, kl', jl, jc, jc', hc, w1, e3, e4, em, hSm, hSf, f4', fullOf_appG, fullOf_mapG, List.length_map, sL_len, sL_one, sL_take, sL_put, RUN, Ed, knd, kndR, resV, binInt, mnmxV, mnmx2, fillL, unV, lenV, extractV, partV, loadAt, Nat.reduceAdd, Nat.reduceBEq, Nat.reduceEqDiff, Nat.reduceLT, Nat.reduceLeDiff, Nat.reduceMul, Nat.reduceSub, reduceIte, Int.reduceEq, Int.reduceNe, Int.reduceLT, Int.reduceLE, Int.reduceAdd, Int.reduceSub, Int.reduceMul, Int.reduceNeg, Int.reduceMod, Int.reduceDiv, Int.reduceTMod, Int.reduceTDiv, Int.reduceToNat, okChain_i, okLoads_nil, okLoads_in, okLoads_eq]
      exact Ok.mk _
  have key2 : ∀ ρ1 F, ρ1 5 = .bool true → ρ1 6 = w → ρ1 7 = .int .i64 L.length → ρ1 12 = .pointer (some ⟨pl, 0, none⟩) → ρ1 13 = .bool fl → ρ1 18 = .bool may → Ext G F → Ok (done [.tmp 4] (E Try.prog hints u14 ρ1 F)) := key
  have e2 := fun F => sameSp_t h F
  cases fb
  · simp (maxDischargeDepth := 8) only [t14, c14_25, c14_26, q5, q6, q7, q8, q9, q10, q11, q12, q13, q14, q15, q16, q17, q18, q19, ka, kb, ko, kh, ia, ib, io, ih, e2, sL_len, sL_one, sL_take, sL_put, RUN, Ed, knd, kndR, resV, binInt, mnmxV, mnmx2, fillL, unV, lenV, extractV, partV, loadAt, Nat.reduceAdd, Nat.reduceBEq, Nat.reduceEqDiff, Nat.reduceLT, Nat.reduceLeDiff, Nat.reduceMul, Nat.reduceSub, reduceIte, Int.reduceEq, Int.reduceNe, Int.reduceLT, Int.reduceLE, Int.reduceAdd, Int.reduceSub, Int.reduceMul, Int.reduceNeg, Int.reduceMod, Int.reduceDiv, Int.reduceTMod, Int.reduceTDiv, Int.reduceToNat, okChain_i, okLoads_nil, okLoads_in, okLoads_eq]
    refine key2 _ _ ?_ ?_ ?_ ?_ ?_ ?_ (Ext.more _ _)
    all_goals simp (maxDischargeDepth := 8) only [q5, q6, q7, q8, q9, q10, q11, q12, q13, q14, q15, q16, q17, q18, q19, RUN, Ed, knd, kndR, resV, binInt, mnmxV, mnmx2, fillL, unV, lenV, extractV, partV, loadAt, Nat.reduceAdd, Nat.reduceBEq, Nat.reduceEqDiff, Nat.reduceLT, Nat.reduceLeDiff, Nat.reduceMul, Nat.reduceSub, reduceIte, Int.reduceEq, Int.reduceNe, Int.reduceLT, Int.reduceLE, Int.reduceAdd, Int.reduceSub, Int.reduceMul, Int.reduceNeg, Int.reduceMod, Int.reduceDiv, Int.reduceTMod, Int.reduceTDiv, Int.reduceToNat, okChain_i, okLoads_nil, okLoads_in, okLoads_eq]
  · obtain ⟨g1, g2⟩ := f1 rfl
    subst g1
    rw [g2] at e1
    simp (maxDischargeDepth := 8) only [t14, c14_25, c14_26, q5, q6, q7, q8, q9, q10, q11, q12, q13, q14, q15, q16, q17, q18, q19, ka, kb, ko, kh, ia, ib, io, ih, e1, e2, sL_len, sL_one, sL_take, sL_put, RUN, Ed, knd, kndR, resV, binInt, mnmxV, mnmx2, fillL, unV, lenV, extractV, partV, loadAt, Nat.reduceAdd, Nat.reduceBEq, Nat.reduceEqDiff, Nat.reduceLT, Nat.reduceLeDiff, Nat.reduceMul, Nat.reduceSub, reduceIte, Int.reduceEq, Int.reduceNe, Int.reduceLT, Int.reduceLE, Int.reduceAdd, Int.reduceSub, Int.reduceMul, Int.reduceNeg, Int.reduceMod, Int.reduceDiv, Int.reduceTMod, Int.reduceTDiv, Int.reduceToNat, okChain_i, okLoads_nil, okLoads_in, okLoads_eq]
    refine key2 _ _ ?_ ?_ ?_ ?_ ?_ ?_ (Ext.more _ _)
    all_goals simp (maxDischargeDepth := 8) only [q5, q6, q7, q8, q9, q10, q11, q12, q13, q14, q15, q16, q17, q18, q19, RUN, Ed, knd, kndR, resV, binInt, mnmxV, mnmx2, fillL, unV, lenV, extractV, partV, loadAt, Nat.reduceAdd, Nat.reduceBEq, Nat.reduceEqDiff, Nat.reduceLT, Nat.reduceLeDiff, Nat.reduceMul, Nat.reduceSub, reduceIte, Int.reduceEq, Int.reduceNe, Int.reduceLT, Int.reduceLE, Int.reduceAdd, Int.reduceSub, Int.reduceMul, Int.reduceNeg, Int.reduceMod, Int.reduceDiv, Int.reduceTMod, Int.reduceTDiv, Int.reduceToNat, okChain_i, okLoads_nil, okLoads_in, okLoads_eq]
def m14 : RCode := (.seq (.region c14_13) (.seq (.region c14_14) (.seq (.region c14_15) (.seq (.seq (.region c14_16) (.block 0 (.loop l14_0))) t14))))
def n12 : RCode := (.seq (.region c14_12) m14)
def n11 : RCode := (.seq (.region c14_11) n12)
def n10 : RCode := (.seq (.region c14_10) n11)
theorem b14t : b14 = (.seq (.region c14_0) (.seq (.region c14_1) (.seq (.seq (.region c14_2) (.cond (.tmp 24) (.seq (.region c14_3) .ret) .skip)) (.seq (.seq (.region c14_4) (.cond (.tmp 32) (.seq (.region c14_5) .ret) .skip)) (.seq (.region c14_6) (.seq (.region c14_7) (.seq (.region c14_8) (.seq (.region c14_9) n10)))))))) := (rfl)
theorem mid14 (w : Value) (s0 : Sp) (R : List Sp) (hL : (s0 :: R).length ≤ 1000) (fa fb fl fo : Bool) (pa pb pl po : Nat) (a b al : Sp) (sn : Sp) (G : Heap) (hS : SS G w (s0 :: R)) (ρ : Fr)
    (q5 : ρ 5 = .bool true) (q6 : ρ 6 = w) (q7 : ρ 7 = .int .i64 (s0 :: R).length) (q8 : ρ 8 = .pointer (some ⟨pa, 0, none⟩)) (q9 : ρ 9 = .bool fa) (q10 : ρ 10 = .pointer (some ⟨pb, 0, none⟩)) (q11 : ρ 11 = .bool fb) (q12 : ρ 12 = .pointer (some ⟨pl, 0, none⟩)) (q13 : ρ 13 = .bool fl) (q14 : ρ 14 = .pointer (some ⟨po, 0, none⟩)) (q15 : ρ 15 = .bool fo)
    (ka : live G pa = some ⟨true, 65, sL a⟩) (kb : live G pb = some ⟨true, 65, sL b⟩) (kl : live G pl = some ⟨true, 65, sL al⟩) (ko : live G po = some ⟨true, 65, sL (R.foldl hull s0)⟩)
    (hn : (s0 :: R)[(s0 :: R).length - 1]? = some sn) (f1 : fb = true → fa = true ∧ inP b a = true) (f2 : fo = true) (f3 : fl = true → (R.foldl stepM (s0, true)).2 = true ∧ inP al s0 = true ∧ inP al sn = true) (f4 : 1 ≤ mst (s0 :: R) (s0 :: R)) :
    Ok (done [.tmp 4] (E Try.prog hints m14 ρ G)) := by
  have hz : [Value.int .i64 0, Value.int .i64 0] = sL (0, 0) := rfl
  obtain ⟨c, x1, x2, x3, x4, _, _⟩ := hS.idx (show (s0 :: R)[0]? = some s0 from rfl)
  have x1' : idxSV 2 w (.int .i64 0) = some (.pointer (some ⟨c, 0 * 2, none⟩)) := x1
  have x4' : (spL (s0 :: R)).take 2 = sL s0 := x4
  have x3' : 2 ≤ (spL (s0 :: R)).length := by omega
  have ic := live_ltG x2
  have hM : M14 G G.length (G.length + 1) s0 s0 (G ++ [some ⟨true, 65, sL s0⟩, some ⟨true, 65, sL s0⟩]) := ⟨Ext.more _ _, by omega, by omega, by omega, (live_app_len _ _).trans rfl, (live_app_add _ _ _).trans rfl⟩
  generalize hl : (s0 :: R).length = n at q7
  simp (maxDischargeDepth := 8) only [m14, c14_13, c14_14, c14_15, c14_16, q5, q6, q7, q8, q9, q10, q11, q12, q13, q14, q15, x1', x2, x3', x4', ic, hz, sL_len, sL_one, sL_take, sL_put, RUN, Ed, knd, kndR, resV, binInt, mnmxV, mnmx2, fillL, unV, lenV, extractV, partV, loadAt, Nat.reduceAdd, Nat.reduceBEq, Nat.reduceEqDiff, Nat.reduceLT, Nat.reduceLeDiff, Nat.reduceMul, Nat.reduceSub, reduceIte, Int.reduceEq, Int.reduceNe, Int.reduceLT, Int.reduceLE, Int.reduceAdd, Int.reduceSub, Int.reduceMul, Int.reduceNeg, Int.reduceMod, Int.reduceDiv, Int.reduceTMod, Int.reduceTDiv, Int.reduceToNat, okChain_i, okLoads_nil, okLoads_in, okLoads_eq]
  subst hl
  refine cut_loop (fun ρ F => C14 w (s0 :: R).length fa fb fl fo pa pb pl po G.length (G.length + 1) true 1 ρ ∧ F = G ++ [some ⟨true, 65, sL s0⟩, some ⟨true, 65, sL s0⟩])
    (fun ρ F => C14 w (s0 :: R).length fa fb fl fo pa pb pl po G.length (G.length + 1) (R.foldl stepM (s0, true)).2 (R.length + 1) ρ ∧ M14 G G.length (G.length + 1) (R.foldl hull s0) (R.foldl stepM (s0, true)).1 F) ⟨⟨?_, ?_, ?_, ?_, ?_, ?_, ?_, ?_, ?_, ?_, ?_, ?_, ?_, ?_, ?_⟩, rfl⟩ ?_ ?_
  all_goals first | (simp (maxDischargeDepth := 8) only [q5, q6, q7, q8, q9, q10, q11, q12, q13, q14, q15, RUN, Ed, knd, kndR, resV, binInt, mnmxV, mnmx2, fillL, unV, lenV, extractV, partV, loadAt, Nat.reduceAdd, Nat.reduceBEq, Nat.reduceEqDiff, Nat.reduceLT, Nat.reduceLeDiff, Nat.reduceMul, Nat.reduceSub, reduceIte, Int.reduceEq, Int.reduceNe, Int.reduceLT, Int.reduceLE, Int.reduceAdd, Int.reduceSub, Int.reduceMul, Int.reduceNeg, Int.reduceMod, Int.reduceDiv, Int.reduceTMod, Int.reduceTDiv, Int.reduceToNat, okChain_i, okLoads_nil, okLoads_in, okLoads_eq]; done) | (simp (maxDischargeDepth := 8) only [q5, q6, q7, q8, q9, q10, q11, q12, q13, q14, q15, RUN, Ed, knd, kndR, resV, binInt, mnmxV, mnmx2, fillL, unV, lenV, extractV, partV, loadAt, Nat.reduceAdd, Nat.reduceBEq, Nat.reduceEqDiff, Nat.reduceLT, Nat.reduceLeDiff, Nat.reduceMul, Nat.reduceSub, reduceIte, Int.reduceEq, Int.reduceNe, Int.reduceLT, Int.reduceLE, Int.reduceAdd, Int.reduceSub, Int.reduceMul, Int.reduceNeg, Int.reduceMod, Int.reduceDiv, Int.reduceTMod, Int.reduceTDiv, Int.reduceToNat, okChain_i, okLoads_nil, okLoads_in, okLoads_eq]; rfl) | skip
  · rintro ρ F ⟨hs, rfl⟩
    exact loop14 w s0 R hL fa fb fl fo pa pb pl po _ _ G hS ρ _ hs hM
  · rintro ρ F ⟨hs, hm⟩
    have hSF : SS F w (s0 :: R) := hS.ext hm.ext
    exact tail14 w (s0 :: R) hL fa fb fl fo pa pb pl po _ _ _ F hSF a b al _ s0 sn ρ hs (hm.ext.live ka) (hm.ext.live kb) (hm.ext.live kl) (hm.ext.live ko) hm.kh rfl hn f1 f2 f3 f4
theorem kOf (k n : Int) (hn : 1 ≤ n) (hn2 : n ≤ 1000) : ∃ v, IntKind.i64.wrap (k.tmod n + n) = k.tmod n + n ∧ (k.tmod n + n).tmod n = v ∧ 0 ≤ v ∧ v < n := by
  have h1 : -n < k.tmod n ∧ k.tmod n < n := by
    have a := Int.tmod_lt_of_pos k (show (0 : Int) < n by omega)
    have b := Int.tmod_lt_of_pos (-k) (show (0 : Int) < n by omega)
    rw [Int.neg_tmod] at b
    omega
  refine ⟨_, wrap64 _ (by omega) (by omega), rfl, ?_, ?_⟩
  · exact Int.tmod_nonneg _ (by omega)
  · exact Int.tmod_lt_of_pos _ (by omega)
theorem covers (k : Int) (v : Value) (A : List Int) (H : Heap) (hA : TS H v A) : Ok (D Try.prog hints 14 [v, .int .i64 k] H) := by
  obtain ⟨X0, e0⟩ := first_f H
  have l1 := hA.len
  have hz : [Value.int .i64 0, Value.int .i64 0] = sL (0, 0) := rfl
  rw [D_eq p14 _ _ (Nat.le_of_ble_eq_true rfl)]
  by_cases h0 : (A.length : Int) < 2
  · simp (maxDischargeDepth := 8) only [r14, b14, c14_0, c14_1, c14_2, c14_3, c14_4, c14_5, c14_6, c14_7, c14_8, c14_9, c14_10, c14_11, c14_12, c14_13, c14_14, c14_15, c14_16, c14_17, c14_18, c14_19, c14_20, c14_21, c14_22, c14_23, c14_24, c14_25, c14_26, c14_27, e0, l1, h0, RUN, Ed, knd, kndR, resV, binInt, mnmxV, mnmx2, fillL, unV, extractV, partV, loadAt, Nat.reduceAdd, Nat.reduceBEq, Nat.reduceEqDiff, Nat.reduceLT, Nat.reduceLeDiff, Nat.reduceMul, Nat.reduceSub, reduceIte, Int.reduceEq, Int.reduceNe, Int.reduceLT, Int.reduceLE, Int.reduceAdd, Int.reduceSub, Int.reduceMul, Int.reduceNeg, Int.reduceMod, Int.reduceDiv, Int.reduceTMod, Int.reduceTDiv, Int.reduceToNat, okChain_i, okLoads_nil, okLoads_in, okLoads_eq]
    exact Ok.mk _
  by_cases h1 : (40 : Int) < (A.length : Int)
  · simp (maxDischargeDepth := 8) only [r14, b14, c14_0, c14_1, c14_2, c14_3, c14_4, c14_5, c14_6, c14_7, c14_8, c14_9, c14_10, c14_11, c14_12, c14_13, c14_14, c14_15, c14_16, c14_17, c14_18, c14_19, c14_20, c14_21, c14_22, c14_23, c14_24, c14_25, c14_26, c14_27, e0, l1, h0, h1, RUN, Ed, knd, kndR, resV, binInt, mnmxV, mnmx2, fillL, unV, extractV, partV, loadAt, Nat.reduceAdd, Nat.reduceBEq, Nat.reduceEqDiff, Nat.reduceLT, Nat.reduceLeDiff, Nat.reduceMul, Nat.reduceSub, reduceIte, Int.reduceEq, Int.reduceNe, Int.reduceLT, Int.reduceLE, Int.reduceAdd, Int.reduceSub, Int.reduceMul, Int.reduceNeg, Int.reduceMod, Int.reduceDiv, Int.reduceTMod, Int.reduceTDiv, Int.reduceToNat, okChain_i, okLoads_nil, okLoads_in, okLoads_eq]
    exact Ok.mk _
  obtain ⟨w, X1, e1, hS1⟩ := spans_f (H ++ X0) v A (hA.more X0) (by omega)
  have hlen := spn_len A
  have hN := spn_norm A
  obtain ⟨s0, R, hLR⟩ : ∃ s0 R, spn A = s0 :: R := by
    cases h : spn A with
    | nil => rw [h] at hlen; simp at hlen; omega
    | cons s0 R => exact ⟨s0, R, rfl⟩
  have hL : (spn A).length ≤ 1000 := by omega
  rw [hLR] at hS1 hlen hN hL
  rw [List.append_assoc] at hS1 e1
  have l2 := hS1.len
  have hLe : ((s0 :: R).length : Int) = (((s0 :: R).length : Nat) : Int) := rfl
  obtain ⟨u, k1, k2, k3, k4⟩ := kOf k ((s0 :: R).length : Int) (by simp only [List.length_cons]; omega) (by omega)
  have k5 := wrap64 (u + 1) (by omega) (by omega)
  have k6 := wrap64 (u + 1 + 1) (by omega) (by omega)
  have hn0 : ¬ (((s0 :: R).length : Int) = 0) := by simp only [List.length_cons]; omega
  obtain ⟨sn, hsn⟩ : ∃ sn, (s0 :: R)[(s0 :: R).length - 1]? = some sn := ⟨_, List.getElem?_eq_getElem (by simp)⟩
  have hs0 : (s0 :: R)[0]? = some s0 := rfl
  have p1 := fun h => cov_less (s0 :: R) (u + 1) (by omega) h
  obtain ⟨p2, p3⟩ := cov_one s0 R hN
  have p4 : (cov (s0 :: R) ((s0 :: R).length : Int) (s0 :: R)).2 = true → (R.foldl stepM (s0, true)).2 = true ∧ inP (cov (s0 :: R) ((s0 :: R).length : Int) (s0 :: R)).1 s0 = true ∧ inP (cov (s0 :: R) ((s0 :: R).length : Int) (s0 :: R)).1 sn = true := by
    intro h
    obtain ⟨a, x, b⟩ := cov_all (s0 :: R) h (by simp)
    exact ⟨meet_fold x R (s0, true) (b s0 (by simp)) rfl (fun s hs => b s (by simp [hs])), a s0 (by simp), a sn (List.mem_of_getElem? hsn)⟩
  have p5 := mst_one s0 R hN
  have ec : ∀ m : Int, 1 ≤ m → ∃ Xs : Heap → Heap, ∀ F, SS F w (s0 :: R) → D Try.prog hints 37 [.int .i64 m, w] F = some (.tuple ⟨[.agg ⟨sL (cov (s0 :: R) m (s0 :: R)).1⟩, .bool (cov (s0 :: R) m (s0 :: R)).2]⟩, F ++ Xs F) := by
    intro m hm
    refine ⟨fun F => Classical.epsilon fun X => D Try.prog hints 37 [.int .i64 m, w] F = some (.tuple ⟨[.agg ⟨sL (cov (s0 :: R) m (s0 :: R)).1⟩, .bool (cov (s0 :: R) m (s0 :: R)).2]⟩, F ++ X), fun F hF => ?_⟩
    have := cover_f w (s0 :: R) hL m F hF
    rw [show max m 1 = m by omega] at this
    exact Classical.epsilon_spec this
  obtain ⟨Ya, ea⟩ := ec (u + 1) (by omega)
  obtain ⟨Yb, eb⟩ := ec (u + 1 + 1) (by omega)
  obtain ⟨Yl, el⟩ := ec ((s0 :: R).length : Int) (by simp only [List.length_cons]; omega)
  obtain ⟨Yo, eo⟩ := ec 1 (by omega)
  generalize hn1 : ((s0 :: R).length : Int) = n at *
  generalize cov (s0 :: R) (u + 1) (s0 :: R) = sa at *
  generalize cov (s0 :: R) (u + 1 + 1) (s0 :: R) = sb at *
  generalize cov (s0 :: R) n (s0 :: R) = sl at *
  generalize cov (s0 :: R) 1 (s0 :: R) = so at *
  obtain ⟨a, fa⟩ := sa
  obtain ⟨b, fb⟩ := sb
  obtain ⟨al, fl⟩ := sl
  obtain ⟨oo, fo⟩ := so
  simp only at p1 p2 p3 p4 ea eb el eo
  subst p3
  subst p2
  have hn2 : ((R.length + 1 : Nat) : Int) = n := hn1
  have m12 : ∀ ρ G pa pb pl, SS G w (s0 :: R) → ρ 5 = .bool true → ρ 6 = w → ρ 7 = .int .i64 n → ρ 8 = .pointer (some ⟨pa, 0, none⟩) → ρ 9 = .bool fa → ρ 10 = .pointer (some ⟨pb, 0, none⟩) → ρ 11 = .bool fb → ρ 12 = .pointer (some ⟨pl, 0, none⟩) → ρ 13 = .bool fl →
      live G pa = some ⟨true, 65, sL a⟩ → live G pb = some ⟨true, 65, sL b⟩ → live G pl = some ⟨true, 65, sL al⟩ → Ok (done [.tmp 4] (E Try.prog hints n12 ρ G)) := by
    intro ρ G pa pb pl hG q5 q6 q7 q8 q9 q10 q11 q12 q13 ka kb kl
    simp (maxDischargeDepth := 8) only [n12, c14_12, q5, q6, q7, q8, q9, q10, q11, q12, q13, eo, hG, hz, sL_len, sL_one, sL_take, sL_put, RUN, Ed, knd, kndR, resV, binInt, mnmxV, mnmx2, fillL, unV, lenV, extractV, partV, loadAt, Nat.reduceAdd, Nat.reduceBEq, Nat.reduceEqDiff, Nat.reduceLT, Nat.reduceLeDiff, Nat.reduceMul, Nat.reduceSub, reduceIte, Int.reduceEq, Int.reduceNe, Int.reduceLT, Int.reduceLE, Int.reduceAdd, Int.reduceSub, Int.reduceMul, Int.reduceNeg, Int.reduceMod, Int.reduceDiv, Int.reduceTMod, Int.reduceTDiv, Int.reduceToNat, okChain_i, okLoads_nil, okLoads_in, okLoads_eq]
    have hE : Ext G (G ++ (Yo G ++ [some ⟨true, 65, sL (R.foldl hull s0)⟩])) := Ext.more _ _
    refine mid14 w s0 R hL fa fb fl true pa pb pl (G.length + (Yo G).length) a b al sn _ (hG.more _) _ ?_ ?_ ?_ ?_ ?_ ?_ ?_ ?_ ?_ ?_ ?_ (hE.live ka) (hE.live kb) (hE.live kl) ?_ hsn p1 rfl p4 p5
    all_goals first | (simp (maxDischargeDepth := 8) only [q5, q6, q7, q8, q9, q10, q11, q12, q13, hn2, RUN, Ed, knd, kndR, resV, binInt, mnmxV, mnmx2, fillL, unV, lenV, extractV, partV, loadAt, Nat.reduceAdd, Nat.reduceBEq, Nat.reduceEqDiff, Nat.reduceLT, Nat.reduceLeDiff, Nat.reduceMul, Nat.reduceSub, reduceIte, Int.reduceEq, Int.reduceNe, Int.reduceLT, Int.reduceLE, Int.reduceAdd, Int.reduceSub, Int.reduceMul, Int.reduceNeg, Int.reduceMod, Int.reduceDiv, Int.reduceTMod, Int.reduceTDiv, Int.reduceToNat, okChain_i, okLoads_nil, okLoads_in, okLoads_eq]; done) | (simp (maxDischargeDepth := 8) only [q5, q6, q7, q8, q9, q10, q11, q12, q13, hn2, RUN, Ed, knd, kndR, resV, binInt, mnmxV, mnmx2, fillL, unV, lenV, extractV, partV, loadAt, Nat.reduceAdd, Nat.reduceBEq, Nat.reduceEqDiff, Nat.reduceLT, Nat.reduceLeDiff, Nat.reduceMul, Nat.reduceSub, reduceIte, Int.reduceEq, Int.reduceNe, Int.reduceLT, Int.reduceLE, Int.reduceAdd, Int.reduceSub, Int.reduceMul, Int.reduceNeg, Int.reduceMod, Int.reduceDiv, Int.reduceTMod, Int.reduceTDiv, Int.reduceToNat, okChain_i, okLoads_nil, okLoads_in, okLoads_eq]; rfl)
  have m11 : ∀ ρ G pa pb, SS G w (s0 :: R) → ρ 5 = .bool true → ρ 6 = w → ρ 7 = .int .i64 n → ρ 8 = .pointer (some ⟨pa, 0, none⟩) → ρ 9 = .bool fa → ρ 10 = .pointer (some ⟨pb, 0, none⟩) → ρ 11 = .bool fb →
      live G pa = some ⟨true, 65, sL a⟩ → live G pb = some ⟨true, 65, sL b⟩ → Ok (done [.tmp 4] (E Try.prog hints n11 ρ G)) := by
    intro ρ G pa pb hG q5 q6 q7 q8 q9 q10 q11 ka kb
    simp (maxDischargeDepth := 8) only [n11, c14_11, q5, q6, q7, q8, q9, q10, q11, el, hG, hz, sL_len, sL_one, sL_take, sL_put, RUN, Ed, knd, kndR, resV, binInt, mnmxV, mnmx2, fillL, unV, lenV, extractV, partV, loadAt, Nat.reduceAdd, Nat.reduceBEq, Nat.reduceEqDiff, Nat.reduceLT, Nat.reduceLeDiff, Nat.reduceMul, Nat.reduceSub, reduceIte, Int.reduceEq, Int.reduceNe, Int.reduceLT, Int.reduceLE, Int.reduceAdd, Int.reduceSub, Int.reduceMul, Int.reduceNeg, Int.reduceMod, Int.reduceDiv, Int.reduceTMod, Int.reduceTDiv, Int.reduceToNat, okChain_i, okLoads_nil, okLoads_in, okLoads_eq]
    have hE : Ext G (G ++ (Yl G ++ [some ⟨true, 65, sL al⟩])) := Ext.more _ _
    refine m12 _ _ pa pb (G.length + (Yl G).length) (hG.more _) ?_ ?_ ?_ ?_ ?_ ?_ ?_ ?_ ?_ (hE.live ka) (hE.live kb) ?_
    all_goals first | (simp (maxDischargeDepth := 8) only [q5, q6, q7, q8, q9, q10, q11, RUN, Ed, knd, kndR, resV, binInt, mnmxV, mnmx2, fillL, unV, lenV, extractV, partV, loadAt, Nat.reduceAdd, Nat.reduceBEq, Nat.reduceEqDiff, Nat.reduceLT, Nat.reduceLeDiff, Nat.reduceMul, Nat.reduceSub, reduceIte, Int.reduceEq, Int.reduceNe, Int.reduceLT, Int.reduceLE, Int.reduceAdd, Int.reduceSub, Int.reduceMul, Int.reduceNeg, Int.reduceMod, Int.reduceDiv, Int.reduceTMod, Int.reduceTDiv, Int.reduceToNat, okChain_i, okLoads_nil, okLoads_in, okLoads_eq]; done) | (simp (maxDischargeDepth := 8) only [q5, q6, q7, q8, q9, q10, q11, RUN, Ed, knd, kndR, resV, binInt, mnmxV, mnmx2, fillL, unV, lenV, extractV, partV, loadAt, Nat.reduceAdd, Nat.reduceBEq, Nat.reduceEqDiff, Nat.reduceLT, Nat.reduceLeDiff, Nat.reduceMul, Nat.reduceSub, reduceIte, Int.reduceEq, Int.reduceNe, Int.reduceLT, Int.reduceLE, Int.reduceAdd, Int.reduceSub, Int.reduceMul, Int.reduceNeg, Int.reduceMod, Int.reduceDiv, Int.reduceTMod, Int.reduceTDiv, Int.reduceToNat, okChain_i, okLoads_nil, okLoads_in, okLoads_eq]; rfl)
  have m10 : ∀ ρ G pa, SS G w (s0 :: R) → ρ 1 = .int .i64 (u + 1) → ρ 5 = .bool true → ρ 6 = w → ρ 7 = .int .i64 n → ρ 8 = .pointer (some ⟨pa, 0, none⟩) → ρ 9 = .bool fa →
      live G pa = some ⟨true, 65, sL a⟩ → Ok (done [.tmp 4] (E Try.prog hints n10 ρ G)) := by
    intro ρ G pa hG q1 q5 q6 q7 q8 q9 ka
    simp (maxDischargeDepth := 8) only [n10, c14_10, q1, q5, q6, q7, q8, q9, k6, eb, hG, hz, sL_len, sL_one, sL_take, sL_put, RUN, Ed, knd, kndR, resV, binInt, mnmxV, mnmx2, fillL, unV, lenV, extractV, partV, loadAt, Nat.reduceAdd, Nat.reduceBEq, Nat.reduceEqDiff, Nat.reduceLT, Nat.reduceLeDiff, Nat.reduceMul, Nat.reduceSub, reduceIte, Int.reduceEq, Int.reduceNe, Int.reduceLT, Int.reduceLE, Int.reduceAdd, Int.reduceSub, Int.reduceMul, Int.reduceNeg, Int.reduceMod, Int.reduceDiv, Int.reduceTMod, Int.reduceTDiv, Int.reduceToNat, okChain_i, okLoads_nil, okLoads_in, okLoads_eq]
    have hE : Ext G (G ++ (Yb G ++ [some ⟨true, 65, sL b⟩])) := Ext.more _ _
    refine m11 _ _ pa (G.length + (Yb G).length) (hG.more _) ?_ ?_ ?_ ?_ ?_ ?_ ?_ (hE.live ka) ?_
    all_goals first | (simp (maxDischargeDepth := 8) only [q5, q6, q7, q8, q9, RUN, Ed, knd, kndR, resV, binInt, mnmxV, mnmx2, fillL, unV, lenV, extractV, partV, loadAt, Nat.reduceAdd, Nat.reduceBEq, Nat.reduceEqDiff, Nat.reduceLT, Nat.reduceLeDiff, Nat.reduceMul, Nat.reduceSub, reduceIte, Int.reduceEq, Int.reduceNe, Int.reduceLT, Int.reduceLE, Int.reduceAdd, Int.reduceSub, Int.reduceMul, Int.reduceNeg, Int.reduceMod, Int.reduceDiv, Int.reduceTMod, Int.reduceTDiv, Int.reduceToNat, okChain_i, okLoads_nil, okLoads_in, okLoads_eq]; done) | (simp (maxDischargeDepth := 8) only [q5, q6, q7, q8, q9, RUN, Ed, knd, kndR, resV, binInt, mnmxV, mnmx2, fillL, unV, lenV, extractV, partV, loadAt, Nat.reduceAdd, Nat.reduceBEq, Nat.reduceEqDiff, Nat.reduceLT, Nat.reduceLeDiff, Nat.reduceMul, Nat.reduceSub, reduceIte, Int.reduceEq, Int.reduceNe, Int.reduceLT, Int.reduceLE, Int.reduceAdd, Int.reduceSub, Int.reduceMul, Int.reduceNeg, Int.reduceMod, Int.reduceDiv, Int.reduceTMod, Int.reduceTDiv, Int.reduceToNat, okChain_i, okLoads_nil, okLoads_in, okLoads_eq]; rfl)
  simp (maxDischargeDepth := 8) only [r14, b14t, c14_0, c14_1, c14_2, c14_3, c14_4, c14_5, c14_6, c14_7, c14_8, c14_9, e0, l1, l2, h0, h1, e1, k1, k2, k5, k6, hn0, ea, hS1, hz, sL_len, sL_one, sL_take, sL_put, RUN, Ed, knd, kndR, resV, binInt, mnmxV, mnmx2, fillL, unV, extractV, partV, loadAt, Nat.reduceAdd, Nat.reduceBEq, Nat.reduceEqDiff, Nat.reduceLT, Nat.reduceLeDiff, Nat.reduceMul, Nat.reduceSub, reduceIte, Int.reduceEq, Int.reduceNe, Int.reduceLT, Int.reduceLE, Int.reduceAdd, Int.reduceSub, Int.reduceMul, Int.reduceNeg, Int.reduceMod, Int.reduceDiv, Int.reduceTMod, Int.reduceTDiv, Int.reduceToNat, okChain_i, okLoads_nil, okLoads_in, okLoads_eq]
  generalize hG1 : H ++ (X0 ++ X1) = G1 at *
  have hG2 : H ++ (X0 ++ (X1 ++ (Ya G1 ++ [some ⟨true, 65, sL a⟩]))) = G1 ++ (Ya G1 ++ [some ⟨true, 65, sL a⟩]) := by rw [← hG1]; simp only [List.append_assoc]
  have hlen1 : H.length + (X0.length + (X1.length + (Ya G1).length)) = G1.length + (Ya G1).length := by rw [← hG1]; simp only [List.length_append]; omega
  rw [hG2]
  refine m10 _ _ (G1.length + (Ya G1).length) (hS1.more _) ?_ ?_ ?_ ?_ ?_ ?_ ?_
  all_goals first | (simp (maxDischargeDepth := 8) only [hlen1, RUN, Ed, knd, kndR, resV, binInt, mnmxV, mnmx2, fillL, unV, lenV, extractV, partV, loadAt, Nat.reduceAdd, Nat.reduceBEq, Nat.reduceEqDiff, Nat.reduceLT, Nat.reduceLeDiff, Nat.reduceMul, Nat.reduceSub, reduceIte, Int.reduceEq, Int.reduceNe, Int.reduceLT, Int.reduceLE, Int.reduceAdd, Int.reduceSub, Int.reduceMul, Int.reduceNeg, Int.reduceMod, Int.reduceDiv, Int.reduceTMod, Int.reduceTDiv, Int.reduceToNat, okChain_i, okLoads_nil, okLoads_in, okLoads_eq]; done) | (simp (maxDischargeDepth := 8) only [hlen1, RUN, Ed, knd, kndR, resV, binInt, mnmxV, mnmx2, fillL, unV, lenV, extractV, partV, loadAt, Nat.reduceAdd, Nat.reduceBEq, Nat.reduceEqDiff, Nat.reduceLT, Nat.reduceLeDiff, Nat.reduceMul, Nat.reduceSub, reduceIte, Int.reduceEq, Int.reduceNe, Int.reduceLT, Int.reduceLE, Int.reduceAdd, Int.reduceSub, Int.reduceMul, Int.reduceNeg, Int.reduceMod, Int.reduceDiv, Int.reduceTMod, Int.reduceTDiv, Int.reduceToNat, okChain_i, okLoads_nil, okLoads_in, okLoads_eq]; rfl)
def sh14 : List Sh := [.slice (.int .i64), .int .i64]
theorem covers_law (H : Heap) (ls : List (List Value)) (o : OpnAll H sh14 ls) : Ok (D Try.prog hints 14 (argsS sh14 ls) H) := by
  obtain ⟨l0, _, rfl, h0, o⟩ := o.uncons
  obtain ⟨l1, _, rfl, h1, o⟩ := o.uncons
  cases o.unnil
  obtain ⟨v, A, rfl, hA⟩ := Opn_ints h0
  simp only [Opn.eq_1] at h1
  obtain ⟨k, rfl, _⟩ := h1
  exact covers k v A H hA
end Go.Proofs.Ytbamnfladjkkcaa.Sim
