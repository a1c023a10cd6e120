/- The votes of chapter 4 over the plain heap: in how many at most. -/
import Derived.Test.YtbamnfladjkkcaaVot1
import Derived.Test.YtbamnfladjkkcaaSim21
namespace Go.Proofs.Ytbamnfladjkkcaa.Sim
open Go
set_option linter.unusedSimpArgs false
set_option linter.unusedVariables false
theorem cnt_le2 (L : List Sp) (hL : L.length ≤ 1000) (x : Int) (j : Nat) : cnt (L.take j) x ≤ 1000 := by
  have h1 := cnt_le (L.take j) x
  have h2 : (L.take j).length ≤ L.length := by rw [List.length_take]; omega
  omega
theorem in_f (v : Value) (L : List Sp) (hL : L.length ≤ 1000) (x : Int) (H : Heap) (hS : SS H v L) : ∃ X, D Try.prog hints 56 [v, .int .i64 x] H = some (.int .i64 (cnt L x), H ++ X) := by
  have l1 := hS.len
  have key : ∀ ρ, (ρ 0 = v ∧ ρ 1 = .int .i64 x ∧ ρ 5 = .int .i64 0 ∧ ρ 6 = .int .i64 0) → ∃ X, done [.tmp 4] (andThen (blk 0 (E Try.prog hints (.loop l56_0) ρ H)) (E Try.prog hints (.seq (.region c56_7) .ret))) = some (.int .i64 (cnt L x), H ++ X) := by
    rintro ρ ⟨r0, r1, r5, r6⟩
    obtain ⟨ρ', G', e, h5, X, rfl⟩ := loop_inv (P := Try.prog) (hs := hints) (b := l56_0) (id := 0)
      (fun j ρ G => ρ 0 = v ∧ ρ 1 = .int .i64 x ∧ ρ 5 = .int .i64 (cnt (L.take j) x) ∧ ρ 6 = .int .i64 j ∧ ∃ X, G = H ++ X)
      (fun ρ G => ρ 5 = .int .i64 (cnt L x) ∧ ∃ X, G = H ++ X) L.length
      (by
        rintro j ρ G hj ⟨r0, r1, r5, r6, X, rfl⟩
        have hb : L[j]? = some L[j] := List.getElem?_eq_getElem hj
        obtain ⟨c, x1, x2, x3, x4, _, _⟩ := (hS.more X).idx hb
        have hlt : (j : Int) < (L.length : Int) := by omega
        have w := wrap64 ((j : Int) + 1) (by omega) (by omega)
        have hc := cnt_succ L x j _ hb
        have hcl2 := cnt_le2 L hL x j
        have w2 := wrap64 ((cnt (L.take j) x : Int) + 1) (by omega) (by omega)
        have i1 := live_lt x2
        generalize L[j] = s at *
        generalize cnt (L.take j) x = n at *
        have eh := fun F => has2_f s x F
        rw [hc]
        cases hs : stn s x
        · rw [hs] at eh
          refine ⟨?ρ1, ?G1, ?run1, ?_, ?_, ?_, ?_, ?_, ?inv1⟩
          case run1 =>
            simp (maxDischargeDepth := 8) only [l56_0, c56_3, c56_4, c56_5, c56_6, r0, r1, r5, r6, l1, hlt, x1, x2, x3, x4, i1, eh, w, w2, sL_len, sL_one, sL_take, RUN, Ed, knd, kndR, resV, binInt, mnmxV, mnmx2, fillL, unV, extractV, partV, loadAt, Nat.reduceAdd, Nat.reduceBEq, Nat.reduceEqDiff, Nat.reduceLT, Nat.reduceLeDiff, Nat.reduceMul, Nat.reduceSub, reduceIte, Int.reduceEq, Int.reduceNe, Int.reduceLT, Int.reduceLE, Int.reduceAdd, Int.reduceSub, Int.reduceMul, Int.reduceNeg, Int.reduceMod, Int.reduceDiv, Int.reduceTMod, Int.reduceTDiv, Int.reduceToNat, okChain_i, okLoads_nil, okLoads_in, okLoads_eq]
            rfl
          case inv1 => rfl
          all_goals first | (simp (maxDischargeDepth := 8) only [r0, r1, r5, r6, RUN, Ed, knd, kndR, resV, binInt, mnmxV, mnmx2, fillL, unV, lenV, extractV, partV, loadAt, Nat.reduceAdd, Nat.reduceBEq, Nat.reduceEqDiff, Nat.reduceLT, Nat.reduceLeDiff, Nat.reduceMul, Nat.reduceSub, reduceIte, Int.reduceEq, Int.reduceNe, Int.reduceLT, Int.reduceLE, Int.reduceAdd, Int.reduceSub, Int.reduceMul, Int.reduceNeg, Int.reduceMod, Int.reduceDiv, Int.reduceTMod, Int.reduceTDiv, Int.reduceToNat, okChain_i, okLoads_nil, okLoads_in, okLoads_eq]; done) | (simp (maxDischargeDepth := 8) only [r0, r1, r5, r6, RUN, Ed, knd, kndR, resV, binInt, mnmxV, mnmx2, fillL, unV, lenV, extractV, partV, loadAt, Nat.reduceAdd, Nat.reduceBEq, Nat.reduceEqDiff, Nat.reduceLT, Nat.reduceLeDiff, Nat.reduceMul, Nat.reduceSub, reduceIte, Int.reduceEq, Int.reduceNe, Int.reduceLT, Int.reduceLE, Int.reduceAdd, Int.reduceSub, Int.reduceMul, Int.reduceNeg, Int.reduceMod, Int.reduceDiv, Int.reduceTMod, Int.reduceTDiv, Int.reduceToNat, okChain_i, okLoads_nil, okLoads_in, okLoads_eq]; rfl)
        · rw [hs] at eh
          refine ⟨?ρ2, ?G2, ?run2, ?_, ?_, ?_, ?_, ?_, ?inv2⟩
          case run2 =>
            simp (maxDischargeDepth := 8) only [l56_0, c56_3, c56_4, c56_5, c56_6, r0, r1, r5, r6, l1, hlt, x1, x2, x3, x4, i1, eh, w, w2, sL_len, sL_one, sL_take, RUN, Ed, knd, kndR, resV, binInt, mnmxV, mnmx2, fillL, unV, extractV, partV, loadAt, Nat.reduceAdd, Nat.reduceBEq, Nat.reduceEqDiff, Nat.reduceLT, Nat.reduceLeDiff, Nat.reduceMul, Nat.reduceSub, reduceIte, Int.reduceEq, Int.reduceNe, Int.reduceLT, Int.reduceLE, Int.reduceAdd, Int.reduceSub, Int.reduceMul, Int.reduceNeg, Int.reduceMod, Int.reduceDiv, Int.reduceTMod, Int.reduceTDiv, Int.reduceToNat, okChain_i, okLoads_nil, okLoads_in, okLoads_eq]
            rfl
          case inv2 => rfl
          all_goals first | (simp (maxDischargeDepth := 8) only [r0, r1, r5, r6, RUN, Ed, knd, kndR, resV, binInt, mnmxV, mnmx2, fillL, unV, lenV, extractV, partV, loadAt, Nat.reduceAdd, Nat.reduceBEq, Nat.reduceEqDiff, Nat.reduceLT, Nat.reduceLeDiff, Nat.reduceMul, Nat.reduceSub, reduceIte, Int.reduceEq, Int.reduceNe, Int.reduceLT, Int.reduceLE, Int.reduceAdd, Int.reduceSub, Int.reduceMul, Int.reduceNeg, Int.reduceMod, Int.reduceDiv, Int.reduceTMod, Int.reduceTDiv, Int.reduceToNat, okChain_i, okLoads_nil, okLoads_in, okLoads_eq]; done) | (simp (maxDischargeDepth := 8) only [r0, r1, r5, r6, RUN, Ed, knd, kndR, resV, binInt, mnmxV, mnmx2, fillL, unV, lenV, extractV, partV, loadAt, Nat.reduceAdd, Nat.reduceBEq, Nat.reduceEqDiff, Nat.reduceLT, Nat.reduceLeDiff, Nat.reduceMul, Nat.reduceSub, reduceIte, Int.reduceEq, Int.reduceNe, Int.reduceLT, Int.reduceLE, Int.reduceAdd, Int.reduceSub, Int.reduceMul, Int.reduceNeg, Int.reduceMod, Int.reduceDiv, Int.reduceTMod, Int.reduceTDiv, Int.reduceToNat, okChain_i, okLoads_nil, okLoads_in, okLoads_eq]; rfl))
      (by
        rintro ρ G ⟨r0, r1, r5, r6, hX⟩
        rw [List.take_length] at r5
        have hlt : ¬ (L.length : Int) < (L.length : Int) := by omega
        refine ⟨?ρ3, G, ?run3, ?_, hX⟩
        case run3 =>
          simp (maxDischargeDepth := 8) only [l56_0, c56_3, r0, r6, l1, hlt, RUN, Ed, knd, kndR, resV, binInt, mnmxV, mnmx2, fillL, unV, extractV, partV, loadAt, Nat.reduceAdd, Nat.reduceBEq, Nat.reduceEqDiff, Nat.reduceLT, Nat.reduceLeDiff, Nat.reduceMul, Nat.reduceSub, reduceIte, Int.reduceEq, Int.reduceNe, Int.reduceLT, Int.reduceLE, Int.reduceAdd, Int.reduceSub, Int.reduceMul, Int.reduceNeg, Int.reduceMod, Int.reduceDiv, Int.reduceTMod, Int.reduceTDiv, Int.reduceToNat, okChain_i, okLoads_nil, okLoads_in, okLoads_eq]
          rfl
        simp (maxDischargeDepth := 8) only [r5, RUN, Ed, knd, kndR, resV, binInt, mnmxV, mnmx2, fillL, unV, lenV, extractV, partV, loadAt, Nat.reduceAdd, Nat.reduceBEq, Nat.reduceEqDiff, Nat.reduceLT, Nat.reduceLeDiff, Nat.reduceMul, Nat.reduceSub, reduceIte, Int.reduceEq, Int.reduceNe, Int.reduceLT, Int.reduceLE, Int.reduceAdd, Int.reduceSub, Int.reduceMul, Int.reduceNeg, Int.reduceMod, Int.reduceDiv, Int.reduceTMod, Int.reduceTDiv, Int.reduceToNat, okChain_i, okLoads_nil, okLoads_in, okLoads_eq])
      ρ H ⟨r0, r1, by simpa [cnt] using r5, r6, [], by simp⟩
    rw [e]
    refine ⟨X, ?_⟩
    simp (maxDischargeDepth := 8) only [c56_7, h5, RUN, Ed, knd, kndR, resV, binInt, mnmxV, mnmx2, fillL, unV, lenV, extractV, partV, loadAt, Nat.reduceAdd, Nat.reduceBEq, Nat.reduceEqDiff, Nat.reduceLT, Nat.reduceLeDiff, Nat.reduceMul, Nat.reduceSub, reduceIte, Int.reduceEq, Int.reduceNe, Int.reduceLT, Int.reduceLE, Int.reduceAdd, Int.reduceSub, Int.reduceMul, Int.reduceNeg, Int.reduceMod, Int.reduceDiv, Int.reduceTMod, Int.reduceTDiv, Int.reduceToNat, okChain_i, okLoads_nil, okLoads_in, okLoads_eq]
  rw [D_eq p56 _ _ (Nat.le_of_ble_eq_true rfl)]
  simp (maxDischargeDepth := 8) only [r56, b56, c56_0, c56_1, c56_2, RUN, Ed, knd, kndR, resV, binInt, mnmxV, mnmx2, fillL, unV, lenV, extractV, partV, loadAt, Nat.reduceAdd, Nat.reduceBEq, Nat.reduceEqDiff, Nat.reduceLT, Nat.reduceLeDiff, Nat.reduceMul, Nat.reduceSub, reduceIte, Int.reduceEq, Int.reduceNe, Int.reduceLT, Int.reduceLE, Int.reduceAdd, Int.reduceSub, Int.reduceMul, Int.reduceNeg, Int.reduceMod, Int.reduceDiv, Int.reduceTMod, Int.reduceTDiv, Int.reduceToNat, okChain_i, okLoads_nil, okLoads_in, okLoads_eq]
  refine key _ ⟨?_, ?_, ?_, ?_⟩
  all_goals simp (maxDischargeDepth := 8) only [RUN, Ed, knd, kndR, resV, binInt, mnmxV, mnmx2, fillL, unV, lenV, extractV, partV, loadAt, Nat.reduceAdd, Nat.reduceBEq, Nat.reduceEqDiff, Nat.reduceLT, Nat.reduceLeDiff, Nat.reduceMul, Nat.reduceSub, reduceIte, Int.reduceEq, Int.reduceNe, Int.reduceLT, Int.reduceLE, Int.reduceAdd, Int.reduceSub, Int.reduceMul, Int.reduceNeg, Int.reduceMod, Int.reduceDiv, Int.reduceTMod, Int.reduceTDiv, Int.reduceToNat, okChain_i, okLoads_nil, okLoads_in, okLoads_eq]
/-- In how many any one number stands at most. -/
def mst (M L : List Sp) : Int := M.foldl (fun n s => max n (cnt L s.1 : Int)) 0
theorem mst_succ (L : List Sp) (j : Nat) (s : Sp) (h : L[j]? = some s) : mst (L.take (j + 1)) L = max (mst (L.take j) L) (cnt L s.1) := by
  unfold mst
  rw [take_get L j s h, List.foldl_append]
  rfl
theorem most_f (v : Value) (L : List Sp) (hL : L.length ≤ 1000) (H : Heap) (hS : SS H v L) : ∃ X, D Try.prog hints 42 [v] H = some (.int .i64 (mst L L), H ++ X) := by
  have l1 := hS.len
  have key : ∀ ρ, (ρ 0 = v ∧ ρ 3 = .int .i64 0 ∧ ρ 6 = v ∧ ρ 7 = .int .i64 L.length ∧ ρ 8 = .int .i64 0) → ∃ X, done [.tmp 2] (andThen (blk 0 (E Try.prog hints (.loop l42_0) ρ H)) (E Try.prog hints (.seq (.region c42_7) .ret))) = some (.int .i64 (mst L L), H ++ X) := by
    rintro ρ ⟨r0, r3, r6, r7, r8⟩
    obtain ⟨ρ', G', e, h5, X, rfl⟩ := loop_inv (P := Try.prog) (hs := hints) (b := l42_0) (id := 0)
      (fun j ρ G => ρ 0 = v ∧ ρ 3 = .int .i64 (mst (L.take j) L) ∧ ρ 6 = v ∧ ρ 7 = .int .i64 L.length ∧ ρ 8 = .int .i64 j ∧ ∃ X, G = H ++ X)
      (fun ρ G => ρ 3 = .int .i64 (mst L L) ∧ ∃ X, G = H ++ X) L.length
      (by
        rintro j ρ G hj ⟨r0, r3, r6, r7, r8, X, rfl⟩
        have hb : L[j]? = some L[j] := List.getElem?_eq_getElem hj
        obtain ⟨c, x1, x2, x3, x4, _, _⟩ := (hS.more X).idx hb
        have hlt : (j : Int) < (L.length : Int) := by omega
        have w := wrap64 ((j : Int) + 1) (by omega) (by omega)
        have i1 := live_lt x2
        have hm := mst_succ L j _ hb
        rw [hm]
        generalize L[j] = s at *
        generalize mst (L.take j) L = n at *
        obtain ⟨X2, ec⟩ := many_f v L hL s.1 ((H ++ X) ++ [some ⟨true, 65, sL s⟩]) ((hS.more X).more _)
        simp only [List.append_assoc] at ec
        have s0 : (sL s)[0]? = some (.int .i64 s.1) := rfl
        refine ⟨?ρ1, ?G1, ?run1, ?_, ?_, ?_, ?_, ?_, ?_, ?inv1⟩
        case run1 =>
          simp (maxDischargeDepth := 8) only [l42_0, c42_3, c42_4, c42_5, c42_6, r0, r3, r6, r7, r8, hlt, x1, x2, x3, x4, i1, ec, w, s0, maxE, sL_len, sL_one, sL_take, RUN, Ed, knd, kndR, resV, binInt, mnmxV, mnmx2, fillL, unV, lenV, extractV, partV, loadAt, Nat.reduceAdd, Nat.reduceBEq, Nat.reduceEqDiff, Nat.reduceLT, Nat.reduceLeDiff, Nat.reduceMul, Nat.reduceSub, reduceIte, Int.reduceEq, Int.reduceNe, Int.reduceLT, Int.reduceLE, Int.reduceAdd, Int.reduceSub, Int.reduceMul, Int.reduceNeg, Int.reduceMod, Int.reduceDiv, Int.reduceTMod, Int.reduceTDiv, Int.reduceToNat, okChain_i, okLoads_nil, okLoads_in, okLoads_eq]
          rfl
        case inv1 => rfl
        all_goals first | (simp (maxDischargeDepth := 8) only [r0, r3, r6, r7, r8, RUN, Ed, knd, kndR, resV, binInt, mnmxV, mnmx2, fillL, unV, lenV, extractV, partV, loadAt, Nat.reduceAdd, Nat.reduceBEq, Nat.reduceEqDiff, Nat.reduceLT, Nat.reduceLeDiff, Nat.reduceMul, Nat.reduceSub, reduceIte, Int.reduceEq, Int.reduceNe, Int.reduceLT, Int.reduceLE, Int.reduceAdd, Int.reduceSub, Int.reduceMul, Int.reduceNeg, Int.reduceMod, Int.reduceDiv, Int.reduceTMod, Int.reduceTDiv, Int.reduceToNat, okChain_i, okLoads_nil, okLoads_in, okLoads_eq]; done) | (simp (maxDischargeDepth := 8) only [r0, r3, r6, r7, r8, RUN, Ed, knd, kndR, resV, binInt, mnmxV, mnmx2, fillL, unV, lenV, extractV, partV, loadAt, Nat.reduceAdd, Nat.reduceBEq, Nat.reduceEqDiff, Nat.reduceLT, Nat.reduceLeDiff, Nat.reduceMul, Nat.reduceSub, reduceIte, Int.reduceEq, Int.reduceNe, Int.reduceLT, Int.reduceLE, Int.reduceAdd, Int.reduceSub, Int.reduceMul, Int.reduceNeg, Int.reduceMod, Int.reduceDiv, Int.reduceTMod, Int.reduceTDiv, Int.reduceToNat, okChain_i, okLoads_nil, okLoads_in, okLoads_eq]; rfl))
      (by
        rintro ρ G ⟨r0, r3, r6, r7, r8, hX⟩
        rw [List.take_length] at r3
        have hlt : ¬ (L.length : Int) < (L.length : Int) := by omega
        refine ⟨?ρ3, G, ?run3, ?_, hX⟩
        case run3 =>
          simp (maxDischargeDepth := 8) only [l42_0, c42_3, r7, r8, hlt, RUN, Ed, knd, kndR, resV, binInt, mnmxV, mnmx2, fillL, unV, lenV, extractV, partV, loadAt, Nat.reduceAdd, Nat.reduceBEq, Nat.reduceEqDiff, Nat.reduceLT, Nat.reduceLeDiff, Nat.reduceMul, Nat.reduceSub, reduceIte, Int.reduceEq, Int.reduceNe, Int.reduceLT, Int.reduceLE, Int.reduceAdd, Int.reduceSub, Int.reduceMul, Int.reduceNeg, Int.reduceMod, Int.reduceDiv, Int.reduceTMod, Int.reduceTDiv, Int.reduceToNat, okChain_i, okLoads_nil, okLoads_in, okLoads_eq]
          rfl
        simp (maxDischargeDepth := 8) only [r3, RUN, Ed, knd, kndR, resV, binInt, mnmxV, mnmx2, fillL, unV, lenV, extractV, partV, loadAt, Nat.reduceAdd, Nat.reduceBEq, Nat.reduceEqDiff, Nat.reduceLT, Nat.reduceLeDiff, Nat.reduceMul, Nat.reduceSub, reduceIte, Int.reduceEq, Int.reduceNe, Int.reduceLT, Int.reduceLE, Int.reduceAdd, Int.reduceSub, Int.reduceMul, Int.reduceNeg, Int.reduceMod, Int.reduceDiv, Int.reduceTMod, Int.reduceTDiv, Int.reduceToNat, okChain_i, okLoads_nil, okLoads_in, okLoads_eq])
      ρ H ⟨r0, by simpa [mst] using r3, r6, r7, r8, [], by simp⟩
    rw [e]
    refine ⟨X, ?_⟩
    simp (maxDischargeDepth := 8) only [c42_7, h5, RUN, Ed, knd, kndR, resV, binInt, mnmxV, mnmx2, fillL, unV, lenV, extractV, partV, loadAt, Nat.reduceAdd, Nat.reduceBEq, Nat.reduceEqDiff, Nat.reduceLT, Nat.reduceLeDiff, Nat.reduceMul, Nat.reduceSub, reduceIte, Int.reduceEq, Int.reduceNe, Int.reduceLT, Int.reduceLE, Int.reduceAdd, Int.reduceSub, Int.reduceMul, Int.reduceNeg, Int.reduceMod, Int.reduceDiv, Int.reduceTMod, Int.reduceTDiv, Int.reduceToNat, okChain_i, okLoads_nil, okLoads_in, okLoads_eq]
  rw [D_eq p42 _ _ (Nat.le_of_ble_eq_true rfl)]
  simp (maxDischargeDepth := 8) only [r42, b42, c42_0, c42_1, c42_2, l1, RUN, Ed, knd, kndR, resV, binInt, mnmxV, mnmx2, fillL, unV, extractV, partV, loadAt, Nat.reduceAdd, Nat.reduceBEq, Nat.reduceEqDiff, Nat.reduceLT, Nat.reduceLeDiff, Nat.reduceMul, Nat.reduceSub, reduceIte, Int.reduceEq, Int.reduceNe, Int.reduceLT, Int.reduceLE, Int.reduceAdd, Int.reduceSub, Int.reduceMul, Int.reduceNeg, Int.reduceMod, Int.reduceDiv, Int.reduceTMod, Int.reduceTDiv, Int.reduceToNat, okChain_i, okLoads_nil, okLoads_in, okLoads_eq]
  refine key _ ⟨?_, ?_, ?_, ?_, ?_⟩
  all_goals simp (maxDischargeDepth := 8) only [RUN, Ed, knd, kndR, resV, binInt, mnmxV, mnmx2, fillL, unV, lenV, extractV, partV, loadAt, Nat.reduceAdd, Nat.reduceBEq, Nat.reduceEqDiff, Nat.reduceLT, Nat.reduceLeDiff, Nat.reduceMul, Nat.reduceSub, reduceIte, Int.reduceEq, Int.reduceNe, Int.reduceLT, Int.reduceLE, Int.reduceAdd, Int.reduceSub, Int.reduceMul, Int.reduceNeg, Int.reduceMod, Int.reduceDiv, Int.reduceTMod, Int.reduceTDiv, Int.reduceToNat, okChain_i, okLoads_nil, okLoads_in, okLoads_eq]
theorem mostIn_f (v : Value) (L : List Sp) (hL : L.length ≤ 1000) (H : Heap) (hS : SS H v L) : ∃ X, D Try.prog hints 43 [v] H = some (.int .i64 (mst L L), H ++ X) := by
  have l1 := hS.len
  have key : ∀ ρ, (ρ 0 = v ∧ ρ 3 = .int .i64 0 ∧ ρ 4 = .int .i64 0) → ∃ X, done [.tmp 2] (andThen (blk 0 (E Try.prog hints (.loop l43_0) ρ H)) (E Try.prog hints (.seq (.region c43_6) .ret))) = some (.int .i64 (mst L L), H ++ X) := by
    rintro ρ ⟨r0, r3, r4⟩
    obtain ⟨ρ', G', e, h5, X, rfl⟩ := loop_inv (P := Try.prog) (hs := hints) (b := l43_0) (id := 0)
      (fun j ρ G => ρ 0 = v ∧ ρ 3 = .int .i64 (mst (L.take j) L) ∧ ρ 4 = .int .i64 j ∧ ∃ X, G = H ++ X)
      (fun ρ G => ρ 3 = .int .i64 (mst L L) ∧ ∃ X, G = H ++ X) L.length
      (by
        rintro j ρ G hj ⟨r0, r3, r4, X, rfl⟩
        have hb : L[j]? = some L[j] := List.getElem?_eq_getElem hj
        obtain ⟨c, x1, x2, x3, x4, x5, _⟩ := (hS.more X).idx hb
        have hlt : (j : Int) < (L.length : Int) := by omega
        have w := wrap64 ((j : Int) + 1) (by omega) (by omega)
        have i1 := live_lt x2
        have hm := mst_succ L j _ hb
        rw [hm]
        generalize L[j] = s at *
        generalize mst (L.take j) L = n at *
        obtain ⟨X2, ec⟩ := in_f v L hL s.1 (H ++ X) (hS.more X)
        simp only [List.append_assoc] at ec
        refine ⟨?ρ1, ?G1, ?run1, ?_, ?_, ?_, ?_, ?inv1⟩
        case run1 =>
          simp (maxDischargeDepth := 8) only [l43_0, c43_3, c43_4, c43_5, r0, r3, r4, l1, hlt, x1, x2, x3, x4, x5, i1, ec, w, maxE, RUN, Ed, knd, kndR, resV, binInt, mnmxV, mnmx2, fillL, unV, extractV, partV, loadAt, Nat.reduceAdd, Nat.reduceBEq, Nat.reduceEqDiff, Nat.reduceLT, Nat.reduceLeDiff, Nat.reduceMul, Nat.reduceSub, reduceIte, Int.reduceEq, Int.reduceNe, Int.reduceLT, Int.reduceLE, Int.reduceAdd, Int.reduceSub, Int.reduceMul, Int.reduceNeg, Int.reduceMod, Int.reduceDiv, Int.reduceTMod, Int.reduceTDiv, Int.reduceToNat, okChain_i, okLoads_nil, okLoads_in, okLoads_eq]
          rfl
        case inv1 => rfl
        all_goals first | (simp (maxDischargeDepth := 8) only [r0, r3, r4, RUN, Ed, knd, kndR, resV, binInt, mnmxV, mnmx2, fillL, unV, lenV, extractV, partV, loadAt, Nat.reduceAdd, Nat.reduceBEq, Nat.reduceEqDiff, Nat.reduceLT, Nat.reduceLeDiff, Nat.reduceMul, Nat.reduceSub, reduceIte, Int.reduceEq, Int.reduceNe, Int.reduceLT, Int.reduceLE, Int.reduceAdd, Int.reduceSub, Int.reduceMul, Int.reduceNeg, Int.reduceMod, Int.reduceDiv, Int.reduceTMod, Int.reduceTDiv, Int.reduceToNat, okChain_i, okLoads_nil, okLoads_in, okLoads_eq]; done) | (simp (maxDischargeDepth := 8) only [r0, r3, r4, RUN, Ed, knd, kndR, resV, binInt, mnmxV, mnmx2, fillL, unV, lenV, extractV, partV, loadAt, Nat.reduceAdd, Nat.reduceBEq, Nat.reduceEqDiff, Nat.reduceLT, Nat.reduceLeDiff, Nat.reduceMul, Nat.reduceSub, reduceIte, Int.reduceEq, Int.reduceNe, Int.reduceLT, Int.reduceLE, Int.reduceAdd, Int.reduceSub, Int.reduceMul, Int.reduceNeg, Int.reduceMod, Int.reduceDiv, Int.reduceTMod, Int.reduceTDiv, Int.reduceToNat, okChain_i, okLoads_nil, okLoads_in, okLoads_eq]; rfl))
      (by
        rintro ρ G ⟨r0, r3, r4, hX⟩
        rw [List.take_length] at r3
        have hlt : ¬ (L.length : Int) < (L.length : Int) := by omega
        refine ⟨?ρ3, G, ?run3, ?_, hX⟩
        case run3 =>
          simp (maxDischargeDepth := 8) only [l43_0, c43_3, r0, r4, l1, hlt, RUN, Ed, knd, kndR, resV, binInt, mnmxV, mnmx2, fillL, unV, extractV, partV, loadAt, Nat.reduceAdd, Nat.reduceBEq, Nat.reduceEqDiff, Nat.reduceLT, Nat.reduceLeDiff, Nat.reduceMul, Nat.reduceSub, reduceIte, Int.reduceEq, Int.reduceNe, Int.reduceLT, Int.reduceLE, Int.reduceAdd, Int.reduceSub, Int.reduceMul, Int.reduceNeg, Int.reduceMod, Int.reduceDiv, Int.reduceTMod, Int.reduceTDiv, Int.reduceToNat, okChain_i, okLoads_nil, okLoads_in, okLoads_eq]
          rfl
        simp (maxDischargeDepth := 8) only [r3, RUN, Ed, knd, kndR, resV, binInt, mnmxV, mnmx2, fillL, unV, lenV, extractV, partV, loadAt, Nat.reduceAdd, Nat.reduceBEq, Nat.reduceEqDiff, Nat.reduceLT, Nat.reduceLeDiff, Nat.reduceMul, Nat.reduceSub, reduceIte, Int.reduceEq, Int.reduceNe, Int.reduceLT, Int.reduceLE, Int.reduceAdd, Int.reduceSub, Int.reduceMul, Int.reduceNeg, Int.reduceMod, Int.reduceDiv, Int.reduceTMod, Int.reduceTDiv, Int.reduceToNat, okChain_i, okLoads_nil, okLoads_in, okLoads_eq])
      ρ H ⟨r0, by simpa [mst] using r3, r4, [], by simp⟩
    rw [e]
    refine ⟨X, ?_⟩
    simp (maxDischargeDepth := 8) only [c43_6, h5, RUN, Ed, knd, kndR, resV, binInt, mnmxV, mnmx2, fillL, unV, lenV, extractV, partV, loadAt, Nat.reduceAdd, Nat.reduceBEq, Nat.reduceEqDiff, Nat.reduceLT, Nat.reduceLeDiff, Nat.reduceMul, Nat.reduceSub, reduceIte, Int.reduceEq, Int.reduceNe, Int.reduceLT, Int.reduceLE, Int.reduceAdd, Int.reduceSub, Int.reduceMul, Int.reduceNeg, Int.reduceMod, Int.reduceDiv, Int.reduceTMod, Int.reduceTDiv, Int.reduceToNat, okChain_i, okLoads_nil, okLoads_in, okLoads_eq]
  rw [D_eq p43 _ _ (Nat.le_of_ble_eq_true rfl)]
  simp (maxDischargeDepth := 8) only [r43, b43, c43_0, c43_1, c43_2, RUN, Ed, knd, kndR, resV, binInt, mnmxV, mnmx2, fillL, unV, lenV, extractV, partV, loadAt, Nat.reduceAdd, Nat.reduceBEq, Nat.reduceEqDiff, Nat.reduceLT, Nat.reduceLeDiff, Nat.reduceMul, Nat.reduceSub, reduceIte, Int.reduceEq, Int.reduceNe, Int.reduceLT, Int.reduceLE, Int.reduceAdd, Int.reduceSub, Int.reduceMul, Int.reduceNeg, Int.reduceMod, Int.reduceDiv, Int.reduceTMod, Int.reduceTDiv, Int.reduceToNat, okChain_i, okLoads_nil, okLoads_in, okLoads_eq]
  refine key _ ⟨?_, ?_, ?_⟩
  all_goals simp (maxDischargeDepth := 8) only [RUN, Ed, knd, kndR, resV, binInt, mnmxV, mnmx2, fillL, unV, lenV, extractV, partV, loadAt, Nat.reduceAdd, Nat.reduceBEq, Nat.reduceEqDiff, Nat.reduceLT, Nat.reduceLeDiff, Nat.reduceMul, Nat.reduceSub, reduceIte, Int.reduceEq, Int.reduceNe, Int.reduceLT, Int.reduceLE, Int.reduceAdd, Int.reduceSub, Int.reduceMul, Int.reduceNeg, Int.reduceMod, Int.reduceDiv, Int.reduceTMod, Int.reduceTDiv, Int.reduceToNat, okChain_i, okLoads_nil, okLoads_in, okLoads_eq]
end Go.Proofs.Ytbamnfladjkkcaa.Sim
