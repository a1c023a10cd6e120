/- Sums of bytes over the plain heap. -/
import Derived.Test.YtdipdpkdmiokeaaDoorByt
import Derived.Test.YtdipdpkdmiokeaaDoorSim21
import Derived.Test.YtdipdpkdmiokeaaDoorCrcMath
namespace Go.Proofs.YtdipdpkdmiokeaaDoor.Sim
open Go Go.Proofs.YtdipdpkdmiokeaaDoor.CrcMath
set_option linter.unusedSimpArgs false
set_option linter.unusedVariables false
abbrev B8 := BitVec 8
theorem e_and (s : BitVec 16) : (decide (IntKind.u16.wrap ((BitVec.ofInt IntKind.u16.bits (w16 s) &&& BitVec.ofInt IntKind.u16.bits 32768).toNat : Int) = 0)) = !s.msb := by
  have h := and16 s
  rw [ands16] at h
  cases hm : s.msb
  · have := h.2 hm
    simp only [Bool.not_false, decide_eq_true_eq]; exact this
  · simp only [Bool.not_true, decide_eq_false_iff_not]
    intro e
    have := h.1 e
    rw [hm] at this; cases this
theorem e_dbl (s : BitVec 16) : IntKind.u16.wrap (w16 s * 2 ^ min 1 IntKind.u16.bits) = w16 (s <<< 1) := dbl16 s
theorem e_xor (a b : BitVec 16) : IntKind.u16.wrap ((BitVec.ofInt IntKind.u16.bits (w16 a) ^^^ BitVec.ofInt IntKind.u16.bits (w16 b)).toNat : Int) = w16 (a ^^^ b) := xor16 a b
theorem e_turn (a : BitVec 16) : IntKind.u16.wrap ((BitVec.ofInt IntKind.u16.bits (w16 a) ^^^ BitVec.ofInt IntKind.u16.bits 4129).toNat : Int) = w16 (a ^^^ 0x1021#16) := xor16 a 0x1021#16
theorem e_up (x : B8) : IntKind.u16.wrap (IntKind.u16.wrap (w8 x) * 2 ^ min 8 IntKind.u16.bits) = w16 (up x) := up16 x
theorem regs_succ (n : Nat) (s : BitVec 16) : regs (n + 1) s = reg (regs n s) := by
  rw [regs_add n 1]; rfl
theorem inner25 (s : BitVec 16) (ρ : Fr) (H : Heap) (r0 : ρ 0 = .int .u16 (w16 s)) (r19 : ρ 19 = .int .i64 (0 : Nat)) :
    ∃ ρ' H', E Tryd.prog hints (.loop l54_0) ρ H = some (.exit 2, ρ', H') ∧ (∀ t, wrC l54_0 t = false → ρ' t = ρ t) ∧ (ρ' 0 = .int .u16 (w16 (regs 8 s)) ∧ H' = H) := by
  refine loop_keep ρ (fun k ρ G => ρ 0 = .int .u16 (w16 (regs k s)) ∧ ρ 19 = .int .i64 k ∧ G = H) (fun ρ G => ρ 0 = .int .u16 (w16 (regs 8 s)) ∧ G = H) 8 ?_ ?_ H ⟨r0, r19, rfl⟩
  · rintro k ρ G hk _ ⟨r0, r19, rfl⟩
    rw [regs_succ]
    generalize regs k s = u at *
    have hlt : (k : Int) < 8 := by omega
    have w := wrap64 ((k : Int) + 1) (by omega) (by omega)
    have ha := e_and u
    cases hm : u.msb
    · rw [hm] at ha
      have hr : reg u = u <<< 1 := by unfold reg; rw [hm]; rfl
      rw [hr]
      refine ⟨?ρ1, G, ?run1, ?_, ?_, rfl⟩
      case run1 =>
        simp (maxDischargeDepth := 8) only [l54_0, c54_0, c54_1, c54_2, c54_3, c54_4, c54_5, c54_6, c54_7, c54_8, c54_9, c54_10, c54_11, c54_12, c54_13, r0, r19, hlt, w, ha, e_dbl, RUN, Ed, knd, kndR, resV, binInt, mnmxV, mnmx2, fillL, unV, lenV, extractV, partV, loadAt, Nat.reduceAdd, Nat.reduceBEq, Nat.reduceEqDiff, Nat.reduceLT, Nat.reduceLeDiff, Nat.reduceMul, Nat.reduceSub, reduceIte, Int.reduceEq, Int.reduceNe, Int.reduceLT, Int.reduceLE, Int.reduceAdd, Int.reduceSub, Int.reduceMul, Int.reduceNeg, Int.reduceMod, Int.reduceDiv, Int.reduceTMod, Int.reduceTDiv, Int.reduceToNat, okChain_i, okLoads_nil, okLoads_in, okLoads_eq]
        rfl
      all_goals first | (simp (maxDischargeDepth := 8) only [RUN, Ed, knd, kndR, resV, binInt, mnmxV, mnmx2, fillL, unV, lenV, extractV, partV, loadAt, Nat.reduceAdd, Nat.reduceBEq, Nat.reduceEqDiff, Nat.reduceLT, Nat.reduceLeDiff, Nat.reduceMul, Nat.reduceSub, reduceIte, Int.reduceEq, Int.reduceNe, Int.reduceLT, Int.reduceLE, Int.reduceAdd, Int.reduceSub, Int.reduceMul, Int.reduceNeg, Int.reduceMod, Int.reduceDiv, Int.reduceTMod, Int.reduceTDiv, Int.reduceToNat, okChain_i, okLoads_nil, okLoads_in, okLoads_eq]; done) | (simp (maxDischargeDepth := 8) only [RUN, Ed, knd, kndR, resV, binInt, mnmxV, mnmx2, fillL, unV, lenV, extractV, partV, loadAt, Nat.reduceAdd, Nat.reduceBEq, Nat.reduceEqDiff, Nat.reduceLT, Nat.reduceLeDiff, Nat.reduceMul, Nat.reduceSub, reduceIte, Int.reduceEq, Int.reduceNe, Int.reduceLT, Int.reduceLE, Int.reduceAdd, Int.reduceSub, Int.reduceMul, Int.reduceNeg, Int.reduceMod, Int.reduceDiv, Int.reduceTMod, Int.reduceTDiv, Int.reduceToNat, okChain_i, okLoads_nil, okLoads_in, okLoads_eq]; rfl)
    · rw [hm] at ha
      have hr : reg u = (u <<< 1) ^^^ 0x1021#16 := by unfold reg; rw [hm]; rfl
      rw [hr]
      refine ⟨?ρ2, G, ?run2, ?_, ?_, rfl⟩
      case run2 =>
        simp (maxDischargeDepth := 8) only [l54_0, c54_0, c54_1, c54_2, c54_3, c54_4, c54_5, c54_6, c54_7, c54_8, c54_9, c54_10, c54_11, c54_12, c54_13, r0, r19, hlt, w, ha, e_dbl, e_turn, RUN, Ed, knd, kndR, resV, binInt, mnmxV, mnmx2, fillL, unV, lenV, extractV, partV, loadAt, Nat.reduceAdd, Nat.reduceBEq, Nat.reduceEqDiff, Nat.reduceLT, Nat.reduceLeDiff, Nat.reduceMul, Nat.reduceSub, reduceIte, Int.reduceEq, Int.reduceNe, Int.reduceLT, Int.reduceLE, Int.reduceAdd, Int.reduceSub, Int.reduceMul, Int.reduceNeg, Int.reduceMod, Int.reduceDiv, Int.reduceTMod, Int.reduceTDiv, Int.reduceToNat, okChain_i, okLoads_nil, okLoads_in, okLoads_eq]
        rfl
      all_goals first | (simp (maxDischargeDepth := 8) only [RUN, Ed, knd, kndR, resV, binInt, mnmxV, mnmx2, fillL, unV, lenV, extractV, partV, loadAt, Nat.reduceAdd, Nat.reduceBEq, Nat.reduceEqDiff, Nat.reduceLT, Nat.reduceLeDiff, Nat.reduceMul, Nat.reduceSub, reduceIte, Int.reduceEq, Int.reduceNe, Int.reduceLT, Int.reduceLE, Int.reduceAdd, Int.reduceSub, Int.reduceMul, Int.reduceNeg, Int.reduceMod, Int.reduceDiv, Int.reduceTMod, Int.reduceTDiv, Int.reduceToNat, okChain_i, okLoads_nil, okLoads_in, okLoads_eq]; done) | (simp (maxDischargeDepth := 8) only [RUN, Ed, knd, kndR, resV, binInt, mnmxV, mnmx2, fillL, unV, lenV, extractV, partV, loadAt, Nat.reduceAdd, Nat.reduceBEq, Nat.reduceEqDiff, Nat.reduceLT, Nat.reduceLeDiff, Nat.reduceMul, Nat.reduceSub, reduceIte, Int.reduceEq, Int.reduceNe, Int.reduceLT, Int.reduceLE, Int.reduceAdd, Int.reduceSub, Int.reduceMul, Int.reduceNeg, Int.reduceMod, Int.reduceDiv, Int.reduceTMod, Int.reduceTDiv, Int.reduceToNat, okChain_i, okLoads_nil, okLoads_in, okLoads_eq]; rfl)
  · rintro ρ G _ ⟨r0, r19, rfl⟩
    have r19' : ρ 19 = .int .i64 8 := r19
    refine ⟨?ρ3, G, ?run3, ?_, rfl⟩
    case run3 =>
      simp (maxDischargeDepth := 8) only [l54_0, c54_6, r19', RUN, Ed, knd, kndR, resV, binInt, mnmxV, mnmx2, fillL, unV, lenV, extractV, partV, loadAt, Nat.reduceAdd, Nat.reduceBEq, Nat.reduceEqDiff, Nat.reduceLT, Nat.reduceLeDiff, Nat.reduceMul, Nat.reduceSub, reduceIte, Int.reduceEq, Int.reduceNe, Int.reduceLT, Int.reduceLE, Int.reduceAdd, Int.reduceSub, Int.reduceMul, Int.reduceNeg, Int.reduceMod, Int.reduceDiv, Int.reduceTMod, Int.reduceTDiv, Int.reduceToNat, okChain_i, okLoads_nil, okLoads_in, okLoads_eq]
      rfl
    simp (maxDischargeDepth := 8) only [r0, RUN, Ed, knd, kndR, resV, binInt, mnmxV, mnmx2, fillL, unV, lenV, extractV, partV, loadAt, Nat.reduceAdd, Nat.reduceBEq, Nat.reduceEqDiff, Nat.reduceLT, Nat.reduceLeDiff, Nat.reduceMul, Nat.reduceSub, reduceIte, Int.reduceEq, Int.reduceNe, Int.reduceLT, Int.reduceLE, Int.reduceAdd, Int.reduceSub, Int.reduceMul, Int.reduceNeg, Int.reduceMod, Int.reduceDiv, Int.reduceTMod, Int.reduceTDiv, Int.reduceToNat, okChain_i, okLoads_nil, okLoads_in, okLoads_eq]
theorem inner27 (s : BitVec 16) (ρ : Fr) (H : Heap) (r0 : ρ 0 = .int .u16 (w16 s)) (r6 : ρ 6 = .int .i64 (0 : Nat)) :
    ∃ ρ' H', E Tryd.prog hints (.loop l55_0) ρ H = some (.exit 2, ρ', H') ∧ (∀ t, wrC l55_0 t = false → ρ' t = ρ t) ∧ (ρ' 0 = .int .u16 (w16 (regs 8 s)) ∧ H' = H) := by
  refine loop_keep ρ (fun k ρ G => ρ 0 = .int .u16 (w16 (regs k s)) ∧ ρ 6 = .int .i64 k ∧ G = H) (fun ρ G => ρ 0 = .int .u16 (w16 (regs 8 s)) ∧ G = H) 8 ?_ ?_ H ⟨r0, r6, rfl⟩
  · rintro k ρ G hk _ ⟨r0, r6, rfl⟩
    rw [regs_succ]
    generalize regs k s = u at *
    have hlt : (k : Int) < 8 := by omega
    have w := wrap64 ((k : Int) + 1) (by omega) (by omega)
    have ha := e_and u
    cases hm : u.msb
    · rw [hm] at ha
      have hr : reg u = u <<< 1 := by unfold reg; rw [hm]; rfl
      rw [hr]
      refine ⟨?ρ1, G, ?run1, ?_, ?_, rfl⟩
      case run1 =>
        simp (maxDischargeDepth := 8) only [l55_0, c55_0, c55_1, c55_2, c55_3, c55_4, c55_5, c55_6, c55_7, c55_8, c55_9, c55_10, c55_11, r0, r6, hlt, w, ha, e_dbl, RUN, Ed, knd, kndR, resV, binInt, mnmxV, mnmx2, fillL, unV, lenV, extractV, partV, loadAt, Nat.reduceAdd, Nat.reduceBEq, Nat.reduceEqDiff, Nat.reduceLT, Nat.reduceLeDiff, Nat.reduceMul, Nat.reduceSub, reduceIte, Int.reduceEq, Int.reduceNe, Int.reduceLT, Int.reduceLE, Int.reduceAdd, Int.reduceSub, Int.reduceMul, Int.reduceNeg, Int.reduceMod, Int.reduceDiv, Int.reduceTMod, Int.reduceTDiv, Int.reduceToNat, okChain_i, okLoads_nil, okLoads_in, okLoads_eq]
        rfl
      all_goals first | (simp (maxDischargeDepth := 8) only [RUN, Ed, knd, kndR, resV, binInt, mnmxV, mnmx2, fillL, unV, lenV, extractV, partV, loadAt, Nat.reduceAdd, Nat.reduceBEq, Nat.reduceEqDiff, Nat.reduceLT, Nat.reduceLeDiff, Nat.reduceMul, Nat.reduceSub, reduceIte, Int.reduceEq, Int.reduceNe, Int.reduceLT, Int.reduceLE, Int.reduceAdd, Int.reduceSub, Int.reduceMul, Int.reduceNeg, Int.reduceMod, Int.reduceDiv, Int.reduceTMod, Int.reduceTDiv, Int.reduceToNat, okChain_i, okLoads_nil, okLoads_in, okLoads_eq]; done) | (simp (maxDischargeDepth := 8) only [RUN, Ed, knd, kndR, resV, binInt, mnmxV, mnmx2, fillL, unV, lenV, extractV, partV, loadAt, Nat.reduceAdd, Nat.reduceBEq, Nat.reduceEqDiff, Nat.reduceLT, Nat.reduceLeDiff, Nat.reduceMul, Nat.reduceSub, reduceIte, Int.reduceEq, Int.reduceNe, Int.reduceLT, Int.reduceLE, Int.reduceAdd, Int.reduceSub, Int.reduceMul, Int.reduceNeg, Int.reduceMod, Int.reduceDiv, Int.reduceTMod, Int.reduceTDiv, Int.reduceToNat, okChain_i, okLoads_nil, okLoads_in, okLoads_eq]; rfl)
    · rw [hm] at ha
      have hr : reg u = (u <<< 1) ^^^ 0x1021#16 := by unfold reg; rw [hm]; rfl
      rw [hr]
      refine ⟨?ρ2, G, ?run2, ?_, ?_, rfl⟩
      case run2 =>
        simp (maxDischargeDepth := 8) only [l55_0, c55_0, c55_1, c55_2, c55_3, c55_4, c55_5, c55_6, c55_7, c55_8, c55_9, c55_10, c55_11, r0, r6, hlt, w, ha, e_dbl, e_turn, RUN, Ed, knd, kndR, resV, binInt, mnmxV, mnmx2, fillL, unV, lenV, extractV, partV, loadAt, Nat.reduceAdd, Nat.reduceBEq, Nat.reduceEqDiff, Nat.reduceLT, Nat.reduceLeDiff, Nat.reduceMul, Nat.reduceSub, reduceIte, Int.reduceEq, Int.reduceNe, Int.reduceLT, Int.reduceLE, Int.reduceAdd, Int.reduceSub, Int.reduceMul, Int.reduceNeg, Int.reduceMod, Int.reduceDiv, Int.reduceTMod, Int.reduceTDiv, Int.reduceToNat, okChain_i, okLoads_nil, okLoads_in, okLoads_eq]
        rfl
      all_goals first | (simp (maxDischargeDepth := 8) only [RUN, Ed, knd, kndR, resV, binInt, mnmxV, mnmx2, fillL, unV, lenV, extractV, partV, loadAt, Nat.reduceAdd, Nat.reduceBEq, Nat.reduceEqDiff, Nat.reduceLT, Nat.reduceLeDiff, Nat.reduceMul, Nat.reduceSub, reduceIte, Int.reduceEq, Int.reduceNe, Int.reduceLT, Int.reduceLE, Int.reduceAdd, Int.reduceSub, Int.reduceMul, Int.reduceNeg, Int.reduceMod, Int.reduceDiv, Int.reduceTMod, Int.reduceTDiv, Int.reduceToNat, okChain_i, okLoads_nil, okLoads_in, okLoads_eq]; done) | (simp (maxDischargeDepth := 8) only [RUN, Ed, knd, kndR, resV, binInt, mnmxV, mnmx2, fillL, unV, lenV, extractV, partV, loadAt, Nat.reduceAdd, Nat.reduceBEq, Nat.reduceEqDiff, Nat.reduceLT, Nat.reduceLeDiff, Nat.reduceMul, Nat.reduceSub, reduceIte, Int.reduceEq, Int.reduceNe, Int.reduceLT, Int.reduceLE, Int.reduceAdd, Int.reduceSub, Int.reduceMul, Int.reduceNeg, Int.reduceMod, Int.reduceDiv, Int.reduceTMod, Int.reduceTDiv, Int.reduceToNat, okChain_i, okLoads_nil, okLoads_in, okLoads_eq]; rfl)
  · rintro ρ G _ ⟨r0, r6, rfl⟩
    have r6' : ρ 6 = .int .i64 8 := r6
    refine ⟨?ρ3, G, ?run3, ?_, rfl⟩
    case run3 =>
      simp (maxDischargeDepth := 8) only [l55_0, c55_5, r6', RUN, Ed, knd, kndR, resV, binInt, mnmxV, mnmx2, fillL, unV, lenV, extractV, partV, loadAt, Nat.reduceAdd, Nat.reduceBEq, Nat.reduceEqDiff, Nat.reduceLT, Nat.reduceLeDiff, Nat.reduceMul, Nat.reduceSub, reduceIte, Int.reduceEq, Int.reduceNe, Int.reduceLT, Int.reduceLE, Int.reduceAdd, Int.reduceSub, Int.reduceMul, Int.reduceNeg, Int.reduceMod, Int.reduceDiv, Int.reduceTMod, Int.reduceTDiv, Int.reduceToNat, okChain_i, okLoads_nil, okLoads_in, okLoads_eq]
      rfl
    simp (maxDischargeDepth := 8) only [r0, RUN, Ed, knd, kndR, resV, binInt, mnmxV, mnmx2, fillL, unV, lenV, extractV, partV, loadAt, Nat.reduceAdd, Nat.reduceBEq, Nat.reduceEqDiff, Nat.reduceLT, Nat.reduceLeDiff, Nat.reduceMul, Nat.reduceSub, reduceIte, Int.reduceEq, Int.reduceNe, Int.reduceLT, Int.reduceLE, Int.reduceAdd, Int.reduceSub, Int.reduceMul, Int.reduceNeg, Int.reduceMod, Int.reduceDiv, Int.reduceTMod, Int.reduceTDiv, Int.reduceToNat, okChain_i, okLoads_nil, okLoads_in, okLoads_eq]
theorem more_succ (s : BitVec 16) (m : List B8) (j : Nat) (x : B8) (h : m[j]? = some x) : more s (m.take (j + 1)) = regs 8 (more s (m.take j) ^^^ up x) := by
  rw [take_getG m j x h, more_append]; rfl
theorem map_get {m : List B8} {j : Nat} {x : B8} (h : m[j]? = some x) : (m.map w8)[j]? = some (w8 x) := by rw [List.getElem?_map, h]; rfl
theorem more_f (s : BitVec 16) (v : Value) (m : List B8) (hl : m.length ≤ 9000000000000000000) (H : Heap) (hB : BS H v (m.map w8)) : D Tryd.prog hints 54 [.int .u16 (w16 s), v] H = some (.int .u16 (w16 (more s m)), H) := by
  have l1 := hB.len
  rw [List.length_map] at l1
  have key : ∀ ρ, (ρ 0 = .int .u16 (w16 s) ∧ ρ 8 = v ∧ ρ 9 = .int .i64 m.length ∧ ρ 10 = .int .i64 (0 : Nat)) → done [.tmp 4] (andThen (blk 0 (E Tryd.prog hints (.loop l54_1) ρ H)) (E Tryd.prog hints (.seq (.region c54_13) .ret))) = some (.int .u16 (w16 (more s m)), H) := by
    rintro ρ0 ⟨r0, r8, r9, r10⟩
    obtain ⟨ρ', G', e, hf, h0, rfl⟩ := loop_keep (P := Tryd.prog) (hs := hints) (b := l54_1) (id := 0) ρ0 (fun j ρ G => ρ 0 = .int .u16 (w16 (more s (m.take j))) ∧ ρ 10 = .int .i64 j ∧ G = H) (fun ρ G => ρ 0 = .int .u16 (w16 (more s m)) ∧ G = H) m.length
      (by
        rintro j ρ G hj hf ⟨q0, q10, rfl⟩
        have q8 : ρ 8 = v := (hf 8 rfl).trans r8
        have q9 := (hf 9 rfl).trans r9
        have hb : m[j]? = some m[j] := List.getElem?_eq_getElem hj
        obtain ⟨i, o, x1, ow, ty, cells, x2, x3⟩ := hB.idx (map_get hb)
        have i1 := live_ltG x2
        have hlt : (j : Int) < (m.length : Int) := by omega
        have w := wrap64 ((j : Int) + 1) (by omega) (by omega)
        rw [more_succ s m j _ hb]
        generalize m[j] = x at *
        generalize more s (m.take j) = u at *
        have key2 : ∀ ρ1, ρ1 0 = .int .u16 (w16 (u ^^^ up x)) → ρ1 10 = .int .i64 j → ρ1 19 = .int .i64 (0 : Nat) → ∃ ρ' H', andThen (blk 1 (blk 2 (E Tryd.prog hints (.loop l54_0) ρ1 G))) (E Tryd.prog hints (.region c54_12)) = some (.normal, ρ', H') ∧ (ρ' 0 = .int .u16 (w16 (regs 8 (u ^^^ up x))) ∧ ρ' 10 = .int .i64 (j + 1 : Nat) ∧ H' = G) := by
          rintro ρ1 z0 z10 z19
          obtain ⟨ρ2, H2, e2, hf2, y0, rfl⟩ := inner25 _ ρ1 G z0 z19
          have y10 := (hf2 10 rfl).trans z10
          rw [e2]
          refine ⟨?ρ3, H2, ?run3, ?_, ?_, rfl⟩
          case run3 =>
            simp (maxDischargeDepth := 8) only [c54_12, y10, w, RUN, Ed, knd, kndR, resV, binInt, mnmxV, mnmx2, fillL, unV, lenV, extractV, partV, loadAt, Nat.reduceAdd, Nat.reduceBEq, Nat.reduceEqDiff, Nat.reduceLT, Nat.reduceLeDiff, Nat.reduceMul, Nat.reduceSub, reduceIte, Int.reduceEq, Int.reduceNe, Int.reduceLT, Int.reduceLE, Int.reduceAdd, Int.reduceSub, Int.reduceMul, Int.reduceNeg, Int.reduceMod, Int.reduceDiv, Int.reduceTMod, Int.reduceTDiv, Int.reduceToNat, okChain_i, okLoads_nil, okLoads_in, okLoads_eq]
            rfl
          all_goals first | (simp (maxDischargeDepth := 8) only [y0, RUN, Ed, knd, kndR, resV, binInt, mnmxV, mnmx2, fillL, unV, lenV, extractV, partV, loadAt, Nat.reduceAdd, Nat.reduceBEq, Nat.reduceEqDiff, Nat.reduceLT, Nat.reduceLeDiff, Nat.reduceMul, Nat.reduceSub, reduceIte, Int.reduceEq, Int.reduceNe, Int.reduceLT, Int.reduceLE, Int.reduceAdd, Int.reduceSub, Int.reduceMul, Int.reduceNeg, Int.reduceMod, Int.reduceDiv, Int.reduceTMod, Int.reduceTDiv, Int.reduceToNat, okChain_i, okLoads_nil, okLoads_in, okLoads_eq]; done) | (simp (maxDischargeDepth := 8) only [RUN, Ed, knd, kndR, resV, binInt, mnmxV, mnmx2, fillL, unV, lenV, extractV, partV, loadAt, Nat.reduceAdd, Nat.reduceBEq, Nat.reduceEqDiff, Nat.reduceLT, Nat.reduceLeDiff, Nat.reduceMul, Nat.reduceSub, reduceIte, Int.reduceEq, Int.reduceNe, Int.reduceLT, Int.reduceLE, Int.reduceAdd, Int.reduceSub, Int.reduceMul, Int.reduceNeg, Int.reduceMod, Int.reduceDiv, Int.reduceTMod, Int.reduceTDiv, Int.reduceToNat, okChain_i, okLoads_nil, okLoads_in, okLoads_eq]; rfl)
        have hlo : l54_1 = (.seq (.region c54_2) (.seq (.cond (.tmp 11) .skip (.exit 0)) (.seq (.block 1 (.seq (.region c54_3) (.seq (.region c54_4) (.seq (.region c54_5) (.block 2 (.loop l54_0)))))) (.region c54_12)))) := rfl
        rw [hlo]
        simp (maxDischargeDepth := 8) only [c54_2, c54_3, c54_4, c54_5, q0, q8, q9, q10, hlt, x1, x2, x3, i1, e_up, e_xor, RUN, Ed, knd, kndR, resV, binInt, mnmxV, mnmx2, fillL, unV, lenV, extractV, partV, loadAt, Nat.reduceAdd, Nat.reduceBEq, Nat.reduceEqDiff, Nat.reduceLT, Nat.reduceLeDiff, Nat.reduceMul, Nat.reduceSub, reduceIte, Int.reduceEq, Int.reduceNe, Int.reduceLT, Int.reduceLE, Int.reduceAdd, Int.reduceSub, Int.reduceMul, Int.reduceNeg, Int.reduceMod, Int.reduceDiv, Int.reduceTMod, Int.reduceTDiv, Int.reduceToNat, okChain_i, okLoads_nil, okLoads_in, okLoads_eq]
        refine key2 _ ?_ ?_ ?_
        all_goals first | (simp (maxDischargeDepth := 8) only [q10, RUN, Ed, knd, kndR, resV, binInt, mnmxV, mnmx2, fillL, unV, lenV, extractV, partV, loadAt, Nat.reduceAdd, Nat.reduceBEq, Nat.reduceEqDiff, Nat.reduceLT, Nat.reduceLeDiff, Nat.reduceMul, Nat.reduceSub, reduceIte, Int.reduceEq, Int.reduceNe, Int.reduceLT, Int.reduceLE, Int.reduceAdd, Int.reduceSub, Int.reduceMul, Int.reduceNeg, Int.reduceMod, Int.reduceDiv, Int.reduceTMod, Int.reduceTDiv, Int.reduceToNat, okChain_i, okLoads_nil, okLoads_in, okLoads_eq]; done) | (simp (maxDischargeDepth := 8) only [q10, RUN, Ed, knd, kndR, resV, binInt, mnmxV, mnmx2, fillL, unV, lenV, extractV, partV, loadAt, Nat.reduceAdd, Nat.reduceBEq, Nat.reduceEqDiff, Nat.reduceLT, Nat.reduceLeDiff, Nat.reduceMul, Nat.reduceSub, reduceIte, Int.reduceEq, Int.reduceNe, Int.reduceLT, Int.reduceLE, Int.reduceAdd, Int.reduceSub, Int.reduceMul, Int.reduceNeg, Int.reduceMod, Int.reduceDiv, Int.reduceTMod, Int.reduceTDiv, Int.reduceToNat, okChain_i, okLoads_nil, okLoads_in, okLoads_eq]; rfl))
      (by
        rintro ρ G hf ⟨q0, q10, rfl⟩
        have q9 := (hf 9 rfl).trans r9
        rw [List.take_length] at q0
        have hlt : ¬ (m.length : Int) < (m.length : Int) := by omega
        refine ⟨?ρ4, G, ?run4, ?_, rfl⟩
        case run4 =>
          simp (maxDischargeDepth := 8) only [l54_1, c54_2, q9, q10, hlt, RUN, Ed, knd, kndR, resV, binInt, mnmxV, mnmx2, fillL, unV, lenV, extractV, partV, loadAt, Nat.reduceAdd, Nat.reduceBEq, Nat.reduceEqDiff, Nat.reduceLT, Nat.reduceLeDiff, Nat.reduceMul, Nat.reduceSub, reduceIte, Int.reduceEq, Int.reduceNe, Int.reduceLT, Int.reduceLE, Int.reduceAdd, Int.reduceSub, Int.reduceMul, Int.reduceNeg, Int.reduceMod, Int.reduceDiv, Int.reduceTMod, Int.reduceTDiv, Int.reduceToNat, okChain_i, okLoads_nil, okLoads_in, okLoads_eq]
          rfl
        simp (maxDischargeDepth := 8) only [q0, RUN, Ed, knd, kndR, resV, binInt, mnmxV, mnmx2, fillL, unV, lenV, extractV, partV, loadAt, Nat.reduceAdd, Nat.reduceBEq, Nat.reduceEqDiff, Nat.reduceLT, Nat.reduceLeDiff, Nat.reduceMul, Nat.reduceSub, reduceIte, Int.reduceEq, Int.reduceNe, Int.reduceLT, Int.reduceLE, Int.reduceAdd, Int.reduceSub, Int.reduceMul, Int.reduceNeg, Int.reduceMod, Int.reduceDiv, Int.reduceTMod, Int.reduceTDiv, Int.reduceToNat, okChain_i, okLoads_nil, okLoads_in, okLoads_eq])
      H ⟨by simpa [more] using r0, r10, rfl⟩
    rw [e]
    simp (maxDischargeDepth := 8) only [c54_13, h0, RUN, Ed, knd, kndR, resV, binInt, mnmxV, mnmx2, fillL, unV, lenV, extractV, partV, loadAt, Nat.reduceAdd, Nat.reduceBEq, Nat.reduceEqDiff, Nat.reduceLT, Nat.reduceLeDiff, Nat.reduceMul, Nat.reduceSub, reduceIte, Int.reduceEq, Int.reduceNe, Int.reduceLT, Int.reduceLE, Int.reduceAdd, Int.reduceSub, Int.reduceMul, Int.reduceNeg, Int.reduceMod, Int.reduceDiv, Int.reduceTMod, Int.reduceTDiv, Int.reduceToNat, okChain_i, okLoads_nil, okLoads_in, okLoads_eq]
  rw [D_eq p54 _ _ (Nat.le_of_ble_eq_true rfl)]
  simp (maxDischargeDepth := 8) only [r54, b54, c54_0, c54_1, l1, RUN, Ed, knd, kndR, resV, binInt, mnmxV, mnmx2, fillL, unV, extractV, partV, loadAt, Nat.reduceAdd, Nat.reduceBEq, Nat.reduceEqDiff, Nat.reduceLT, Nat.reduceLeDiff, Nat.reduceMul, Nat.reduceSub, reduceIte, Int.reduceEq, Int.reduceNe, Int.reduceLT, Int.reduceLE, Int.reduceAdd, Int.reduceSub, Int.reduceMul, Int.reduceNeg, Int.reduceMod, Int.reduceDiv, Int.reduceTMod, Int.reduceTDiv, Int.reduceToNat, okChain_i, okLoads_nil, okLoads_in, okLoads_eq]
  refine key _ ⟨?_, ?_, ?_, ?_⟩
  all_goals first | (simp (maxDischargeDepth := 8) only [RUN, Ed, knd, kndR, resV, binInt, mnmxV, mnmx2, fillL, unV, lenV, extractV, partV, loadAt, Nat.reduceAdd, Nat.reduceBEq, Nat.reduceEqDiff, Nat.reduceLT, Nat.reduceLeDiff, Nat.reduceMul, Nat.reduceSub, reduceIte, Int.reduceEq, Int.reduceNe, Int.reduceLT, Int.reduceLE, Int.reduceAdd, Int.reduceSub, Int.reduceMul, Int.reduceNeg, Int.reduceMod, Int.reduceDiv, Int.reduceTMod, Int.reduceTDiv, Int.reduceToNat, okChain_i, okLoads_nil, okLoads_in, okLoads_eq]; done) | (simp (maxDischargeDepth := 8) only [RUN, Ed, knd, kndR, resV, binInt, mnmxV, mnmx2, fillL, unV, lenV, extractV, partV, loadAt, Nat.reduceAdd, Nat.reduceBEq, Nat.reduceEqDiff, Nat.reduceLT, Nat.reduceLeDiff, Nat.reduceMul, Nat.reduceSub, reduceIte, Int.reduceEq, Int.reduceNe, Int.reduceLT, Int.reduceLE, Int.reduceAdd, Int.reduceSub, Int.reduceMul, Int.reduceNeg, Int.reduceMod, Int.reduceDiv, Int.reduceTMod, Int.reduceTDiv, Int.reduceToNat, okChain_i, okLoads_nil, okLoads_in, okLoads_eq]; rfl)
theorem more2_f (s : BitVec 16) (v : Value) (m : List B8) (hl : m.length ≤ 9000000000000000000) (H : Heap) (hB : BS H v (m.map w8)) : D Tryd.prog hints 55 [.int .u16 (w16 s), v] H = some (.int .u16 (w16 (more s m)), H) := by
  have l1 := hB.len
  rw [List.length_map] at l1
  have key : ∀ ρ, (ρ 0 = .int .u16 (w16 s) ∧ ρ 1 = v ∧ ρ 5 = .int .i64 (0 : Nat)) → done [.tmp 4] (andThen (blk 0 (E Tryd.prog hints (.loop l55_1) ρ H)) (E Tryd.prog hints (.seq (.region c55_11) .ret))) = some (.int .u16 (w16 (more s m)), H) := by
    rintro ρ0 ⟨r0, r1, r5⟩
    obtain ⟨ρ', G', e, hf, h0, rfl⟩ := loop_keep (P := Tryd.prog) (hs := hints) (b := l55_1) (id := 0) ρ0 (fun j ρ G => ρ 0 = .int .u16 (w16 (more s (m.take j))) ∧ ρ 5 = .int .i64 j ∧ G = H) (fun ρ G => ρ 0 = .int .u16 (w16 (more s m)) ∧ G = H) m.length
      (by
        rintro j ρ G hj hf ⟨q0, q5, rfl⟩
        have q1 : ρ 1 = v := (hf 1 rfl).trans r1
        have hb : m[j]? = some m[j] := List.getElem?_eq_getElem hj
        obtain ⟨i, o, x1, ow, ty, cells, x2, x3⟩ := hB.idx (map_get hb)
        have i1 := live_ltG x2
        have hlt : (j : Int) < (m.length : Int) := by omega
        have w := wrap64 ((j : Int) + 1) (by omega) (by omega)
        rw [more_succ s m j _ hb]
        generalize m[j] = x at *
        generalize more s (m.take j) = u at *
        have key2 : ∀ ρ1, ρ1 0 = .int .u16 (w16 (u ^^^ up x)) → ρ1 5 = .int .i64 j → ρ1 6 = .int .i64 (0 : Nat) → ∃ ρ' H', andThen (blk 1 (blk 2 (E Tryd.prog hints (.loop l55_0) ρ1 G))) (E Tryd.prog hints (.region c55_10)) = some (.normal, ρ', H') ∧ (ρ' 0 = .int .u16 (w16 (regs 8 (u ^^^ up x))) ∧ ρ' 5 = .int .i64 (j + 1 : Nat) ∧ H' = G) := by
          rintro ρ1 z0 z5 z6
          obtain ⟨ρ2, H2, e2, hf2, y0, rfl⟩ := inner27 _ ρ1 G z0 z6
          have y5 := (hf2 5 rfl).trans z5
          rw [e2]
          refine ⟨?ρ3, H2, ?run3, ?_, ?_, rfl⟩
          case run3 =>
            simp (maxDischargeDepth := 8) only [c55_10, y5, w, RUN, Ed, knd, kndR, resV, binInt, mnmxV, mnmx2, fillL, unV, lenV, extractV, partV, loadAt, Nat.reduceAdd, Nat.reduceBEq, Nat.reduceEqDiff, Nat.reduceLT, Nat.reduceLeDiff, Nat.reduceMul, Nat.reduceSub, reduceIte, Int.reduceEq, Int.reduceNe, Int.reduceLT, Int.reduceLE, Int.reduceAdd, Int.reduceSub, Int.reduceMul, Int.reduceNeg, Int.reduceMod, Int.reduceDiv, Int.reduceTMod, Int.reduceTDiv, Int.reduceToNat, okChain_i, okLoads_nil, okLoads_in, okLoads_eq]
            rfl
          all_goals first | (simp (maxDischargeDepth := 8) only [y0, RUN, Ed, knd, kndR, resV, binInt, mnmxV, mnmx2, fillL, unV, lenV, extractV, partV, loadAt, Nat.reduceAdd, Nat.reduceBEq, Nat.reduceEqDiff, Nat.reduceLT, Nat.reduceLeDiff, Nat.reduceMul, Nat.reduceSub, reduceIte, Int.reduceEq, Int.reduceNe, Int.reduceLT, Int.reduceLE, Int.reduceAdd, Int.reduceSub, Int.reduceMul, Int.reduceNeg, Int.reduceMod, Int.reduceDiv, Int.reduceTMod, Int.reduceTDiv, Int.reduceToNat, okChain_i, okLoads_nil, okLoads_in, okLoads_eq]; done) | (simp (maxDischargeDepth := 8) only [RUN, Ed, knd, kndR, resV, binInt, mnmxV, mnmx2, fillL, unV, lenV, extractV, partV, loadAt, Nat.reduceAdd, Nat.reduceBEq, Nat.reduceEqDiff, Nat.reduceLT, Nat.reduceLeDiff, Nat.reduceMul, Nat.reduceSub, reduceIte, Int.reduceEq, Int.reduceNe, Int.reduceLT, Int.reduceLE, Int.reduceAdd, Int.reduceSub, Int.reduceMul, Int.reduceNeg, Int.reduceMod, Int.reduceDiv, Int.reduceTMod, Int.reduceTDiv, Int.reduceToNat, okChain_i, okLoads_nil, okLoads_in, okLoads_eq]; rfl)
        have hlo : l55_1 = (.seq (.seq (.region c55_2) (.cond (.tmp 10) .skip (.exit 0))) (.seq (.block 1 (.seq (.region c55_3) (.seq (.region c55_4) (.block 2 (.loop l55_0))))) (.region c55_10))) := rfl
        rw [hlo]
        simp (maxDischargeDepth := 8) only [c55_2, c55_3, c55_4, q0, q1, q5, l1, hlt, x1, x2, x3, i1, e_up, e_xor, RUN, Ed, knd, kndR, resV, binInt, mnmxV, mnmx2, fillL, unV, extractV, partV, loadAt, Nat.reduceAdd, Nat.reduceBEq, Nat.reduceEqDiff, Nat.reduceLT, Nat.reduceLeDiff, Nat.reduceMul, Nat.reduceSub, reduceIte, Int.reduceEq, Int.reduceNe, Int.reduceLT, Int.reduceLE, Int.reduceAdd, Int.reduceSub, Int.reduceMul, Int.reduceNeg, Int.reduceMod, Int.reduceDiv, Int.reduceTMod, Int.reduceTDiv, Int.reduceToNat, okChain_i, okLoads_nil, okLoads_in, okLoads_eq]
        refine key2 _ ?_ ?_ ?_
        all_goals first | (simp (maxDischargeDepth := 8) only [q5, RUN, Ed, knd, kndR, resV, binInt, mnmxV, mnmx2, fillL, unV, lenV, extractV, partV, loadAt, Nat.reduceAdd, Nat.reduceBEq, Nat.reduceEqDiff, Nat.reduceLT, Nat.reduceLeDiff, Nat.reduceMul, Nat.reduceSub, reduceIte, Int.reduceEq, Int.reduceNe, Int.reduceLT, Int.reduceLE, Int.reduceAdd, Int.reduceSub, Int.reduceMul, Int.reduceNeg, Int.reduceMod, Int.reduceDiv, Int.reduceTMod, Int.reduceTDiv, Int.reduceToNat, okChain_i, okLoads_nil, okLoads_in, okLoads_eq]; done) | (simp (maxDischargeDepth := 8) only [q5, RUN, Ed, knd, kndR, resV, binInt, mnmxV, mnmx2, fillL, unV, lenV, extractV, partV, loadAt, Nat.reduceAdd, Nat.reduceBEq, Nat.reduceEqDiff, Nat.reduceLT, Nat.reduceLeDiff, Nat.reduceMul, Nat.reduceSub, reduceIte, Int.reduceEq, Int.reduceNe, Int.reduceLT, Int.reduceLE, Int.reduceAdd, Int.reduceSub, Int.reduceMul, Int.reduceNeg, Int.reduceMod, Int.reduceDiv, Int.reduceTMod, Int.reduceTDiv, Int.reduceToNat, okChain_i, okLoads_nil, okLoads_in, okLoads_eq]; rfl))
      (by
        rintro ρ G hf ⟨q0, q5, rfl⟩
        have q1 : ρ 1 = v := (hf 1 rfl).trans r1
        rw [List.take_length] at q0
        have hlt : ¬ (m.length : Int) < (m.length : Int) := by omega
        refine ⟨?ρ4, G, ?run4, ?_, rfl⟩
        case run4 =>
          simp (maxDischargeDepth := 8) only [l55_1, c55_2, q1, q5, l1, hlt, RUN, Ed, knd, kndR, resV, binInt, mnmxV, mnmx2, fillL, unV, extractV, partV, loadAt, Nat.reduceAdd, Nat.reduceBEq, Nat.reduceEqDiff, Nat.reduceLT, Nat.reduceLeDiff, Nat.reduceMul, Nat.reduceSub, reduceIte, Int.reduceEq, Int.reduceNe, Int.reduceLT, Int.reduceLE, Int.reduceAdd, Int.reduceSub, Int.reduceMul, Int.reduceNeg, Int.reduceMod, Int.reduceDiv, Int.reduceTMod, Int.reduceTDiv, Int.reduceToNat, okChain_i, okLoads_nil, okLoads_in, okLoads_eq]
          rfl
        simp (maxDischargeDepth := 8) only [q0, RUN, Ed, knd, kndR, resV, binInt, mnmxV, mnmx2, fillL, unV, lenV, extractV, partV, loadAt, Nat.reduceAdd, Nat.reduceBEq, Nat.reduceEqDiff, Nat.reduceLT, Nat.reduceLeDiff, Nat.reduceMul, Nat.reduceSub, reduceIte, Int.reduceEq, Int.reduceNe, Int.reduceLT, Int.reduceLE, Int.reduceAdd, Int.reduceSub, Int.reduceMul, Int.reduceNeg, Int.reduceMod, Int.reduceDiv, Int.reduceTMod, Int.reduceTDiv, Int.reduceToNat, okChain_i, okLoads_nil, okLoads_in, okLoads_eq])
      H ⟨by simpa [more] using r0, r5, rfl⟩
    rw [e]
    simp (maxDischargeDepth := 8) only [c55_11, h0, RUN, Ed, knd, kndR, resV, binInt, mnmxV, mnmx2, fillL, unV, lenV, extractV, partV, loadAt, Nat.reduceAdd, Nat.reduceBEq, Nat.reduceEqDiff, Nat.reduceLT, Nat.reduceLeDiff, Nat.reduceMul, Nat.reduceSub, reduceIte, Int.reduceEq, Int.reduceNe, Int.reduceLT, Int.reduceLE, Int.reduceAdd, Int.reduceSub, Int.reduceMul, Int.reduceNeg, Int.reduceMod, Int.reduceDiv, Int.reduceTMod, Int.reduceTDiv, Int.reduceToNat, okChain_i, okLoads_nil, okLoads_in, okLoads_eq]
  rw [D_eq p55 _ _ (Nat.le_of_ble_eq_true rfl)]
  simp (maxDischargeDepth := 8) only [r55, b55, c55_0, c55_1, RUN, Ed, knd, kndR, resV, binInt, mnmxV, mnmx2, fillL, unV, lenV, extractV, partV, loadAt, Nat.reduceAdd, Nat.reduceBEq, Nat.reduceEqDiff, Nat.reduceLT, Nat.reduceLeDiff, Nat.reduceMul, Nat.reduceSub, reduceIte, Int.reduceEq, Int.reduceNe, Int.reduceLT, Int.reduceLE, Int.reduceAdd, Int.reduceSub, Int.reduceMul, Int.reduceNeg, Int.reduceMod, Int.reduceDiv, Int.reduceTMod, Int.reduceTDiv, Int.reduceToNat, okChain_i, okLoads_nil, okLoads_in, okLoads_eq]
  refine key _ ⟨?_, ?_, ?_⟩
  all_goals first | (simp (maxDischargeDepth := 8) only [RUN, Ed, knd, kndR, resV, binInt, mnmxV, mnmx2, fillL, unV, lenV, extractV, partV, loadAt, Nat.reduceAdd, Nat.reduceBEq, Nat.reduceEqDiff, Nat.reduceLT, Nat.reduceLeDiff, Nat.reduceMul, Nat.reduceSub, reduceIte, Int.reduceEq, Int.reduceNe, Int.reduceLT, Int.reduceLE, Int.reduceAdd, Int.reduceSub, Int.reduceMul, Int.reduceNeg, Int.reduceMod, Int.reduceDiv, Int.reduceTMod, Int.reduceTDiv, Int.reduceToNat, okChain_i, okLoads_nil, okLoads_in, okLoads_eq]; done) | (simp (maxDischargeDepth := 8) only [RUN, Ed, knd, kndR, resV, binInt, mnmxV, mnmx2, fillL, unV, lenV, extractV, partV, loadAt, Nat.reduceAdd, Nat.reduceBEq, Nat.reduceEqDiff, Nat.reduceLT, Nat.reduceLeDiff, Nat.reduceMul, Nat.reduceSub, reduceIte, Int.reduceEq, Int.reduceNe, Int.reduceLT, Int.reduceLE, Int.reduceAdd, Int.reduceSub, Int.reduceMul, Int.reduceNeg, Int.reduceMod, Int.reduceDiv, Int.reduceTMod, Int.reduceTDiv, Int.reduceToNat, okChain_i, okLoads_nil, okLoads_in, okLoads_eq]; rfl)
def crc (m : List B8) : BitVec 16 := more 0xffff#16 m
theorem sum_f (v : Value) (m : List B8) (hl : m.length ≤ 9000000000000000000) (H : Heap) (hB : BS H v (m.map w8)) : D Tryd.prog hints 41 [v] H = some (.int .u16 (w16 (crc m)), H) := by
  have e := more_f 0xffff#16 v m hl H hB
  rw [show w16 0xffff#16 = 65535 from rfl] at e
  rw [D_eq p41 _ _ (Nat.le_of_ble_eq_true rfl)]
  simp (maxDischargeDepth := 8) only [r41, b41, c41_0, c41_1, e, crc, RUN, Ed, knd, kndR, resV, binInt, mnmxV, mnmx2, fillL, unV, lenV, extractV, partV, loadAt, Nat.reduceAdd, Nat.reduceBEq, Nat.reduceEqDiff, Nat.reduceLT, Nat.reduceLeDiff, Nat.reduceMul, Nat.reduceSub, reduceIte, Int.reduceEq, Int.reduceNe, Int.reduceLT, Int.reduceLE, Int.reduceAdd, Int.reduceSub, Int.reduceMul, Int.reduceNeg, Int.reduceMod, Int.reduceDiv, Int.reduceTMod, Int.reduceTDiv, Int.reduceToNat, okChain_i, okLoads_nil, okLoads_in, okLoads_eq]
theorem sum2_f (v : Value) (m : List B8) (hl : m.length ≤ 9000000000000000000) (H : Heap) (hB : BS H v (m.map w8)) : D Tryd.prog hints 44 [v] H = some (.int .u16 (w16 (crc m)), H) := by
  have e := more2_f 0xffff#16 v m hl H hB
  rw [show w16 0xffff#16 = 65535 from rfl] at e
  rw [D_eq p44 _ _ (Nat.le_of_ble_eq_true rfl)]
  simp (maxDischargeDepth := 8) only [r44, b44, c44_0, c44_1, e, crc, RUN, Ed, knd, kndR, resV, binInt, mnmxV, mnmx2, fillL, unV, lenV, extractV, partV, loadAt, Nat.reduceAdd, Nat.reduceBEq, Nat.reduceEqDiff, Nat.reduceLT, Nat.reduceLeDiff, Nat.reduceMul, Nat.reduceSub, reduceIte, Int.reduceEq, Int.reduceNe, Int.reduceLT, Int.reduceLE, Int.reduceAdd, Int.reduceSub, Int.reduceMul, Int.reduceNeg, Int.reduceMod, Int.reduceDiv, Int.reduceTMod, Int.reduceTDiv, Int.reduceToNat, okChain_i, okLoads_nil, okLoads_in, okLoads_eq]
end Go.Proofs.YtdipdpkdmiokeaaDoor.Sim
