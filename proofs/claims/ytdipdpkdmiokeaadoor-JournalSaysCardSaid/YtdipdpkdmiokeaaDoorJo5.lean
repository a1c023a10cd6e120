/- A journal's writes go to the other slot. -/
import Derived.Test.YtdipdpkdmiokeaaDoorJo4
import Derived.Test.YtdipdpkdmiokeaaDoorSim21
namespace Go.Proofs.YtdipdpkdmiokeaaDoor.Sim
open Go Go.Proofs.YtdipdpkdmiokeaaDoor.CrcMath
set_option linter.unusedSimpArgs false
set_option linter.unusedVariables false
theorem wrs_range (r : Rec) (k : Nat) : ∀ p ∈ wrs r k, (k : Int) ≤ p.1 ∧ p.1 < (k : Int) + 44 := by
  intro p hp
  simp only [wrs, List.mem_append, List.mem_cons, List.mem_map, List.mem_range, List.not_mem_nil, or_false] at hp
  rcases hp with (rfl | ⟨i, hi, rfl⟩) | rfl
  · simp only; omega
  · simp only; omega
  · simp only; omega
theorem inner10 (G : Heap) (ws : Value) (l : List Wr) (hll : l.length ≤ 1000) (N q : Int) (hNq : (N = -1 ∧ q = 0) ∨ (N = 0 ∧ q = 1) ∨ (N = 1 ∧ q = 0)) (hl : ∀ p ∈ l, 44 * q ≤ p.1 ∧ p.1 < 44 * q + 44) (hW : WS G ws l) (ρ0 : Fr) (q10 : ρ0 10 = ws) (q12 : ρ0 12 = .int .i64 N) (q13 : ρ0 13 = .int .i64 (0 : Nat)) :
    ∃ ρ', E Tryd.prog hints (.loop l10_0) ρ0 G = some (.exit 2, ρ', G) ∧ (∀ t, wrC l10_0 t = false → ρ' t = ρ0 t) := by
  obtain ⟨ρ', G', e, hf, rfl⟩ := loop_keep (P := Tryd.prog) (hs := hints) (b := l10_0) (id := 2) ρ0 (fun j ρ G' => ρ 13 = .int .i64 j ∧ G' = G) (fun ρ G' => G' = G) l.length
    (by
      rintro j ρ G' hj hf ⟨r13, rfl⟩
      have r10 := (hf 10 rfl).trans q10
      have r12 := (hf 12 rfl).trans q12
      have hp : l[j]? = some l[j] := List.getElem?_eq_getElem hj
      obtain ⟨i, x1, ow, ty, cells, x2, x3, x4, x5, x6⟩ := hW.idx hp
      have i2 := live_ltG x2
      have hr := hl _ (List.getElem_mem hj)
      have lw := hW.len
      have hlt : (j : Int) < (l.length : Int) := by omega
      have wj := wrap64 ((j : Int) + 1) (by omega) (by omega)
      generalize l[j] = p at *
      obtain ⟨a, b⟩ := p
      simp only at hr x5 x6
      have ha0 : ¬ a < 0 := by omega
      have ha1 : ¬ 88 ≤ a := by omega
      have hnn : (0 : Int) ≤ a := by omega
      have hq : IntKind.i64.wrap (a / 44) = q := by rw [wrap64 _ (by omega) (by omega)]; omega
      have hq' : IntKind.i64.wrap (a.tdiv 44) = q := by rw [tdivL _ _ hnn]; exact hq
      rcases hNq with ⟨rfl, rfl⟩ | ⟨rfl, rfl⟩ | ⟨rfl, rfl⟩
      · refine ⟨?ρa, G', ?runa, ?_, rfl⟩
        case runa =>
          simp (maxDischargeDepth := 8) only [l10_0, c10_0, c10_1, c10_2, c10_3, c10_4, c10_5, c10_6, c10_7, c10_8, c10_9, c10_10, c10_11, c10_12, c10_13, c10_14, c10_15, c10_16, c10_17, c10_18, c10_19, c10_20, c10_21, r10, r12, r13, x1, x2, x5, i2, lw, hlt, ha0, ha1, hnn, hq, hq', wj, RUN, Ed, knd, kndR, resV, binInt, mnmxV, mnmx2, fillL, unV, extractV, partV, loadAt, Nat.reduceAdd, Nat.reduceBEq, Nat.reduceEqDiff, Nat.reduceLT, Nat.reduceLeDiff, Nat.reduceMul, Nat.reduceSub, reduceIte, Int.reduceEq, Int.reduceNe, Int.reduceLT, Int.reduceLE, Int.reduceAdd, Int.reduceSub, Int.reduceMul, Int.reduceNeg, Int.reduceMod, Int.reduceDiv, Int.reduceTMod, Int.reduceTDiv, Int.reduceToNat, okChain_i, okLoads_nil, okLoads_in, okLoads_eq]
          rfl
        first | (simp (maxDischargeDepth := 8) only [RUN, Ed, knd, kndR, resV, binInt, mnmxV, mnmx2, fillL, unV, lenV, extractV, partV, loadAt, Nat.reduceAdd, Nat.reduceBEq, Nat.reduceEqDiff, Nat.reduceLT, Nat.reduceLeDiff, Nat.reduceMul, Nat.reduceSub, reduceIte, Int.reduceEq, Int.reduceNe, Int.reduceLT, Int.reduceLE, Int.reduceAdd, Int.reduceSub, Int.reduceMul, Int.reduceNeg, Int.reduceMod, Int.reduceDiv, Int.reduceTMod, Int.reduceTDiv, Int.reduceToNat, okChain_i, okLoads_nil, okLoads_in, okLoads_eq]; done) | (simp (maxDischargeDepth := 8) only [RUN, Ed, knd, kndR, resV, binInt, mnmxV, mnmx2, fillL, unV, lenV, extractV, partV, loadAt, Nat.reduceAdd, Nat.reduceBEq, Nat.reduceEqDiff, Nat.reduceLT, Nat.reduceLeDiff, Nat.reduceMul, Nat.reduceSub, reduceIte, Int.reduceEq, Int.reduceNe, Int.reduceLT, Int.reduceLE, Int.reduceAdd, Int.reduceSub, Int.reduceMul, Int.reduceNeg, Int.reduceMod, Int.reduceDiv, Int.reduceTMod, Int.reduceTDiv, Int.reduceToNat, okChain_i, okLoads_nil, okLoads_in, okLoads_eq]; rfl)
      · refine ⟨?ρb, G', ?runb, ?_, rfl⟩
        case runb =>
          simp (maxDischargeDepth := 8) only [l10_0, c10_0, c10_1, c10_2, c10_3, c10_4, c10_5, c10_6, c10_7, c10_8, c10_9, c10_10, c10_11, c10_12, c10_13, c10_14, c10_15, c10_16, c10_17, c10_18, c10_19, c10_20, c10_21, r10, r12, r13, x1, x2, x5, i2, lw, hlt, ha0, ha1, hnn, hq, hq', wj, RUN, Ed, knd, kndR, resV, binInt, mnmxV, mnmx2, fillL, unV, extractV, partV, loadAt, Nat.reduceAdd, Nat.reduceBEq, Nat.reduceEqDiff, Nat.reduceLT, Nat.reduceLeDiff, Nat.reduceMul, Nat.reduceSub, reduceIte, Int.reduceEq, Int.reduceNe, Int.reduceLT, Int.reduceLE, Int.reduceAdd, Int.reduceSub, Int.reduceMul, Int.reduceNeg, Int.reduceMod, Int.reduceDiv, Int.reduceTMod, Int.reduceTDiv, Int.reduceToNat, okChain_i, okLoads_nil, okLoads_in, okLoads_eq]
          rfl
        first | (simp (maxDischargeDepth := 8) only [RUN, Ed, knd, kndR, resV, binInt, mnmxV, mnmx2, fillL, unV, lenV, extractV, partV, loadAt, Nat.reduceAdd, Nat.reduceBEq, Nat.reduceEqDiff, Nat.reduceLT, Nat.reduceLeDiff, Nat.reduceMul, Nat.reduceSub, reduceIte, Int.reduceEq, Int.reduceNe, Int.reduceLT, Int.reduceLE, Int.reduceAdd, Int.reduceSub, Int.reduceMul, Int.reduceNeg, Int.reduceMod, Int.reduceDiv, Int.reduceTMod, Int.reduceTDiv, Int.reduceToNat, okChain_i, okLoads_nil, okLoads_in, okLoads_eq]; done) | (simp (maxDischargeDepth := 8) only [RUN, Ed, knd, kndR, resV, binInt, mnmxV, mnmx2, fillL, unV, lenV, extractV, partV, loadAt, Nat.reduceAdd, Nat.reduceBEq, Nat.reduceEqDiff, Nat.reduceLT, Nat.reduceLeDiff, Nat.reduceMul, Nat.reduceSub, reduceIte, Int.reduceEq, Int.reduceNe, Int.reduceLT, Int.reduceLE, Int.reduceAdd, Int.reduceSub, Int.reduceMul, Int.reduceNeg, Int.reduceMod, Int.reduceDiv, Int.reduceTMod, Int.reduceTDiv, Int.reduceToNat, okChain_i, okLoads_nil, okLoads_in, okLoads_eq]; rfl)
      · refine ⟨?ρc, G', ?runc, ?_, rfl⟩
        case runc =>
          simp (maxDischargeDepth := 8) only [l10_0, c10_0, c10_1, c10_2, c10_3, c10_4, c10_5, c10_6, c10_7, c10_8, c10_9, c10_10, c10_11, c10_12, c10_13, c10_14, c10_15, c10_16, c10_17, c10_18, c10_19, c10_20, c10_21, r10, r12, r13, x1, x2, x5, i2, lw, hlt, ha0, ha1, hnn, hq, hq', wj, RUN, Ed, knd, kndR, resV, binInt, mnmxV, mnmx2, fillL, unV, extractV, partV, loadAt, Nat.reduceAdd, Nat.reduceBEq, Nat.reduceEqDiff, Nat.reduceLT, Nat.reduceLeDiff, Nat.reduceMul, Nat.reduceSub, reduceIte, Int.reduceEq, Int.reduceNe, Int.reduceLT, Int.reduceLE, Int.reduceAdd, Int.reduceSub, Int.reduceMul, Int.reduceNeg, Int.reduceMod, Int.reduceDiv, Int.reduceTMod, Int.reduceTDiv, Int.reduceToNat, okChain_i, okLoads_nil, okLoads_in, okLoads_eq]
          rfl
        first | (simp (maxDischargeDepth := 8) only [RUN, Ed, knd, kndR, resV, binInt, mnmxV, mnmx2, fillL, unV, lenV, extractV, partV, loadAt, Nat.reduceAdd, Nat.reduceBEq, Nat.reduceEqDiff, Nat.reduceLT, Nat.reduceLeDiff, Nat.reduceMul, Nat.reduceSub, reduceIte, Int.reduceEq, Int.reduceNe, Int.reduceLT, Int.reduceLE, Int.reduceAdd, Int.reduceSub, Int.reduceMul, Int.reduceNeg, Int.reduceMod, Int.reduceDiv, Int.reduceTMod, Int.reduceTDiv, Int.reduceToNat, okChain_i, okLoads_nil, okLoads_in, okLoads_eq]; done) | (simp (maxDischargeDepth := 8) only [RUN, Ed, knd, kndR, resV, binInt, mnmxV, mnmx2, fillL, unV, lenV, extractV, partV, loadAt, Nat.reduceAdd, Nat.reduceBEq, Nat.reduceEqDiff, Nat.reduceLT, Nat.reduceLeDiff, Nat.reduceMul, Nat.reduceSub, reduceIte, Int.reduceEq, Int.reduceNe, Int.reduceLT, Int.reduceLE, Int.reduceAdd, Int.reduceSub, Int.reduceMul, Int.reduceNeg, Int.reduceMod, Int.reduceDiv, Int.reduceTMod, Int.reduceTDiv, Int.reduceToNat, okChain_i, okLoads_nil, okLoads_in, okLoads_eq]; rfl))
    (by
      rintro ρ G' hf ⟨r13, rfl⟩
      have r10 := (hf 10 rfl).trans q10
      have lw := hW.len
      have hlt : ¬ (l.length : Int) < (l.length : Int) := by omega
      refine ⟨?ρ2, G', ?run2, rfl⟩
      case run2 =>
        simp (maxDischargeDepth := 8) only [l10_0, c10_12, r10, r13, lw, hlt, RUN, Ed, knd, kndR, resV, binInt, mnmxV, mnmx2, fillL, unV, extractV, partV, loadAt, Nat.reduceAdd, Nat.reduceBEq, Nat.reduceEqDiff, Nat.reduceLT, Nat.reduceLeDiff, Nat.reduceMul, Nat.reduceSub, reduceIte, Int.reduceEq, Int.reduceNe, Int.reduceLT, Int.reduceLE, Int.reduceAdd, Int.reduceSub, Int.reduceMul, Int.reduceNeg, Int.reduceMod, Int.reduceDiv, Int.reduceTMod, Int.reduceTDiv, Int.reduceToNat, okChain_i, okLoads_nil, okLoads_in, okLoads_eq]
        rfl)
    G ⟨q13, rfl⟩
  exact ⟨ρ', e, hf⟩
theorem wr64 (x : Int) : -9223372036854775808 ≤ IntKind.i64.wrap x ∧ IntKind.i64.wrap x ≤ 9223372036854775807 := by
  have h : IntKind.i64.wrap x = if x % 18446744073709551616 ≥ 9223372036854775808 then x % 18446744073709551616 - 18446744073709551616 else x % 18446744073709551616 := by
    simp [IntKind.wrap, IntKind.bits, IntKind.signed]
  rw [h]
  by_cases c : x % 18446744073709551616 ≥ 9223372036854775808
  · rw [if_pos c]; omega
  · rw [if_neg c]; omega
def y10 : RCode := (.seq (.region c10_17) (.seq (.region c10_18) (.cond (.tmp 89) (.seq (.region c10_19) .ret) .skip)))
theorem hlo10 : l10_1 = (.seq (.seq (.region c10_6) (.cond (.tmp 22) .skip (.exit 0))) (.seq (.block 1 (.seq (.region c10_7) (.seq (.seq (.region c10_8) (.cond (.tmp 38) (.seq (.region c10_9) .ret) .skip)) (.seq (.region c10_10) (.seq (.seq (.region c10_11) (.block 2 (.loop l10_0))) y10))))) (.region c10_20))) := (rfl)
def Jn (i : Nat) : Int := if i = 0 then -1 else (((i - 1) % 2 : Nat) : Int)
theorem Jn_step (i : Nat) : (if Jn i = 0 then (1 : Int) else 0) = Jn (i + 1) := by
  unfold Jn
  rw [if_neg (show ¬ (i + 1 = 0) by omega)]
  by_cases h : i = 0
  · subst h; rfl
  · rw [if_neg h]
    by_cases h2 : (i - 1) % 2 = 0
    · rw [if_pos (by omega)]; omega
    · rw [if_neg (by omega)]; omega
theorem step10 (p0 p1 p2 : Int) (h1 : -9223372036854775808 ≤ p0) (h2 : p0 ≤ 9223372036854775807) (i : Nat) (hi : (i : Int) < p0 % 6) (ρ : Fr) (G : Heap) (w : Value) (m : List B8) (hm : m.length = 88) (hE : EH all7 G) (hB : BS G w (m.map w8)) (hn : nw m = Jn i) (q0 : ρ 0 = .int .i64 p0) (q1 : ρ 1 = .int .i64 p1) (q2 : ρ 2 = .int .i64 p2) (q8 : ρ 8 = w) (q9 : ρ 9 = .int .i64 i) :
    ∃ ρ' F w' m', E Tryd.prog hints l10_1 ρ G = some (.normal, ρ', F) ∧ ρ' 9 = .int .i64 (i + 1 : Nat) ∧ ρ' 8 = w' ∧ m'.length = 88 ∧ EH all7 F ∧ BS F w' (m'.map w8) ∧ nw m' = Jn (i + 1) := by
  have n1 := fun F => number_f p0 6 F h1 h2 (by omega) (by omega)
  have hi6 : i < 6 := by omega
  obtain ⟨b1, b2⟩ := wr64 (p1 + (i : Int))
  generalize hA : IntKind.i64.wrap (p1 + (i : Int)) = A at *
  generalize hT : IntKind.i64.wrap (p2 + (i : Int)) = T at *
  obtain ⟨X1, e1⟩ := record_f A T G b1 b2
  obtain ⟨G1, hG1⟩ : ∃ G1, G1 = G ++ X1 := ⟨_, rfl⟩
  rw [← hG1] at e1
  have y1 : Ext G G1 := ⟨_, hG1⟩
  have gd := recO_good A T
  have l0 : 0 ≤ (recO A T).l := by unfold recO; simp only; omega
  obtain ⟨ws, F1, e2, y2, hW⟩ := writes_f w m hm (recO A T) gd G1 (hE.ext y1) (hB.ext y1)
  obtain ⟨f1, f2⟩ := full_nw m hm (recO A T) gd l0
  have hrange := wrs_range (rn m (recO A T)) (aw m)
  have hwl := wrs_len (rn m (recO A T)) (aw m)
  have E1 := (hE.ext y1).ext y2
  have B1 := (hB.ext y1).ext y2
  obtain ⟨X3, e3⟩ := newestI_f w m (by omega) F1 E1 B1
  obtain ⟨F3, hF3⟩ : ∃ F3, F3 = F1 ++ X3 := ⟨_, rfl⟩
  rw [← hF3] at e3
  have y3 : Ext F1 F3 := ⟨_, hF3⟩
  have hW3 := hW.ext y3
  obtain ⟨w4, F4, e4, y4, hb4⟩ := apply_f w ws m (by omega) (wrs (rn m (recO A T)) (aw m)) (by omega) 45 F3 (B1.ext y3) hW3
  rw [List.take_of_length_le (by rw [hwl]; decide)] at hb4
  have hml : (ap m (wrs (rn m (recO A T)) (aw m))).length = 88 := by rw [ap_len, hm]
  have E4 := (E1.ext y3).ext y4
  obtain ⟨X5, e5⟩ := newestI_f w4 _ (by omega) F4 E4 hb4.BS
  rw [hn, Jn_step] at f1
  rw [f1] at e5
  have lw := hW.len
  rw [hwl] at lw
  have lw' : lenV false ws = some (.int .i64 45) := lw
  have hNq : ∃ q, ((nw m = -1 ∧ q = 0) ∨ (nw m = 0 ∧ q = 1) ∨ (nw m = 1 ∧ q = 0)) ∧ ((aw m : Nat) : Int) = 44 * q := by
    unfold aw
    rcases nw_cases m hm with ⟨h, _, _⟩ | ⟨h, _⟩ | ⟨h, _⟩
    · exact ⟨0, .inl ⟨h, rfl⟩, by rw [h]; rfl⟩
    · exact ⟨1, .inr (.inl ⟨h, rfl⟩), by rw [h]; rfl⟩
    · exact ⟨0, .inr (.inr ⟨h, rfl⟩), by rw [h]; rfl⟩
  obtain ⟨q, hNq, haq⟩ := hNq
  have hi2 : (i : Int) % 2 = ((i % 2 : Nat) : Int) := by omega
  have hi2' : (i : Int).tmod 2 = ((i % 2 : Nat) : Int) := by rw [tmodL _ _ (by omega)]; exact hi2
  have hJ : Jn (i + 1) = ((i % 2 : Nat) : Int) := by unfold Jn; rw [if_neg (by omega)]; rfl
  rw [hJ] at e5
  have wi := wrap64 ((i : Int) + 1) (by omega) (by omega)
  generalize recO A T = R at *
  generalize nw m = N at *
  have key : ∀ ρ1, ρ1 9 = .int .i64 i → ρ1 8 = w → ρ1 10 = ws → ρ1 12 = .int .i64 N → ρ1 13 = .int .i64 (0 : Nat) → ∃ ρ' F w' m', andThen (blk 1 (andThen (blk 2 (E Tryd.prog hints (.loop l10_0) ρ1 F3)) (E Tryd.prog hints y10))) (E Tryd.prog hints (.region c10_20)) = some (.normal, ρ', F) ∧ ρ' 9 = .int .i64 (i + 1 : Nat) ∧ ρ' 8 = w' ∧ m'.length = 88 ∧ EH all7 F ∧ BS F w' (m'.map w8) ∧ nw m' = Jn (i + 1) := by
    intro ρ1 z9 z8 z10 z12 z13
    obtain ⟨ρ2, e, hf⟩ := inner10 F3 ws _ (by omega) N q hNq (by rw [← haq]; exact hrange) hW3 ρ1 z10 z12 z13
    have a8 := (hf 8 rfl).trans z8
    have a9 := (hf 9 rfl).trans z9
    have a10 := (hf 10 rfl).trans z10
    rw [e]
    refine ⟨?ρ3, F4 ++ X5, w4, _, ?run3, ?_, ?_, hml, E4.more _, (hb4.BS).ext (Ext.more _ _), f1⟩
    case run3 =>
      simp (maxDischargeDepth := 8) only [y10, c10_0, c10_1, c10_2, c10_3, c10_4, c10_5, c10_6, c10_7, c10_8, c10_9, c10_10, c10_11, c10_12, c10_13, c10_14, c10_15, c10_16, c10_17, c10_18, c10_19, c10_20, c10_21, a8, a9, a10, lw', e4, e5, hi2, hi2', wi, RUN, Ed, knd, kndR, resV, binInt, mnmxV, mnmx2, fillL, unV, extractV, partV, loadAt, Nat.reduceAdd, Nat.reduceBEq, Nat.reduceEqDiff, Nat.reduceLT, Nat.reduceLeDiff, Nat.reduceMul, Nat.reduceSub, reduceIte, Int.reduceEq, Int.reduceNe, Int.reduceLT, Int.reduceLE, Int.reduceAdd, Int.reduceSub, Int.reduceMul, Int.reduceNeg, Int.reduceMod, Int.reduceDiv, Int.reduceTMod, Int.reduceTDiv, Int.reduceToNat, okChain_i, okLoads_nil, okLoads_in, okLoads_eq]
      rfl
    all_goals first | (simp (maxDischargeDepth := 8) only [RUN, Ed, knd, kndR, resV, binInt, mnmxV, mnmx2, fillL, unV, lenV, extractV, partV, loadAt, Nat.reduceAdd, Nat.reduceBEq, Nat.reduceEqDiff, Nat.reduceLT, Nat.reduceLeDiff, Nat.reduceMul, Nat.reduceSub, reduceIte, Int.reduceEq, Int.reduceNe, Int.reduceLT, Int.reduceLE, Int.reduceAdd, Int.reduceSub, Int.reduceMul, Int.reduceNeg, Int.reduceMod, Int.reduceDiv, Int.reduceTMod, Int.reduceTDiv, Int.reduceToNat, okChain_i, okLoads_nil, okLoads_in, okLoads_eq]; done) | (simp (maxDischargeDepth := 8) only [RUN, Ed, knd, kndR, resV, binInt, mnmxV, mnmx2, fillL, unV, lenV, extractV, partV, loadAt, Nat.reduceAdd, Nat.reduceBEq, Nat.reduceEqDiff, Nat.reduceLT, Nat.reduceLeDiff, Nat.reduceMul, Nat.reduceSub, reduceIte, Int.reduceEq, Int.reduceNe, Int.reduceLT, Int.reduceLE, Int.reduceAdd, Int.reduceSub, Int.reduceMul, Int.reduceNeg, Int.reduceMod, Int.reduceDiv, Int.reduceTMod, Int.reduceTDiv, Int.reduceToNat, okChain_i, okLoads_nil, okLoads_in, okLoads_eq]; rfl)
  obtain ⟨s, mm, l, a, b, c, d⟩ := R
  simp only [Rec.L] at e1 e2
  rw [hlo10]
  simp (maxDischargeDepth := 8) only [c10_6, c10_7, c10_8, c10_9, c10_10, c10_11, q0, q1, q2, q8, q9, n1, hi, hA, hT, e1, e2, e3, RUN, Ed, knd, kndR, resV, binInt, mnmxV, mnmx2, fillL, unV, lenV, extractV, partV, loadAt, Nat.reduceAdd, Nat.reduceBEq, Nat.reduceEqDiff, Nat.reduceLT, Nat.reduceLeDiff, Nat.reduceMul, Nat.reduceSub, reduceIte, Int.reduceEq, Int.reduceNe, Int.reduceLT, Int.reduceLE, Int.reduceAdd, Int.reduceSub, Int.reduceMul, Int.reduceNeg, Int.reduceMod, Int.reduceDiv, Int.reduceTMod, Int.reduceTDiv, Int.reduceToNat, okChain_i, okLoads_nil, okLoads_in, okLoads_eq]
  refine key _ ?_ ?_ ?_ ?_ ?_
  all_goals first | (simp (maxDischargeDepth := 8) only [q8, q9, RUN, Ed, knd, kndR, resV, binInt, mnmxV, mnmx2, fillL, unV, lenV, extractV, partV, loadAt, Nat.reduceAdd, Nat.reduceBEq, Nat.reduceEqDiff, Nat.reduceLT, Nat.reduceLeDiff, Nat.reduceMul, Nat.reduceSub, reduceIte, Int.reduceEq, Int.reduceNe, Int.reduceLT, Int.reduceLE, Int.reduceAdd, Int.reduceSub, Int.reduceMul, Int.reduceNeg, Int.reduceMod, Int.reduceDiv, Int.reduceTMod, Int.reduceTDiv, Int.reduceToNat, okChain_i, okLoads_nil, okLoads_in, okLoads_eq]; done) | (simp (maxDischargeDepth := 8) only [q8, q9, RUN, Ed, knd, kndR, resV, binInt, mnmxV, mnmx2, fillL, unV, lenV, extractV, partV, loadAt, Nat.reduceAdd, Nat.reduceBEq, Nat.reduceEqDiff, Nat.reduceLT, Nat.reduceLeDiff, Nat.reduceMul, Nat.reduceSub, reduceIte, Int.reduceEq, Int.reduceNe, Int.reduceLT, Int.reduceLE, Int.reduceAdd, Int.reduceSub, Int.reduceMul, Int.reduceNeg, Int.reduceMod, Int.reduceDiv, Int.reduceTMod, Int.reduceTDiv, Int.reduceToNat, okChain_i, okLoads_nil, okLoads_in, okLoads_eq]; rfl)
theorem other (p0 p1 p2 : Int) (h1 : -9223372036854775808 ≤ p0) (h2 : p0 ≤ 9223372036854775807) (H : Heap) (hE : EH all7 H) : Ok (D Tryd.prog hints 10 [.int .i64 p0, .int .i64 p1, .int .i64 p2] H) := by
  obtain ⟨X0, e0⟩ := first2_f H hE
  obtain ⟨G0, hG0⟩ : ∃ G0, G0 = H ++ X0 := ⟨_, rfl⟩
  rw [← hG0] at e0
  have y0 : Ext H G0 := ⟨_, hG0⟩
  obtain ⟨G1, hG1⟩ : ∃ G1, G1 = G0 ++ [some ⟨true, 5, fillZ [.int .u8 0] 88⟩] := ⟨_, rfl⟩
  have y1 : Ext G0 G1 := ⟨_, hG1⟩
  have k1 : live G1 G0.length = some ⟨true, 5, fillZ [.int .u8 0] 88⟩ := by rw [hG1]; exact (live_app_len _ _).trans rfl
  have E1 := (hE.ext y0).ext y1
  have n1 := fun F => number_f p0 6 F h1 h2 (by omega) (by omega)
  obtain ⟨n, hn⟩ : ∃ n : Nat, p0 % 6 = n := ⟨(p0 % 6).toNat, by omega⟩
  have key : ∀ ρ0, ρ0 0 = .int .i64 p0 → ρ0 1 = .int .i64 p1 → ρ0 2 = .int .i64 p2 → ρ0 7 = .bool true → ρ0 8 = .slice (some ⟨G0.length, 0, none⟩) 88 1 → ρ0 9 = .int .i64 (0 : Nat) → Ok (done [.tmp 6] (andThen (blk 0 (E Tryd.prog hints (.loop l10_1) ρ0 G1)) (E Tryd.prog hints (.seq (.region c10_21) .ret)))) := by
    intro ρ0 q0 q1 q2 q7 q8 q9
    obtain ⟨ρ', G', e, hf, _⟩ := loop_keep (P := Tryd.prog) (hs := hints) (b := l10_1) (id := 0) ρ0 (fun i ρ G => ∃ w m, ρ 9 = .int .i64 (i : Nat) ∧ ρ 8 = w ∧ m.length = 88 ∧ EH all7 G ∧ BS G w (m.map w8) ∧ nw m = Jn i) (fun ρ G => True) n
      (by
        rintro i ρ G hi hf ⟨w, m, r9, r8, hm, hE, hB, hnw⟩
        obtain ⟨ρ', F, w', m', e, h⟩ := step10 p0 p1 p2 h1 h2 i (by omega) ρ G w m hm hE hB hnw ((hf 0 rfl).trans q0) ((hf 1 rfl).trans q1) ((hf 2 rfl).trans q2) r8 r9
        exact ⟨ρ', F, e, w', m', h⟩)
      (by
        rintro ρ G hf ⟨w, m, r9, r8, hm, hE, hB, hnw⟩
        have r0 := (hf 0 rfl).trans q0
        have hlt : ¬ (n : Int) < p0 % 6 := by omega
        refine ⟨?ρ2, G, ?run2, trivial⟩
        case run2 =>
          simp (maxDischargeDepth := 8) only [l10_1, c10_6, r0, r9, n1, hlt, RUN, Ed, knd, kndR, resV, binInt, mnmxV, mnmx2, fillL, unV, lenV, extractV, partV, loadAt, Nat.reduceAdd, Nat.reduceBEq, Nat.reduceEqDiff, Nat.reduceLT, Nat.reduceLeDiff, Nat.reduceMul, Nat.reduceSub, reduceIte, Int.reduceEq, Int.reduceNe, Int.reduceLT, Int.reduceLE, Int.reduceAdd, Int.reduceSub, Int.reduceMul, Int.reduceNeg, Int.reduceMod, Int.reduceDiv, Int.reduceTMod, Int.reduceTDiv, Int.reduceToNat, okChain_i, okLoads_nil, okLoads_in, okLoads_eq]
          rfl)
      G1 ⟨_, zz, q9, q8, zz_len, E1, zz_BS k1, zz_nw⟩
    have r7 := (hf 7 rfl).trans q7
    rw [e]
    simp (maxDischargeDepth := 8) only [c10_21, r7, RUN, Ed, knd, kndR, resV, binInt, mnmxV, mnmx2, fillL, unV, lenV, extractV, partV, loadAt, Nat.reduceAdd, Nat.reduceBEq, Nat.reduceEqDiff, Nat.reduceLT, Nat.reduceLeDiff, Nat.reduceMul, Nat.reduceSub, reduceIte, Int.reduceEq, Int.reduceNe, Int.reduceLT, Int.reduceLE, Int.reduceAdd, Int.reduceSub, Int.reduceMul, Int.reduceNeg, Int.reduceMod, Int.reduceDiv, Int.reduceTMod, Int.reduceTDiv, Int.reduceToNat, okChain_i, okLoads_nil, okLoads_in, okLoads_eq]
    exact Ok.mk _
  rw [D_eq p10 _ _ (Nat.le_of_ble_eq_true rfl)]
  simp (maxDischargeDepth := 8) only [r10, b10, c10_0, c10_1, c10_2, c10_3, c10_4, c10_5, e0, mk88, ← hG1, RUN, Ed, knd, kndR, resV, binInt, mnmxV, mnmx2, fillL, unV, lenV, extractV, partV, loadAt, Nat.reduceAdd, Nat.reduceBEq, Nat.reduceEqDiff, Nat.reduceLT, Nat.reduceLeDiff, Nat.reduceMul, Nat.reduceSub, reduceIte, Int.reduceEq, Int.reduceNe, Int.reduceLT, Int.reduceLE, Int.reduceAdd, Int.reduceSub, Int.reduceMul, Int.reduceNeg, Int.reduceMod, Int.reduceDiv, Int.reduceTMod, Int.reduceTDiv, Int.reduceToNat, okChain_i, okLoads_nil, okLoads_in, okLoads_eq]
  refine key _ ?_ ?_ ?_ ?_ ?_ ?_
  all_goals first | (simp (maxDischargeDepth := 8) only [RUN, Ed, knd, kndR, resV, binInt, mnmxV, mnmx2, fillL, unV, lenV, extractV, partV, loadAt, Nat.reduceAdd, Nat.reduceBEq, Nat.reduceEqDiff, Nat.reduceLT, Nat.reduceLeDiff, Nat.reduceMul, Nat.reduceSub, reduceIte, Int.reduceEq, Int.reduceNe, Int.reduceLT, Int.reduceLE, Int.reduceAdd, Int.reduceSub, Int.reduceMul, Int.reduceNeg, Int.reduceMod, Int.reduceDiv, Int.reduceTMod, Int.reduceTDiv, Int.reduceToNat, okChain_i, okLoads_nil, okLoads_in, okLoads_eq]; done) | (simp (maxDischargeDepth := 8) only [RUN, Ed, knd, kndR, resV, binInt, mnmxV, mnmx2, fillL, unV, lenV, extractV, partV, loadAt, Nat.reduceAdd, Nat.reduceBEq, Nat.reduceEqDiff, Nat.reduceLT, Nat.reduceLeDiff, Nat.reduceMul, Nat.reduceSub, reduceIte, Int.reduceEq, Int.reduceNe, Int.reduceLT, Int.reduceLE, Int.reduceAdd, Int.reduceSub, Int.reduceMul, Int.reduceNeg, Int.reduceMod, Int.reduceDiv, Int.reduceTMod, Int.reduceTDiv, Int.reduceToNat, okChain_i, okLoads_nil, okLoads_in, okLoads_eq]; rfl)
def sh10 : List Sh := [.int .i64, .int .i64, .int .i64]
theorem other_law (H : Heap) (h : EH all7 H) (ls : List (List Value)) (o : OpnAll H sh10 ls) : Ok (D Tryd.prog hints 10 (argsS sh10 ls) H) := by
  obtain ⟨l0, _, rfl, h0, o⟩ := o.uncons
  obtain ⟨l1, _, rfl, h1, o⟩ := o.uncons
  obtain ⟨l2, _, rfl, h2, o⟩ := o.uncons
  cases o.unnil
  simp only [Opn.eq_1] at h0 h1 h2
  obtain ⟨a, rfl, ha⟩ := h0
  obtain ⟨b, rfl, hb⟩ := h1
  obtain ⟨c, rfl, hc⟩ := h2
  exact other a b c (wfi64 ha).1 (wfi64 ha).2 H h
end Go.Proofs.YtdipdpkdmiokeaaDoor.Sim
