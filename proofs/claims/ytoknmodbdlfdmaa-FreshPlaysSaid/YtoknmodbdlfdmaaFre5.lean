/- FreshRows over the plain heap. -/
import Derived.Test.YtoknmodbdlfdmaaFre4
import Derived.Test.YtoknmodbdlfdmaaSim21
namespace Go.Proofs.Ytoknmodbdlfdmaa.Sim
open Go
set_option linter.unusedSimpArgs false
set_option linter.unusedVariables false
theorem put_new {f : Int → Option La} {c q v x q0 : Int} (hc : chan c = true) (hf : f c = some (x, q0, 0)) (hn : newerB q q0 = true) : putB f c q = true ∧ putF f c q v c = some (v, q, 0) := by
  have h : putB f c q = true := by unfold putB; rw [hc, hf]; exact hn
  exact ⟨h, by unfold putF; rw [if_pos h]; simp⟩
theorem put_old {f : Int → Option La} {c q v x q0 a : Int} (hf : f c = some (x, q0, a)) (hn : newerB q q0 = false) : putB f c q = false ∧ putF f c q v = f := by
  have h : putB f c q = false := by unfold putB; rw [hf]; simp [hn]
  exact ⟨h, by unfold putF; rw [if_neg (by rw [h]; decide)]⟩
def t4 : RCode := .seq (.region c4_19) .ret
theorem b4t : b4 = (.seq (.region c4_0) (.seq (.region c4_1) (.seq (.seq (.region c4_2) (.cond (.tmp 16) (.seq (.region c4_3) .ret) .skip)) (.seq (.region c4_4) (.seq (.region c4_5) (.seq (.region c4_6) (.seq (.region c4_7) (.seq (.seq (.region c4_8) (.cond (.tmp 34) (.seq (.region c4_9) .ret) .skip)) (.seq (.seq (.region c4_10) (.block 0 (.loop l4_0))) t4))))))))) := (rfl)
theorem loop4 (p : Nat) (n c st : Int) (hc : chan c = true) (hn : 0 ≤ n ∧ n < 600) (hst : 1 ≤ st ∧ st ≤ 127) (ρ0 : Fr) (F0 : Heap) (q0 x0 : Int) (f0 : Int → Option La) (r0 : ρ0 0 = .int .i64 n) (r1 : ρ0 1 = .int .u8 q0) (r2 : ρ0 2 = .int .i64 c) (r3 : ρ0 3 = .int .i64 st)
    (r9 : ρ0 9 = .bool true) (r10 : ρ0 10 = .pointer (some ⟨p, 0, none⟩)) (r11 : ρ0 11 = .int .i64 (0 : Nat)) (hq : 0 ≤ q0 ∧ q0 ≤ 255) (hb : BK F0 p 5 f0) (hf0 : f0 c = some (x0, q0, 0)) :
    Ok (done [.tmp 8] (andThen (blk 0 (E Try.prog hints (.loop l4_0) ρ0 F0)) (E Try.prog hints t4))) := by
  obtain ⟨ρ', F', e, hf, _⟩ := loop_keep (P := Try.prog) (hs := hints) (b := l4_0) (id := 0) ρ0 (fun j ρ F => ∃ q x f, ρ 1 = .int .u8 q ∧ ρ 11 = .int .i64 j ∧ 0 ≤ q ∧ q ≤ 255 ∧ BK F p 5 f ∧ f c = some (x, q, 0)) (fun _ _ => True) n.toNat
    (by
      rintro j ρ F hj hf ⟨q, x, f, z1, z11, g0, g1, hb, hfc⟩
      have z0 := (hf 0 rfl).trans r0
      have z2 := (hf 2 rfl).trans r2
      have z3 := (hf 3 rfl).trans r3
      have z10 := (hf 10 rfl).trans r10
      have hlt : (j : Int) < n := by omega
      have w := wrap64 ((j : Int) + 1) (by omega) (by omega)
      obtain ⟨q1, hq1⟩ : ∃ q1, IntKind.u8.wrap (q + IntKind.u8.wrap st) = q1 := ⟨_, rfl⟩
      obtain ⟨q2, hq2⟩ : ∃ q2, IntKind.u8.wrap (q1 - IntKind.u8.wrap st) = q2 := ⟨_, rfl⟩
      have n1 : newerB q1 q = true := by
        rw [← hq1]; unfold newerB; simp only [wrap8, Bool.and_eq_true, decide_eq_true_eq]; omega
      have n2 : newerB q1 q1 = false := by
        unfold newerB; simp only [wrap8, Bool.and_eq_false_iff, decide_eq_false_iff_not]; omega
      have n3 : newerB q2 q1 = false := by
        rw [← hq2, ← hq1]; unfold newerB; simp only [wrap8, Bool.and_eq_false_iff, decide_eq_false_iff_not]; omega
      have gq : 0 ≤ q1 ∧ q1 ≤ 255 := by rw [← hq1]; simp only [wrap8]; omega
      obtain ⟨F1, e1, k1, s1⟩ := put_f hb c q1 j
      obtain ⟨a1, a2⟩ := put_new (v := (j : Int)) hc hfc n1
      rw [a1] at e1
      generalize putF f c q1 j = f1 at *
      obtain ⟨F2, e2, k2, s2⟩ := put_f k1 c q1 9999
      obtain ⟨a3, a4⟩ := put_old (v := 9999) a2 n2
      rw [a3] at e2; rw [a4] at k2
      obtain ⟨F3, e3, k3, s3⟩ := put_f k2 c q2 9999
      obtain ⟨a5, a6⟩ := put_old (v := 9999) a2 n3
      rw [a5] at e3; rw [a6] at k3
      obtain ⟨X4, e4⟩ := get_f k3 c
      have v1 : valF f1 c = j := by unfold valF; rw [a2]
      have i1 : isF f1 5 c = true := by unfold isF; rw [a2]; rfl
      rw [v1, i1] at e4
      simp only [K] at e1 e2 e3 e4
      refine ⟨?ρ1, F3 ++ X4, ?run1, q1, j, f1, ?_, ?_, gq.1, gq.2, k3.ext (Ext.more _ _), a2⟩
      case run1 =>
        simp (maxDischargeDepth := 8) only [l4_0, c4_0, c4_1, c4_2, c4_3, c4_4, c4_5, c4_6, c4_7, c4_8, c4_9, c4_10, c4_11, c4_12, c4_13, c4_14, c4_15, c4_16, c4_17, c4_18, c4_19, z0, z1, z2, z3, z10, z11, hlt, w, hq1, hq2, e1, e2, e3, e4, RUN, Ed, knd, kndR, resV, binInt, mnmxV, mnmx2, fillL, unV, lenV, extractV, partV, loadAt, Nat.reduceAdd, Nat.reduceBEq, Nat.reduceEqDiff, Nat.reduceLT, Nat.reduceLeDiff, Nat.reduceMul, Nat.reduceSub, reduceIte, Int.reduceEq, Int.reduceNe, Int.reduceLT, Int.reduceLE, Int.reduceAdd, Int.reduceSub, Int.reduceMul, Int.reduceNeg, Int.reduceMod, Int.reduceDiv, Int.reduceTMod, Int.reduceTDiv, Int.reduceToNat, okChain_i, okLoads_nil, okLoads_in, okLoads_eq]
        rfl
      all_goals first | (simp (maxDischargeDepth := 8) only [RUN, Ed, knd, kndR, resV, binInt, mnmxV, mnmx2, fillL, unV, lenV, extractV, partV, loadAt, Nat.reduceAdd, Nat.reduceBEq, Nat.reduceEqDiff, Nat.reduceLT, Nat.reduceLeDiff, Nat.reduceMul, Nat.reduceSub, reduceIte, Int.reduceEq, Int.reduceNe, Int.reduceLT, Int.reduceLE, Int.reduceAdd, Int.reduceSub, Int.reduceMul, Int.reduceNeg, Int.reduceMod, Int.reduceDiv, Int.reduceTMod, Int.reduceTDiv, Int.reduceToNat, okChain_i, okLoads_nil, okLoads_in, okLoads_eq]; done) | (simp (maxDischargeDepth := 8) only [RUN, Ed, knd, kndR, resV, binInt, mnmxV, mnmx2, fillL, unV, lenV, extractV, partV, loadAt, Nat.reduceAdd, Nat.reduceBEq, Nat.reduceEqDiff, Nat.reduceLT, Nat.reduceLeDiff, Nat.reduceMul, Nat.reduceSub, reduceIte, Int.reduceEq, Int.reduceNe, Int.reduceLT, Int.reduceLE, Int.reduceAdd, Int.reduceSub, Int.reduceMul, Int.reduceNeg, Int.reduceMod, Int.reduceDiv, Int.reduceTMod, Int.reduceTDiv, Int.reduceToNat, okChain_i, okLoads_nil, okLoads_in, okLoads_eq]; rfl))
    (by
      rintro ρ F hf ⟨q, x, f, z1, z11, g0, g1, hb, hfc⟩
      have z0 := (hf 0 rfl).trans r0
      have hlt : ¬ ((n.toNat : Nat) : Int) < n := by omega
      refine ⟨?ρ2, F, ?run2, trivial⟩
      case run2 =>
        simp (maxDischargeDepth := 8) only [l4_0, c4_11, z0, z11, hlt, RUN, Ed, knd, kndR, resV, binInt, mnmxV, mnmx2, fillL, unV, lenV, extractV, partV, loadAt, Nat.reduceAdd, Nat.reduceBEq, Nat.reduceEqDiff, Nat.reduceLT, Nat.reduceLeDiff, Nat.reduceMul, Nat.reduceSub, reduceIte, Int.reduceEq, Int.reduceNe, Int.reduceLT, Int.reduceLE, Int.reduceAdd, Int.reduceSub, Int.reduceMul, Int.reduceNeg, Int.reduceMod, Int.reduceDiv, Int.reduceTMod, Int.reduceTDiv, Int.reduceToNat, okChain_i, okLoads_nil, okLoads_in, okLoads_eq]
        rfl)
    F0 ⟨q0, x0, f0, r1, r11, hq.1, hq.2, hb, hf0⟩
  have r9' := (hf 9 rfl).trans r9
  rw [e]
  simp (maxDischargeDepth := 8) only [t4, c4_19, r9', RUN, Ed, knd, kndR, resV, binInt, mnmxV, mnmx2, fillL, unV, lenV, extractV, partV, loadAt, Nat.reduceAdd, Nat.reduceBEq, Nat.reduceEqDiff, Nat.reduceLT, Nat.reduceLeDiff, Nat.reduceMul, Nat.reduceSub, reduceIte, Int.reduceEq, Int.reduceNe, Int.reduceLT, Int.reduceLE, Int.reduceAdd, Int.reduceSub, Int.reduceMul, Int.reduceNeg, Int.reduceMod, Int.reduceDiv, Int.reduceTMod, Int.reduceTDiv, Int.reduceToNat, okChain_i, okLoads_nil, okLoads_in, okLoads_eq]
  exact Ok.mk _
theorem rowsL (n q ch st : Int) (hq : 0 ≤ q ∧ q ≤ 255) (H : Heap) : Ok (K 4 [.int .i64 n, .int .u8 q, .int .i64 ch, .int .i64 st] H) := by
  have q4 : K 4 [.int .i64 n, .int .u8 q, .int .i64 ch, .int .i64 st] H = done r4.res (E Try.prog hints r4.body (frame0 [.int .i64 n, .int .u8 q, .int .i64 ch, .int .i64 st]) H) := D_eq p4 _ _ (Nat.le_of_ble_eq_true rfl)
  have hc := chan_num ch
  have hnb := num_bd ch 47 (by omega)
  have m1 := fun H => number_f ch 47 (by omega) (by omega) H
  have hnn := num_bd n 600 (by omega)
  have m2 := fun H => number_f n 600 (by omega) (by omega) H
  have hns := num_bd st 127 (by omega)
  have m3 := fun H => number_f st 127 (by omega) (by omega) H
  generalize num ch 47 = cn at *
  generalize num n 600 = nn at *
  generalize num st 127 = sn at *
  obtain ⟨c, hcn⟩ : ∃ c, c = cn + 1 := ⟨_, rfl⟩
  have hw1 : IntKind.i64.wrap (cn + 1) = c := by rw [hcn]; exact wrap64 _ (by omega) (by omega)
  rw [← hcn] at hc
  obtain ⟨s, hsn⟩ : ∃ s, s = sn + 1 := ⟨_, rfl⟩
  have hw2 : IntKind.i64.wrap (sn + 1) = s := by rw [hsn]; exact wrap64 _ (by omega) (by omega)
  obtain ⟨F0, e0, x0⟩ := first_f H
  obtain ⟨p, F1, e1, k1, x1, _⟩ := new_f 5 F0
  have hs : clampZ 5 0 1000 = 5 := by rfl
  rw [hs] at k1
  obtain ⟨F2, e2, k2, s2⟩ := put_f k1 c q (-1)
  have c1 : putB (fun _ => none) c q = true := by unfold putB; rw [hc]; rfl
  have f2 : putF (fun _ => none) c q (-1) c = some (-1, q, 0) := by unfold putF; rw [if_pos c1]; simp
  rw [c1] at e2
  simp only [K] at e0 e1 e2 q4 m1 m2 m3
  rw [K, q4]
  simp (maxDischargeDepth := 8) only [Sim.r4, b4t, c4_0, c4_1, c4_2, c4_3, c4_4, c4_5, c4_6, c4_7, c4_8, c4_9, c4_10, e0, e1, e2, m1, m2, m3, hw1, hw2, RUN, Ed, knd, kndR, resV, binInt, mnmxV, mnmx2, fillL, unV, lenV, extractV, partV, loadAt, Nat.reduceAdd, Nat.reduceBEq, Nat.reduceEqDiff, Nat.reduceLT, Nat.reduceLeDiff, Nat.reduceMul, Nat.reduceSub, reduceIte, Int.reduceEq, Int.reduceNe, Int.reduceLT, Int.reduceLE, Int.reduceAdd, Int.reduceSub, Int.reduceMul, Int.reduceNeg, Int.reduceMod, Int.reduceDiv, Int.reduceTMod, Int.reduceTDiv, Int.reduceToNat, okChain_i, okLoads_nil, okLoads_in, okLoads_eq]
  refine loop4 p nn c s hc hnn (by omega) _ _ q (-1) _ ?_ ?_ ?_ ?_ ?_ ?_ ?_ hq k2 f2
  all_goals first | (simp (maxDischargeDepth := 8) only [RUN, Ed, knd, kndR, resV, binInt, mnmxV, mnmx2, fillL, unV, lenV, extractV, partV, loadAt, Nat.reduceAdd, Nat.reduceBEq, Nat.reduceEqDiff, Nat.reduceLT, Nat.reduceLeDiff, Nat.reduceMul, Nat.reduceSub, reduceIte, Int.reduceEq, Int.reduceNe, Int.reduceLT, Int.reduceLE, Int.reduceAdd, Int.reduceSub, Int.reduceMul, Int.reduceNeg, Int.reduceMod, Int.reduceDiv, Int.reduceTMod, Int.reduceTDiv, Int.reduceToNat, okChain_i, okLoads_nil, okLoads_in, okLoads_eq]; done) | (simp (maxDischargeDepth := 8) only [RUN, Ed, knd, kndR, resV, binInt, mnmxV, mnmx2, fillL, unV, lenV, extractV, partV, loadAt, Nat.reduceAdd, Nat.reduceBEq, Nat.reduceEqDiff, Nat.reduceLT, Nat.reduceLeDiff, Nat.reduceMul, Nat.reduceSub, reduceIte, Int.reduceEq, Int.reduceNe, Int.reduceLT, Int.reduceLE, Int.reduceAdd, Int.reduceSub, Int.reduceMul, Int.reduceNeg, Int.reduceMod, Int.reduceDiv, Int.reduceTMod, Int.reduceTDiv, Int.reduceToNat, okChain_i, okLoads_nil, okLoads_in, okLoads_eq]; rfl)
end Go.Proofs.Ytoknmodbdlfdmaa.Sim
