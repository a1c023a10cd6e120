/- FreshAges over the plain heap. -/
import Derived.Test.YtoknmodbdlfdmaaFre5
import Derived.Test.YtoknmodbdlfdmaaSim21
namespace Go.Proofs.Ytoknmodbdlfdmaa.Sim
open Go
set_option linter.unusedSimpArgs false
set_option linter.unusedVariables false
def fA (c q v j : Int) : Int → Option La := fun d => if d = c then some (v, q, j) else none
theorem fA_self (c q v j : Int) : fA c q v j c = some (v, q, j) := by simp [fA]
theorem fA_ne (c q v j d : Int) (h : d ≠ c) : fA c q v j d = none := by simp [fA, h]
theorem tick_fA (c q v j : Int) (h : j < 1000) : tickS (fA c q v j) = fA c q v (j + 1) := by
  funext d
  unfold tickS fA
  by_cases hd : d = c
  · simp only [hd, if_true, Option.map_some, age1]
    rw [if_neg (by omega)]
  · simp [hd]
theorem put_none (c q v : Int) (hc : chan c = true) : putB (fun _ => none) c q = true ∧ putF (fun _ => none) c q v = fA c q v 0 := by
  have h : putB (fun _ => none) c q = true := by unfold putB; rw [hc]; rfl
  exact ⟨h, by unfold putF; rw [if_pos h]; rfl⟩
theorem bself (b : Bool) : (b == b) = true := by simp
theorem eself (n : Int) : decide (n = n) = true := by simp
def t6 : RCode := (.seq (.region c6_18) (.seq (.region c6_19) (.seq (.region c6_20) (.seq (.region c6_21) (.seq (.region c6_22) .ret)))))
theorem b6t : b6 = (.seq (.region c6_0) (.seq (.region c6_1) (.seq (.seq (.region c6_2) (.cond (.tmp 23) (.seq (.region c6_3) .ret) .skip)) (.seq (.region c6_4) (.seq (.region c6_5) (.seq (.region c6_6) (.seq (.region c6_7) (.seq (.seq (.region c6_8) (.cond (.tmp 34) (.seq (.region c6_9) .ret) .skip)) (.seq (.region c6_10) (.seq (.region c6_11) (.seq (.seq (.region c6_12) (.cond (.tmp 48) (.seq (.region c6_13) .ret) .skip)) (.seq (.seq (.region c6_14) (.block 0 (.loop l6_0))) t6)))))))))))) := (rfl)
theorem tail6 (p : Nat) (n c s q : Int) (hc : chan c = true) (hn : 0 ≤ n ∧ n < 60) (hs : 0 ≤ s ∧ s < 30) (hq : 0 ≤ q ∧ q ≤ 255) (ρ : Fr) (F : Heap) (r0 : ρ 0 = .int .i64 s) (r1 : ρ 1 = .int .i64 n) (r2 : ρ 2 = .int .i64 c) (r3 : ρ 3 = .int .u8 q) (r9 : ρ 9 = .bool true) (r10 : ρ 10 = .pointer (some ⟨p, 0, none⟩))
    (r12 : ρ 12 = .bool false) (r13 : ρ 13 = .int .i64 1000) (hb : BK F p s (fA c q 5 n)) : Ok (done [.tmp 8] (E Try.prog hints t6 ρ F)) := by
  obtain ⟨X1, e1⟩ := get_f hb c
  have k1 := hb.ext (Ext.more F X1)
  obtain ⟨G1, hG1⟩ : ∃ G, G = F ++ X1 := ⟨_, rfl⟩
  rw [← hG1] at e1 k1
  have v1 : valF (fA c q 5 n) c = 5 := by unfold valF; rw [fA_self]
  have i1 : isF (fA c q 5 n) s c = decide (n ≤ s) := by unfold isF; rw [fA_self]
  rw [v1, i1] at e1
  obtain ⟨X2, e2⟩ := age_f k1 c
  have a2 : ageF (fA c q 5 n) c = n := by unfold ageF; rw [fA_self]
  rw [a2] at e2
  have k2 := k1.ext (Ext.more G1 X2)
  obtain ⟨G2, hG2⟩ : ∃ G, G = G1 ++ X2 := ⟨_, rfl⟩
  rw [← hG2] at e2 k2
  obtain ⟨q1, hq1⟩ : ∃ q1, IntKind.u8.wrap (q + 1) = q1 := ⟨_, rfl⟩
  have n1 : newerB q1 q = true := by
    rw [← hq1]; unfold newerB; simp only [wrap8, Bool.and_eq_true, decide_eq_true_eq]; omega
  have b3 : putB (fA c q 5 n) c q1 = true := by unfold putB; rw [hc, fA_self]; exact n1
  have f3 : putF (fA c q 5 n) c q1 6 = fA c q1 6 0 := by
    unfold putF; rw [if_pos b3]; funext d; unfold fA; split <;> rfl
  obtain ⟨G3, e3, k3, s3⟩ := put_f k2 c q1 6
  rw [b3] at e3; rw [f3] at k3
  obtain ⟨X4, e4⟩ := get_f k3 c
  have v4 : valF (fA c q1 6 0) c = 6 := by unfold valF; rw [fA_self]
  have i4 : isF (fA c q1 6 0) s c = true := by unfold isF; rw [fA_self]; simp; omega
  rw [v4, i4] at e4
  have k4 := k3.ext (Ext.more G3 X4)
  obtain ⟨G4, hG4⟩ : ∃ G, G = G3 ++ X4 := ⟨_, rfl⟩
  rw [← hG4] at e4 k4
  obtain ⟨X5, e5⟩ := age_f k4 c
  have a5 : ageF (fA c q1 6 0) c = 0 := by unfold ageF; rw [fA_self]
  rw [a5] at e5
  have k5 := k4.ext (Ext.more G4 X5)
  obtain ⟨G5, hG5⟩ : ∃ G, G = G4 ++ X5 := ⟨_, rfl⟩
  rw [← hG5] at e5 k5
  obtain ⟨G6, e6, k6, s6⟩ := put_f k5 0 1 1
  have b6' : putB (fA c q1 6 0) 0 1 = false := by rfl
  have f6' : putF (fA c q1 6 0) 0 1 1 = fA c q1 6 0 := by unfold putF; rw [if_neg (by rw [b6']; decide)]
  rw [b6'] at e6; rw [f6'] at k6
  obtain ⟨G7, e7, k7, s7⟩ := put_f k6 48 1 1
  have b7' : putB (fA c q1 6 0) 48 1 = false := by rfl
  rw [b7'] at e7
  simp only [K] at e1 e2 e3 e4 e5 e6 e7
  simp (maxDischargeDepth := 8) only [t6, c6_0, c6_1, c6_2, c6_3, c6_4, c6_5, c6_6, c6_7, c6_8, c6_9, c6_10, c6_11, c6_12, c6_13, c6_14, c6_15, c6_16, c6_17, c6_18, c6_19, c6_20, c6_21, c6_22, r0, r1, r2, r3, r9, r10, r12, r13, ← hG1, ← hG2, ← hG4, ← hG5, e1, e2, e3, e4, e5, e6, e7, hq1, bself, eself, RUN, Ed, knd, kndR, resV, binInt, mnmxV, mnmx2, fillL, unV, lenV, extractV, partV, loadAt, Nat.reduceAdd, Nat.reduceBEq, Nat.reduceEqDiff, Nat.reduceLT, Nat.reduceLeDiff, Nat.reduceMul, Nat.reduceSub, reduceIte, Int.reduceEq, Int.reduceNe, Int.reduceLT, Int.reduceLE, Int.reduceAdd, Int.reduceSub, Int.reduceMul, Int.reduceNeg, Int.reduceMod, Int.reduceDiv, Int.reduceTMod, Int.reduceTDiv, Int.reduceToNat, okChain_i, okLoads_nil, okLoads_in, okLoads_eq]
  exact Ok.mk _
theorem loop6 (p : Nat) (n c s q : Int) (hn : 0 ≤ n ∧ n < 60) (ρ0 : Fr) (F0 : Heap) (r1 : ρ0 1 = .int .i64 n) (r10 : ρ0 10 = .pointer (some ⟨p, 0, none⟩)) (r14 : ρ0 14 = .int .i64 (0 : Nat)) (hb : BK F0 p s (fA c q 5 0)) :
    ∃ ρ' F', E Try.prog hints (.loop l6_0) ρ0 F0 = some (.exit 0, ρ', F') ∧ (∀ t, wrC l6_0 t = false → ρ' t = ρ0 t) ∧ BK F' p s (fA c q 5 n) := by
  refine loop_keep (P := Try.prog) (hs := hints) (b := l6_0) (id := 0) ρ0 (fun j ρ F => ρ 14 = .int .i64 j ∧ BK F p s (fA c q 5 j)) (fun _ F => BK F p s (fA c q 5 n)) n.toNat ?_ ?_ F0 ⟨r14, hb⟩
  · rintro j ρ F hj hf ⟨z14, hb⟩
    have z1 := (hf 1 rfl).trans r1
    have z10 := (hf 10 rfl).trans r10
    have hlt : (j : Int) < n := by omega
    have w := wrap64 ((j : Int) + 1) (by omega) (by omega)
    obtain ⟨F1, e1, k1, s1⟩ := tick_f hb
    rw [tick_fA _ _ _ _ (by omega)] at k1
    simp only [K] at e1
    refine ⟨?ρ1, F1, ?run1, ?_, k1⟩
    case run1 =>
      simp (maxDischargeDepth := 8) only [l6_0, c6_0, c6_1, c6_2, c6_3, c6_4, c6_5, c6_6, c6_7, c6_8, c6_9, c6_10, c6_11, c6_12, c6_13, c6_14, c6_15, c6_16, c6_17, c6_18, c6_19, c6_20, c6_21, c6_22, z1, z10, z14, hlt, w, e1, RUN, Ed, knd, kndR, resV, binInt, mnmxV, mnmx2, fillL, unV, lenV, extractV, partV, loadAt, Nat.reduceAdd, Nat.reduceBEq, Nat.reduceEqDiff, Nat.reduceLT, Nat.reduceLeDiff, Nat.reduceMul, Nat.reduceSub, reduceIte, Int.reduceEq, Int.reduceNe, Int.reduceLT, Int.reduceLE, Int.reduceAdd, Int.reduceSub, Int.reduceMul, Int.reduceNeg, Int.reduceMod, Int.reduceDiv, Int.reduceTMod, Int.reduceTDiv, Int.reduceToNat, okChain_i, okLoads_nil, okLoads_in, okLoads_eq]
      rfl
    all_goals first | (simp (maxDischargeDepth := 8) only [RUN, Ed, knd, kndR, resV, binInt, mnmxV, mnmx2, fillL, unV, lenV, extractV, partV, loadAt, Nat.reduceAdd, Nat.reduceBEq, Nat.reduceEqDiff, Nat.reduceLT, Nat.reduceLeDiff, Nat.reduceMul, Nat.reduceSub, reduceIte, Int.reduceEq, Int.reduceNe, Int.reduceLT, Int.reduceLE, Int.reduceAdd, Int.reduceSub, Int.reduceMul, Int.reduceNeg, Int.reduceMod, Int.reduceDiv, Int.reduceTMod, Int.reduceTDiv, Int.reduceToNat, okChain_i, okLoads_nil, okLoads_in, okLoads_eq]; done) | (simp (maxDischargeDepth := 8) only [RUN, Ed, knd, kndR, resV, binInt, mnmxV, mnmx2, fillL, unV, lenV, extractV, partV, loadAt, Nat.reduceAdd, Nat.reduceBEq, Nat.reduceEqDiff, Nat.reduceLT, Nat.reduceLeDiff, Nat.reduceMul, Nat.reduceSub, reduceIte, Int.reduceEq, Int.reduceNe, Int.reduceLT, Int.reduceLE, Int.reduceAdd, Int.reduceSub, Int.reduceMul, Int.reduceNeg, Int.reduceMod, Int.reduceDiv, Int.reduceTMod, Int.reduceTDiv, Int.reduceToNat, okChain_i, okLoads_nil, okLoads_in, okLoads_eq]; rfl)
  · rintro ρ F hf ⟨z14, hb⟩
    have z1 := (hf 1 rfl).trans r1
    have hlt : ¬ ((n.toNat : Nat) : Int) < n := by omega
    have hnn : ((n.toNat : Nat) : Int) = n := by omega
    rw [hnn] at hb
    refine ⟨?ρ2, F, ?run2, hb⟩
    case run2 =>
      simp (maxDischargeDepth := 8) only [l6_0, c6_15, z1, z14, hlt, RUN, Ed, knd, kndR, resV, binInt, mnmxV, mnmx2, fillL, unV, lenV, extractV, partV, loadAt, Nat.reduceAdd, Nat.reduceBEq, Nat.reduceEqDiff, Nat.reduceLT, Nat.reduceLeDiff, Nat.reduceMul, Nat.reduceSub, reduceIte, Int.reduceEq, Int.reduceNe, Int.reduceLT, Int.reduceLE, Int.reduceAdd, Int.reduceSub, Int.reduceMul, Int.reduceNeg, Int.reduceMod, Int.reduceDiv, Int.reduceTMod, Int.reduceTDiv, Int.reduceToNat, okChain_i, okLoads_nil, okLoads_in, okLoads_eq]
      rfl
theorem ages (s n ch q : Int) (hq : 0 ≤ q ∧ q ≤ 255) (H : Heap) : Ok (K 6 [.int .i64 s, .int .i64 n, .int .i64 ch, .int .u8 q] H) := by
  have q6 : K 6 [.int .i64 s, .int .i64 n, .int .i64 ch, .int .u8 q] H = done r6.res (E Try.prog hints r6.body (frame0 [.int .i64 s, .int .i64 n, .int .i64 ch, .int .u8 q]) H) := D_eq p6 _ _ (Nat.le_of_ble_eq_true rfl)
  have hc := chan_num ch
  have hnb := num_bd ch 47 (by omega)
  have m1 := fun H => number_f ch 47 (by omega) (by omega) H
  have hnn := num_bd n 60 (by omega)
  have m2 := fun H => number_f n 60 (by omega) (by omega) H
  have hns := num_bd s 30 (by omega)
  have m3 := fun H => number_f s 30 (by omega) (by omega) H
  generalize num ch 47 = cn at *
  generalize num n 60 = nn at *
  generalize num s 30 = sn at *
  obtain ⟨c, hcn⟩ : ∃ c, c = cn + 1 := ⟨_, rfl⟩
  have hw1 : IntKind.i64.wrap (cn + 1) = c := by rw [hcn]; exact wrap64 _ (by omega) (by omega)
  rw [← hcn] at hc
  obtain ⟨F0, e0, x0⟩ := first_f H
  obtain ⟨p, F1, e1, k1, x1, _⟩ := new_f sn F0
  have hs : clampZ sn 0 1000 = sn := by unfold clampZ; omega
  rw [hs] at k1
  obtain ⟨X2, e2⟩ := get_f k1 c
  have v2 : valF (fun _ => none) c = 0 := rfl
  have i2 : isF (fun _ => none) sn c = false := rfl
  rw [v2, i2] at e2
  have k2 := k1.ext (Ext.more F1 X2)
  obtain ⟨G2, hG2⟩ : ∃ G, G = F1 ++ X2 := ⟨_, rfl⟩
  rw [← hG2] at e2 k2
  obtain ⟨X3, e3⟩ := age_f k2 c
  have a3 : ageF (fun _ => none) c = 1000 := rfl
  rw [a3] at e3
  have k3 := k2.ext (Ext.more G2 X3)
  obtain ⟨G3, hG3⟩ : ∃ G, G = G2 ++ X3 := ⟨_, rfl⟩
  rw [← hG3] at e3 k3
  obtain ⟨G4, e4, k4, s4⟩ := put_f k3 c q 5
  obtain ⟨b4', f4'⟩ := put_none c q 5 hc
  rw [b4'] at e4; rw [f4'] at k4
  simp only [K] at e0 e1 e2 e3 e4 q6 m1 m2 m3
  have key : ∀ ρ : Fr, ρ 0 = .int .i64 sn → ρ 1 = .int .i64 nn → ρ 2 = .int .i64 c → ρ 3 = .int .u8 q → ρ 9 = .bool true → ρ 10 = .pointer (some ⟨p, 0, none⟩) → ρ 12 = .bool false → ρ 13 = .int .i64 1000 → ρ 14 = .int .i64 (0 : Nat) →
      Ok (done [.tmp 8] (andThen (blk 0 (E Try.prog hints (.loop l6_0) ρ G4)) (E Try.prog hints t6))) := by
    intro ρ z0 z1 z2 z3 z9 z10 z12 z13 z14
    obtain ⟨ρ', F', e, hf, hb⟩ := loop6 p nn c sn q hnn ρ G4 z1 z10 z14 k4
    rw [e]
    simp (maxDischargeDepth := 8) only [RUN, Ed, knd, kndR, resV, binInt, mnmxV, mnmx2, fillL, unV, lenV, extractV, partV, loadAt, Nat.reduceAdd, Nat.reduceBEq, Nat.reduceEqDiff, Nat.reduceLT, Nat.reduceLeDiff, Nat.reduceMul, Nat.reduceSub, reduceIte, Int.reduceEq, Int.reduceNe, Int.reduceLT, Int.reduceLE, Int.reduceAdd, Int.reduceSub, Int.reduceMul, Int.reduceNeg, Int.reduceMod, Int.reduceDiv, Int.reduceTMod, Int.reduceTDiv, Int.reduceToNat, okChain_i, okLoads_nil, okLoads_in, okLoads_eq]
    exact tail6 p nn c sn q hc hnn hns hq ρ' F' ((hf 0 rfl).trans z0) ((hf 1 rfl).trans z1) ((hf 2 rfl).trans z2) ((hf 3 rfl).trans z3) ((hf 9 rfl).trans z9) ((hf 10 rfl).trans z10) ((hf 12 rfl).trans z12) ((hf 13 rfl).trans z13) hb
  rw [K, q6]
  simp (maxDischargeDepth := 8) only [Sim.r6, b6t, c6_0, c6_1, c6_2, c6_3, c6_4, c6_5, c6_6, c6_7, c6_8, c6_9, c6_10, c6_11, c6_12, c6_13, c6_14, ← hG2, ← hG3, e0, e1, e2, e3, e4, m1, m2, m3, hw1, RUN, Ed, knd, kndR, resV, binInt, mnmxV, mnmx2, fillL, unV, lenV, extractV, partV, loadAt, Nat.reduceAdd, Nat.reduceBEq, Nat.reduceEqDiff, Nat.reduceLT, Nat.reduceLeDiff, Nat.reduceMul, Nat.reduceSub, reduceIte, Int.reduceEq, Int.reduceNe, Int.reduceLT, Int.reduceLE, Int.reduceAdd, Int.reduceSub, Int.reduceMul, Int.reduceNeg, Int.reduceMod, Int.reduceDiv, Int.reduceTMod, Int.reduceTDiv, Int.reduceToNat, okChain_i, okLoads_nil, okLoads_in, okLoads_eq]
  refine key _ ?_ ?_ ?_ ?_ ?_ ?_ ?_ ?_ ?_
  all_goals first | (simp (maxDischargeDepth := 8) only [RUN, Ed, knd, kndR, resV, binInt, mnmxV, mnmx2, fillL, unV, lenV, extractV, partV, loadAt, Nat.reduceAdd, Nat.reduceBEq, Nat.reduceEqDiff, Nat.reduceLT, Nat.reduceLeDiff, Nat.reduceMul, Nat.reduceSub, reduceIte, Int.reduceEq, Int.reduceNe, Int.reduceLT, Int.reduceLE, Int.reduceAdd, Int.reduceSub, Int.reduceMul, Int.reduceNeg, Int.reduceMod, Int.reduceDiv, Int.reduceTMod, Int.reduceTDiv, Int.reduceToNat, okChain_i, okLoads_nil, okLoads_in, okLoads_eq]; done) | (simp (maxDischargeDepth := 8) only [RUN, Ed, knd, kndR, resV, binInt, mnmxV, mnmx2, fillL, unV, lenV, extractV, partV, loadAt, Nat.reduceAdd, Nat.reduceBEq, Nat.reduceEqDiff, Nat.reduceLT, Nat.reduceLeDiff, Nat.reduceMul, Nat.reduceSub, reduceIte, Int.reduceEq, Int.reduceNe, Int.reduceLT, Int.reduceLE, Int.reduceAdd, Int.reduceSub, Int.reduceMul, Int.reduceNeg, Int.reduceMod, Int.reduceDiv, Int.reduceTMod, Int.reduceTDiv, Int.reduceToNat, okChain_i, okLoads_nil, okLoads_in, okLoads_eq]; rfl)
end Go.Proofs.Ytoknmodbdlfdmaa.Sim
