/- FreshApart over the plain heap. -/
import Derived.Test.YtoknmodbdlfdmaaFre6
import Derived.Test.YtoknmodbdlfdmaaSim21
namespace Go.Proofs.Ytoknmodbdlfdmaa.Sim
open Go
set_option linter.unusedSimpArgs false
set_option linter.unusedVariables false
def t7 : RCode := (.seq (.region c7_16) (.seq (.region c7_17) (.seq (.region c7_18) (.seq (.region c7_19) .ret))))
theorem b7t : b7 = (.seq (.region c7_0) (.seq (.region c7_1) (.seq (.seq (.region c7_2) (.cond (.tmp 21) (.seq (.region c7_3) .ret) .skip)) (.seq (.region c7_4) (.seq (.region c7_5) (.seq (.seq (.region c7_6) (.cond (.tmp 30) (.seq (.region c7_7) .ret) .skip)) (.seq (.region c7_8) (.seq (.region c7_9) (.seq (.seq (.region c7_10) (.cond (.tmp 43) (.seq (.region c7_11) .ret) .skip)) (.seq (.seq (.region c7_12) (.block 0 (.loop l7_0))) t7)))))))))) := (rfl)
def fB (a c v w n : Int) : Int → Option La := fun d => if d = c then some (w, 3, 0) else fA a 200 v n d
theorem tail7 (p : Nat) (a c v w n : Int) (hc : chan c = true) (hac : a ≠ c) (hn : 0 ≤ n ∧ n < 9) (ρ : Fr) (F : Heap) (r0 : ρ 0 = .int .i64 a) (r1 : ρ 1 = .int .i64 c) (r2 : ρ 2 = .int .i64 v) (r3 : ρ 3 = .int .i64 w) (r4 : ρ 4 = .int .i64 n) (r11 : ρ 11 = .bool true) (r12 : ρ 12 = .pointer (some ⟨p, 0, none⟩))
    (hb : BK F p 20 (fA a 200 v n)) : Ok (done [.tmp 10] (E Try.prog hints t7 ρ F)) := by
  obtain ⟨G1, e1, k1, s1⟩ := put_f hb c 3 w
  have b1 : putB (fA a 200 v n) c 3 = true := by unfold putB; rw [hc, fA_ne _ _ _ _ _ (fun e => hac e.symm)]; rfl
  have f1 : putF (fA a 200 v n) c 3 w = fB a c v w n := by unfold putF; rw [if_pos b1]; rfl
  rw [b1] at e1; rw [f1] at k1
  have ea : fB a c v w n a = some (v, 200, n) := by unfold fB; rw [if_neg hac, fA_self]
  have ec : fB a c v w n c = some (w, 3, 0) := by unfold fB; rw [if_pos rfl]
  obtain ⟨X2, e2⟩ := get_f k1 a
  have v2 : valF (fB a c v w n) a = v := by unfold valF; rw [ea]
  have i2 : isF (fB a c v w n) 20 a = true := by unfold isF; rw [ea]; simp; omega
  rw [v2, i2] at e2
  have k2 := k1.ext (Ext.more G1 X2)
  obtain ⟨G2, hG2⟩ : ∃ G, G = G1 ++ X2 := ⟨_, rfl⟩
  rw [← hG2] at e2 k2
  obtain ⟨X3, e3⟩ := get_f k2 c
  have v3 : valF (fB a c v w n) c = w := by unfold valF; rw [ec]
  have i3 : isF (fB a c v w n) 20 c = true := by unfold isF; rw [ec]; rfl
  rw [v3, i3] at e3
  have k3 := k2.ext (Ext.more G2 X3)
  obtain ⟨G3, hG3⟩ : ∃ G, G = G2 ++ X3 := ⟨_, rfl⟩
  rw [← hG3] at e3 k3
  obtain ⟨X4, e4⟩ := age_f k3 a
  have a4 : ageF (fB a c v w n) a = n := by unfold ageF; rw [ea]
  rw [a4] at e4
  have k4 := k3.ext (Ext.more G3 X4)
  obtain ⟨G4, hG4⟩ : ∃ G, G = G3 ++ X4 := ⟨_, rfl⟩
  rw [← hG4] at e4 k4
  obtain ⟨X5, e5⟩ := age_f k4 c
  have a5 : ageF (fB a c v w n) c = 0 := by unfold ageF; rw [ec]
  rw [a5] at e5
  simp only [K] at e1 e2 e3 e4 e5
  simp (maxDischargeDepth := 8) only [t7, c7_0, c7_1, c7_2, c7_3, c7_4, c7_5, c7_6, c7_7, c7_8, c7_9, c7_10, c7_11, c7_12, c7_13, c7_14, c7_15, c7_16, c7_17, c7_18, c7_19, r0, r1, r2, r3, r4, r11, r12, ← hG2, ← hG3, ← hG4, e1, e2, e3, e4, e5, bself, eself, RUN, Ed, knd, kndR, resV, binInt, mnmxV, mnmx2, fillL, unV, lenV, extractV, partV, loadAt, Nat.reduceAdd, Nat.reduceBEq, Nat.reduceEqDiff, Nat.reduceLT, Nat.reduceLeDiff, Nat.reduceMul, Nat.reduceSub, reduceIte, Int.reduceEq, Int.reduceNe, Int.reduceLT, Int.reduceLE, Int.reduceAdd, Int.reduceSub, Int.reduceMul, Int.reduceNeg, Int.reduceMod, Int.reduceDiv, Int.reduceTMod, Int.reduceTDiv, Int.reduceToNat, okChain_i, okLoads_nil, okLoads_in, okLoads_eq]
  exact Ok.mk _
theorem loop7 (p : Nat) (a v n s : Int) (hn : 0 ≤ n ∧ n < 9) (ρ0 : Fr) (F0 : Heap) (r4 : ρ0 4 = .int .i64 n) (r12 : ρ0 12 = .pointer (some ⟨p, 0, none⟩)) (r13 : ρ0 13 = .int .i64 (0 : Nat)) (hb : BK F0 p s (fA a 200 v 0)) :
    ∃ ρ' F', E Try.prog hints (.loop l7_0) ρ0 F0 = some (.exit 0, ρ', F') ∧ (∀ t, wrC l7_0 t = false → ρ' t = ρ0 t) ∧ BK F' p s (fA a 200 v n) := by
  refine loop_keep (P := Try.prog) (hs := hints) (b := l7_0) (id := 0) ρ0 (fun j ρ F => ρ 13 = .int .i64 j ∧ BK F p s (fA a 200 v j)) (fun _ F => BK F p s (fA a 200 v n)) n.toNat ?_ ?_ F0 ⟨r13, hb⟩
  · rintro j ρ F hj hf ⟨z13, hb⟩
    have z4 := (hf 4 rfl).trans r4
    have z12 := (hf 12 rfl).trans r12
    have hlt : (j : Int) < n := by omega
    have w := wrap64 ((j : Int) + 1) (by omega) (by omega)
    obtain ⟨F1, e1, k1, s1⟩ := tick_f hb
    rw [tick_fA _ _ _ _ (by omega)] at k1
    simp only [K] at e1
    refine ⟨?ρ1, F1, ?run1, ?_, k1⟩
    case run1 =>
      simp (maxDischargeDepth := 8) only [l7_0, c7_0, c7_1, c7_2, c7_3, c7_4, c7_5, c7_6, c7_7, c7_8, c7_9, c7_10, c7_11, c7_12, c7_13, c7_14, c7_15, c7_16, c7_17, c7_18, c7_19, z4, z12, z13, hlt, w, e1, RUN, Ed, knd, kndR, resV, binInt, mnmxV, mnmx2, fillL, unV, lenV, extractV, partV, loadAt, Nat.reduceAdd, Nat.reduceBEq, Nat.reduceEqDiff, Nat.reduceLT, Nat.reduceLeDiff, Nat.reduceMul, Nat.reduceSub, reduceIte, Int.reduceEq, Int.reduceNe, Int.reduceLT, Int.reduceLE, Int.reduceAdd, Int.reduceSub, Int.reduceMul, Int.reduceNeg, Int.reduceMod, Int.reduceDiv, Int.reduceTMod, Int.reduceTDiv, Int.reduceToNat, okChain_i, okLoads_nil, okLoads_in, okLoads_eq]
      rfl
    all_goals first | (simp (maxDischargeDepth := 8) only [RUN, Ed, knd, kndR, resV, binInt, mnmxV, mnmx2, fillL, unV, lenV, extractV, partV, loadAt, Nat.reduceAdd, Nat.reduceBEq, Nat.reduceEqDiff, Nat.reduceLT, Nat.reduceLeDiff, Nat.reduceMul, Nat.reduceSub, reduceIte, Int.reduceEq, Int.reduceNe, Int.reduceLT, Int.reduceLE, Int.reduceAdd, Int.reduceSub, Int.reduceMul, Int.reduceNeg, Int.reduceMod, Int.reduceDiv, Int.reduceTMod, Int.reduceTDiv, Int.reduceToNat, okChain_i, okLoads_nil, okLoads_in, okLoads_eq]; done) | (simp (maxDischargeDepth := 8) only [RUN, Ed, knd, kndR, resV, binInt, mnmxV, mnmx2, fillL, unV, lenV, extractV, partV, loadAt, Nat.reduceAdd, Nat.reduceBEq, Nat.reduceEqDiff, Nat.reduceLT, Nat.reduceLeDiff, Nat.reduceMul, Nat.reduceSub, reduceIte, Int.reduceEq, Int.reduceNe, Int.reduceLT, Int.reduceLE, Int.reduceAdd, Int.reduceSub, Int.reduceMul, Int.reduceNeg, Int.reduceMod, Int.reduceDiv, Int.reduceTMod, Int.reduceTDiv, Int.reduceToNat, okChain_i, okLoads_nil, okLoads_in, okLoads_eq]; rfl)
  · rintro ρ F hf ⟨z13, hb⟩
    have z4 := (hf 4 rfl).trans r4
    have hlt : ¬ ((n.toNat : Nat) : Int) < n := by omega
    have hnn : ((n.toNat : Nat) : Int) = n := by omega
    rw [hnn] at hb
    refine ⟨?ρ2, F, ?run2, hb⟩
    case run2 =>
      simp (maxDischargeDepth := 8) only [l7_0, c7_13, z4, z13, hlt, RUN, Ed, knd, kndR, resV, binInt, mnmxV, mnmx2, fillL, unV, lenV, extractV, partV, loadAt, Nat.reduceAdd, Nat.reduceBEq, Nat.reduceEqDiff, Nat.reduceLT, Nat.reduceLeDiff, Nat.reduceMul, Nat.reduceSub, reduceIte, Int.reduceEq, Int.reduceNe, Int.reduceLT, Int.reduceLE, Int.reduceAdd, Int.reduceSub, Int.reduceMul, Int.reduceNeg, Int.reduceMod, Int.reduceDiv, Int.reduceTMod, Int.reduceTDiv, Int.reduceToNat, okChain_i, okLoads_nil, okLoads_in, okLoads_eq]
      rfl
theorem apart (a0 c0 v w n : Int) (H : Heap) : Ok (K 7 [.int .i64 a0, .int .i64 c0, .int .i64 v, .int .i64 w, .int .i64 n] H) := by
  have q7 : K 7 [.int .i64 a0, .int .i64 c0, .int .i64 v, .int .i64 w, .int .i64 n] H = done r7.res (E Try.prog hints r7.body (frame0 [.int .i64 a0, .int .i64 c0, .int .i64 v, .int .i64 w, .int .i64 n]) H) := D_eq p7 _ _ (Nat.le_of_ble_eq_true rfl)
  have ha := chan_num a0
  have hc := chan_num c0
  have hna := num_bd a0 47 (by omega)
  have hnc := num_bd c0 47 (by omega)
  have m1 := fun H => number_f a0 47 (by omega) (by omega) H
  have m2 := fun H => number_f c0 47 (by omega) (by omega) H
  have hnn := num_bd n 9 (by omega)
  have m3 := fun H => number_f n 9 (by omega) (by omega) H
  generalize num a0 47 = an at *
  generalize num c0 47 = cn at *
  generalize num n 9 = nn at *
  obtain ⟨a, han⟩ : ∃ a, a = an + 1 := ⟨_, rfl⟩
  have hw1 : IntKind.i64.wrap (an + 1) = a := by rw [han]; exact wrap64 _ (by omega) (by omega)
  rw [← han] at ha
  obtain ⟨c, hcn⟩ : ∃ c, c = cn + 1 := ⟨_, rfl⟩
  have hw2 : IntKind.i64.wrap (cn + 1) = c := by rw [hcn]; exact wrap64 _ (by omega) (by omega)
  rw [← hcn] at hc
  obtain ⟨F0, e0, x0⟩ := first_f H
  obtain ⟨p, F1, e1, k1, x1, _⟩ := new_f 20 F0
  have hs : clampZ 20 0 1000 = 20 := by rfl
  rw [hs] at k1
  obtain ⟨F2, e2, k2, s2⟩ := put_f k1 a 200 v
  obtain ⟨b2, f2⟩ := put_none a 200 v ha
  rw [b2] at e2; rw [f2] at k2
  simp only [K] at e0 e1 e2 q7 m1 m2 m3
  rw [K, q7]
  by_cases hac : a = c
  · have hd : decide (a = c) = true := by simpa using hac
    simp (maxDischargeDepth := 8) only [Sim.r7, b7t, c7_0, c7_1, c7_2, c7_3, c7_4, c7_5, c7_6, c7_7, e0, m1, m2, hw1, hw2, hd, RUN, Ed, knd, kndR, resV, binInt, mnmxV, mnmx2, fillL, unV, lenV, extractV, partV, loadAt, Nat.reduceAdd, Nat.reduceBEq, Nat.reduceEqDiff, Nat.reduceLT, Nat.reduceLeDiff, Nat.reduceMul, Nat.reduceSub, reduceIte, Int.reduceEq, Int.reduceNe, Int.reduceLT, Int.reduceLE, Int.reduceAdd, Int.reduceSub, Int.reduceMul, Int.reduceNeg, Int.reduceMod, Int.reduceDiv, Int.reduceTMod, Int.reduceTDiv, Int.reduceToNat, okChain_i, okLoads_nil, okLoads_in, okLoads_eq]
    exact Ok.mk _
  · have key : ∀ ρ : Fr, ρ 0 = .int .i64 a → ρ 1 = .int .i64 c → ρ 2 = .int .i64 v → ρ 3 = .int .i64 w → ρ 4 = .int .i64 nn → ρ 11 = .bool true → ρ 12 = .pointer (some ⟨p, 0, none⟩) → ρ 13 = .int .i64 (0 : Nat) →
        Ok (done [.tmp 10] (andThen (blk 0 (E Try.prog hints (.loop l7_0) ρ F2)) (E Try.prog hints t7))) := by
      intro ρ z0 z1 z2 z3 z4 z11 z12 z13
      obtain ⟨ρ', F', e, hf, hb⟩ := loop7 p a v nn 20 hnn ρ F2 z4 z12 z13 k2
      rw [e]
      simp (maxDischargeDepth := 8) only [RUN, Ed, knd, kndR, resV, binInt, mnmxV, mnmx2, fillL, unV, lenV, extractV, partV, loadAt, Nat.reduceAdd, Nat.reduceBEq, Nat.reduceEqDiff, Nat.reduceLT, Nat.reduceLeDiff, Nat.reduceMul, Nat.reduceSub, reduceIte, Int.reduceEq, Int.reduceNe, Int.reduceLT, Int.reduceLE, Int.reduceAdd, Int.reduceSub, Int.reduceMul, Int.reduceNeg, Int.reduceMod, Int.reduceDiv, Int.reduceTMod, Int.reduceTDiv, Int.reduceToNat, okChain_i, okLoads_nil, okLoads_in, okLoads_eq]
      exact tail7 p a c v w nn hc hac hnn ρ' F' ((hf 0 rfl).trans z0) ((hf 1 rfl).trans z1) ((hf 2 rfl).trans z2) ((hf 3 rfl).trans z3) ((hf 4 rfl).trans z4) ((hf 11 rfl).trans z11) ((hf 12 rfl).trans z12) hb
    have hd : decide (a = c) = false := by simpa using hac
    simp (maxDischargeDepth := 8) only [Sim.r7, b7t, c7_0, c7_1, c7_2, c7_3, c7_4, c7_5, c7_6, c7_7, c7_8, c7_9, c7_10, c7_11, c7_12, e0, e1, e2, m1, m2, m3, hw1, hw2, hd, RUN, Ed, knd, kndR, resV, binInt, mnmxV, mnmx2, fillL, unV, lenV, extractV, partV, loadAt, Nat.reduceAdd, Nat.reduceBEq, Nat.reduceEqDiff, Nat.reduceLT, Nat.reduceLeDiff, Nat.reduceMul, Nat.reduceSub, reduceIte, Int.reduceEq, Int.reduceNe, Int.reduceLT, Int.reduceLE, Int.reduceAdd, Int.reduceSub, Int.reduceMul, Int.reduceNeg, Int.reduceMod, Int.reduceDiv, Int.reduceTMod, Int.reduceTDiv, Int.reduceToNat, okChain_i, okLoads_nil, okLoads_in, okLoads_eq]
    refine key _ ?_ ?_ ?_ ?_ ?_ ?_ ?_ ?_
    all_goals first | (simp (maxDischargeDepth := 8) only [RUN, Ed, knd, kndR, resV, binInt, mnmxV, mnmx2, fillL, unV, lenV, extractV, partV, loadAt, Nat.reduceAdd, Nat.reduceBEq, Nat.reduceEqDiff, Nat.reduceLT, Nat.reduceLeDiff, Nat.reduceMul, Nat.reduceSub, reduceIte, Int.reduceEq, Int.reduceNe, Int.reduceLT, Int.reduceLE, Int.reduceAdd, Int.reduceSub, Int.reduceMul, Int.reduceNeg, Int.reduceMod, Int.reduceDiv, Int.reduceTMod, Int.reduceTDiv, Int.reduceToNat, okChain_i, okLoads_nil, okLoads_in, okLoads_eq]; done) | (simp (maxDischargeDepth := 8) only [RUN, Ed, knd, kndR, resV, binInt, mnmxV, mnmx2, fillL, unV, lenV, extractV, partV, loadAt, Nat.reduceAdd, Nat.reduceBEq, Nat.reduceEqDiff, Nat.reduceLT, Nat.reduceLeDiff, Nat.reduceMul, Nat.reduceSub, reduceIte, Int.reduceEq, Int.reduceNe, Int.reduceLT, Int.reduceLE, Int.reduceAdd, Int.reduceSub, Int.reduceMul, Int.reduceNeg, Int.reduceMod, Int.reduceDiv, Int.reduceTMod, Int.reduceTDiv, Int.reduceToNat, okChain_i, okLoads_nil, okLoads_in, okLoads_eq]; rfl)
end Go.Proofs.Ytoknmodbdlfdmaa.Sim
