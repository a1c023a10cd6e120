/- What a contactor says; ContactPlays. -/
import Derived.Test.YtbamnfladjkkcaaCop1
import Derived.Test.YtbamnfladjkkcaaSim21
namespace Go.Proofs.Ytbamnfladjkkcaa.Sim
open Go
set_option linter.unusedSimpArgs false
set_option linter.unusedVariables false
def opn (x : CS) : Bool := !x.told && decide (x.d ≤ x.since) && x.fresh && !x.rd
theorem open_f (p : Nat) (x : CS) (H : Heap) (h : live H p = some ⟨true, 80, x.I⟩) : D Try.prog hints 23 [.pointer (some ⟨p, 0, none⟩)] H = some (.bool (opn x), H) := by
  obtain ⟨d, b, told, since, wrong, f0, r0, jo, js⟩ := x
  have hp := live_lt h
  simp only [CS.I] at h
  rw [D_eq p23 _ _ (Nat.le_of_ble_eq_true rfl)]
  cases told
  · by_cases h1 : d ≤ since
    · cases f0
      · simp (maxDischargeDepth := 8) only [r23, b23, c23_0, c23_1, h, hp, h1, opn, okChain_all, RUN, Ed, knd, kndR, resV, binInt, mnmxV, mnmx2, fillL, unV, lenV, extractV, partV, loadAt, Nat.reduceAdd, Nat.reduceBEq, Nat.reduceEqDiff, Nat.reduceLT, Nat.reduceLeDiff, Nat.reduceMul, Nat.reduceSub, reduceIte, Int.reduceEq, Int.reduceNe, Int.reduceLT, Int.reduceLE, Int.reduceAdd, Int.reduceSub, Int.reduceMul, Int.reduceNeg, Int.reduceMod, Int.reduceDiv, Int.reduceTMod, Int.reduceTDiv, Int.reduceToNat]
      · cases r0
        · have e : decide (rv false = 0) = true := rfl
          simp (maxDischargeDepth := 8) only [r23, b23, c23_0, c23_1, h, hp, h1, e, opn, okChain_all, RUN, Ed, knd, kndR, resV, binInt, mnmxV, mnmx2, fillL, unV, lenV, extractV, partV, loadAt, Nat.reduceAdd, Nat.reduceBEq, Nat.reduceEqDiff, Nat.reduceLT, Nat.reduceLeDiff, Nat.reduceMul, Nat.reduceSub, reduceIte, Int.reduceEq, Int.reduceNe, Int.reduceLT, Int.reduceLE, Int.reduceAdd, Int.reduceSub, Int.reduceMul, Int.reduceNeg, Int.reduceMod, Int.reduceDiv, Int.reduceTMod, Int.reduceTDiv, Int.reduceToNat]
        · have e : decide (rv true = 0) = false := rfl
          simp (maxDischargeDepth := 8) only [r23, b23, c23_0, c23_1, h, hp, h1, e, opn, okChain_all, RUN, Ed, knd, kndR, resV, binInt, mnmxV, mnmx2, fillL, unV, lenV, extractV, partV, loadAt, Nat.reduceAdd, Nat.reduceBEq, Nat.reduceEqDiff, Nat.reduceLT, Nat.reduceLeDiff, Nat.reduceMul, Nat.reduceSub, reduceIte, Int.reduceEq, Int.reduceNe, Int.reduceLT, Int.reduceLE, Int.reduceAdd, Int.reduceSub, Int.reduceMul, Int.reduceNeg, Int.reduceMod, Int.reduceDiv, Int.reduceTMod, Int.reduceTDiv, Int.reduceToNat]
    · simp (maxDischargeDepth := 8) only [r23, b23, c23_0, c23_1, h, hp, h1, opn, okChain_all, RUN, Ed, knd, kndR, resV, binInt, mnmxV, mnmx2, fillL, unV, lenV, extractV, partV, loadAt, Nat.reduceAdd, Nat.reduceBEq, Nat.reduceEqDiff, Nat.reduceLT, Nat.reduceLeDiff, Nat.reduceMul, Nat.reduceSub, reduceIte, Int.reduceEq, Int.reduceNe, Int.reduceLT, Int.reduceLE, Int.reduceAdd, Int.reduceSub, Int.reduceMul, Int.reduceNeg, Int.reduceMod, Int.reduceDiv, Int.reduceTMod, Int.reduceTDiv, Int.reduceToNat]
  · simp (maxDischargeDepth := 8) only [r23, b23, c23_0, c23_1, h, hp, opn, okChain_all, RUN, Ed, knd, kndR, resV, binInt, mnmxV, mnmx2, fillL, unV, lenV, extractV, partV, loadAt, Nat.reduceAdd, Nat.reduceBEq, Nat.reduceEqDiff, Nat.reduceLT, Nat.reduceLeDiff, Nat.reduceMul, Nat.reduceSub, reduceIte, Int.reduceEq, Int.reduceNe, Int.reduceLT, Int.reduceLE, Int.reduceAdd, Int.reduceSub, Int.reduceMul, Int.reduceNeg, Int.reduceMod, Int.reduceDiv, Int.reduceTMod, Int.reduceTDiv, Int.reduceToNat]
theorem openR_f (p : Nat) (x : CS) (H : Heap) (h : live H p = some ⟨true, 31, x.R true⟩) : D Try.prog hints 24 [.pointer (some ⟨p, 0, none⟩)] H = some (.bool (opn x), H) := by
  obtain ⟨d, b, told, since, wrong, f0, r0, jo, js⟩ := x
  have hp := live_lt h
  simp only [CS.R] at h
  rw [D_eq p24 _ _ (Nat.le_of_ble_eq_true rfl)]
  cases told
  · by_cases h1 : d ≤ since
    · cases f0 <;> cases r0 <;>
      · simp (maxDischargeDepth := 8) only [r24, b24, c24_0, c24_1, h, hp, h1, opn, okChain_all, RUN, Ed, knd, kndR, resV, binInt, mnmxV, mnmx2, fillL, unV, lenV, extractV, partV, loadAt, Nat.reduceAdd, Nat.reduceBEq, Nat.reduceEqDiff, Nat.reduceLT, Nat.reduceLeDiff, Nat.reduceMul, Nat.reduceSub, reduceIte, Int.reduceEq, Int.reduceNe, Int.reduceLT, Int.reduceLE, Int.reduceAdd, Int.reduceSub, Int.reduceMul, Int.reduceNeg, Int.reduceMod, Int.reduceDiv, Int.reduceTMod, Int.reduceTDiv, Int.reduceToNat]
    · simp (maxDischargeDepth := 8) only [r24, b24, c24_0, c24_1, h, hp, h1, opn, okChain_all, RUN, Ed, knd, kndR, resV, binInt, mnmxV, mnmx2, fillL, unV, lenV, extractV, partV, loadAt, Nat.reduceAdd, Nat.reduceBEq, Nat.reduceEqDiff, Nat.reduceLT, Nat.reduceLeDiff, Nat.reduceMul, Nat.reduceSub, reduceIte, Int.reduceEq, Int.reduceNe, Int.reduceLT, Int.reduceLE, Int.reduceAdd, Int.reduceSub, Int.reduceMul, Int.reduceNeg, Int.reduceMod, Int.reduceDiv, Int.reduceTMod, Int.reduceTDiv, Int.reduceToNat]
  · simp (maxDischargeDepth := 8) only [r24, b24, c24_0, c24_1, h, hp, opn, okChain_all, RUN, Ed, knd, kndR, resV, binInt, mnmxV, mnmx2, fillL, unV, lenV, extractV, partV, loadAt, Nat.reduceAdd, Nat.reduceBEq, Nat.reduceEqDiff, Nat.reduceLT, Nat.reduceLeDiff, Nat.reduceMul, Nat.reduceSub, reduceIte, Int.reduceEq, Int.reduceNe, Int.reduceLT, Int.reduceLE, Int.reduceAdd, Int.reduceSub, Int.reduceMul, Int.reduceNeg, Int.reduceMod, Int.reduceDiv, Int.reduceTMod, Int.reduceTDiv, Int.reduceToNat]
def cls (x : CS) : Bool := x.fresh && x.rd
theorem closed_f (p : Nat) (x : CS) (H : Heap) (h : live H p = some ⟨true, 80, x.I⟩) : D Try.prog hints 25 [.pointer (some ⟨p, 0, none⟩)] H = some (.bool (cls x), H) := by
  obtain ⟨d, b, told, since, wrong, f0, r0, jo, js⟩ := x
  have hp := live_lt h
  simp only [CS.I] at h
  rw [D_eq p25 _ _ (Nat.le_of_ble_eq_true rfl)]
  cases f0
  · simp (maxDischargeDepth := 8) only [r25, b25, c25_0, c25_1, h, hp, cls, RUN, Ed, knd, kndR, resV, binInt, mnmxV, mnmx2, fillL, unV, lenV, extractV, partV, loadAt, Nat.reduceAdd, Nat.reduceBEq, Nat.reduceEqDiff, Nat.reduceLT, Nat.reduceLeDiff, Nat.reduceMul, Nat.reduceSub, reduceIte, Int.reduceEq, Int.reduceNe, Int.reduceLT, Int.reduceLE, Int.reduceAdd, Int.reduceSub, Int.reduceMul, Int.reduceNeg, Int.reduceMod, Int.reduceDiv, Int.reduceTMod, Int.reduceTDiv, Int.reduceToNat, okChain_i, okLoads_nil, okLoads_in, okLoads_eq]
  · cases r0
    · have e : decide (rv false = 1) = false := rfl
      simp (maxDischargeDepth := 8) only [r25, b25, c25_0, c25_1, h, hp, e, cls, RUN, Ed, knd, kndR, resV, binInt, mnmxV, mnmx2, fillL, unV, lenV, extractV, partV, loadAt, Nat.reduceAdd, Nat.reduceBEq, Nat.reduceEqDiff, Nat.reduceLT, Nat.reduceLeDiff, Nat.reduceMul, Nat.reduceSub, reduceIte, Int.reduceEq, Int.reduceNe, Int.reduceLT, Int.reduceLE, Int.reduceAdd, Int.reduceSub, Int.reduceMul, Int.reduceNeg, Int.reduceMod, Int.reduceDiv, Int.reduceTMod, Int.reduceTDiv, Int.reduceToNat, okChain_i, okLoads_nil, okLoads_in, okLoads_eq]
    · have e : decide (rv true = 1) = true := rfl
      simp (maxDischargeDepth := 8) only [r25, b25, c25_0, c25_1, h, hp, e, cls, RUN, Ed, knd, kndR, resV, binInt, mnmxV, mnmx2, fillL, unV, lenV, extractV, partV, loadAt, Nat.reduceAdd, Nat.reduceBEq, Nat.reduceEqDiff, Nat.reduceLT, Nat.reduceLeDiff, Nat.reduceMul, Nat.reduceSub, reduceIte, Int.reduceEq, Int.reduceNe, Int.reduceLT, Int.reduceLE, Int.reduceAdd, Int.reduceSub, Int.reduceMul, Int.reduceNeg, Int.reduceMod, Int.reduceDiv, Int.reduceTMod, Int.reduceTDiv, Int.reduceToNat, okChain_i, okLoads_nil, okLoads_in, okLoads_eq]
theorem closedR_f (p : Nat) (x : CS) (H : Heap) (h : live H p = some ⟨true, 31, x.R true⟩) : D Try.prog hints 26 [.pointer (some ⟨p, 0, none⟩)] H = some (.bool (cls x), H) := by
  obtain ⟨d, b, told, since, wrong, f0, r0, jo, js⟩ := x
  have hp := live_lt h
  simp only [CS.R] at h
  rw [D_eq p26 _ _ (Nat.le_of_ble_eq_true rfl)]
  cases f0 <;> cases r0 <;>
  · simp (maxDischargeDepth := 8) only [r26, b26, c26_0, c26_1, h, hp, cls, RUN, Ed, knd, kndR, resV, binInt, mnmxV, mnmx2, fillL, unV, lenV, extractV, partV, loadAt, Nat.reduceAdd, Nat.reduceBEq, Nat.reduceEqDiff, Nat.reduceLT, Nat.reduceLeDiff, Nat.reduceMul, Nat.reduceSub, reduceIte, Int.reduceEq, Int.reduceNe, Int.reduceLT, Int.reduceLE, Int.reduceAdd, Int.reduceSub, Int.reduceMul, Int.reduceNeg, Int.reduceMod, Int.reduceDiv, Int.reduceTMod, Int.reduceTDiv, Int.reduceToNat, okChain_i, okLoads_nil, okLoads_in, okLoads_eq]
theorem jam_f (p : Nat) (x : CS) (H : Heap) (h : live H p = some ⟨true, 80, x.I⟩) : D Try.prog hints 22 [.pointer (some ⟨p, 0, none⟩)] H = some (.tuple ⟨[.bool x.jo, .bool x.js]⟩, H) := by
  obtain ⟨d, b, told, since, wrong, f0, r0, jo, js⟩ := x
  have hp := live_lt h
  simp only [CS.I] at h
  rw [D_eq p22 _ _ (Nat.le_of_ble_eq_true rfl)]
  simp (maxDischargeDepth := 8) only [r22, b22, c22_0, c22_1, h, hp, okChain_all, RUN, Ed, knd, kndR, resV, binInt, mnmxV, mnmx2, fillL, unV, lenV, extractV, partV, loadAt, Nat.reduceAdd, Nat.reduceBEq, Nat.reduceEqDiff, Nat.reduceLT, Nat.reduceLeDiff, Nat.reduceMul, Nat.reduceSub, reduceIte, Int.reduceEq, Int.reduceNe, Int.reduceLT, Int.reduceLE, Int.reduceAdd, Int.reduceSub, Int.reduceMul, Int.reduceNeg, Int.reduceMod, Int.reduceDiv, Int.reduceTMod, Int.reduceTDiv, Int.reduceToNat]
theorem back_f (c f r : Bool) (H : Heap) : D Try.prog hints 20 [.agg ⟨[.bool c, .bool f, .bool r]⟩] H = some (.agg ⟨[.int .i64 (rv r), .bool f]⟩, H ++ [some ⟨true, 34, [.bool c, .bool f, .bool r]⟩, some ⟨true, 36, [.int .i64 (rv r), .bool f]⟩, some ⟨true, 36, [.int .i64 (rv r), .bool f]⟩]) := by
  rw [D_eq p20 _ _ (Nat.le_of_ble_eq_true rfl)]
  cases r
  · have e : rv false = 0 := rfl
    simp (maxDischargeDepth := 8) only [r20, b20, c20_0, c20_1, c20_2, c20_3, c20_4, e, RUN, Ed, knd, kndR, resV, binInt, mnmxV, mnmx2, fillL, unV, lenV, extractV, partV, loadAt, Nat.reduceAdd, Nat.reduceBEq, Nat.reduceEqDiff, Nat.reduceLT, Nat.reduceLeDiff, Nat.reduceMul, Nat.reduceSub, reduceIte, Int.reduceEq, Int.reduceNe, Int.reduceLT, Int.reduceLE, Int.reduceAdd, Int.reduceSub, Int.reduceMul, Int.reduceNeg, Int.reduceMod, Int.reduceDiv, Int.reduceTMod, Int.reduceTDiv, Int.reduceToNat, okChain_i, okLoads_nil, okLoads_in, okLoads_eq]
  · have e : rv true = 1 := rfl
    simp (maxDischargeDepth := 8) only [r20, b20, c20_0, c20_1, c20_2, c20_3, c20_4, e, RUN, Ed, knd, kndR, resV, binInt, mnmxV, mnmx2, fillL, unV, lenV, extractV, partV, loadAt, Nat.reduceAdd, Nat.reduceBEq, Nat.reduceEqDiff, Nat.reduceLT, Nat.reduceLeDiff, Nat.reduceMul, Nat.reduceSub, reduceIte, Int.reduceEq, Int.reduceNe, Int.reduceLT, Int.reduceLE, Int.reduceAdd, Int.reduceSub, Int.reduceMul, Int.reduceNeg, Int.reduceMod, Int.reduceDiv, Int.reduceTMod, Int.reduceTDiv, Int.reduceToNat, okChain_i, okLoads_nil, okLoads_in, okLoads_eq]
theorem set_same {H : Heap} {p : Nat} {b : Blk} (h : live H p = some b) : H.set p (some b) = H := by
  have hp := live_lt h
  have e : H[p]? = some (some b) := live_some h
  apply List.ext_getElem?
  intro i
  by_cases hi : i = p
  · subst hi
    rw [List.getElem?_set_self hp, e]
  · rw [List.getElem?_set_ne (by omega)]
def jmd (x : CS) (o c : Bool) : CS := { x with jo := x.jo || o, js := x.js || c }
theorem setG_f (p : Nat) (x : CS) (o c : Bool) (H : Heap) (h : live H p = some ⟨true, 80, x.I⟩) : D Try.prog hints 18 [.pointer (some ⟨p, 0, none⟩), .bool o, .bool c] H = some (.tuple ⟨[]⟩, H.set p (some ⟨true, 80, (jmd x o c).I⟩)) := by
  have := set_f p x.d x.b x.since x.wrong (rv x.rd) x.told x.fresh x.jo x.js o c H [] (live_lt h)
  rw [List.append_nil, List.append_nil] at this
  rw [show H.set p (some ⟨true, 80, [.int .i64 x.d, .int .i64 x.b, .bool x.told, .int .i64 x.since, .int .i64 x.wrong, .int .i64 (rv x.rd), .bool x.fresh, .bool x.jo, .bool x.js]⟩) = H from set_same (b := ⟨true, 80, x.I⟩) h] at this
  exact this
theorem CI.jmd {x : CS} {n : Nat} (h : CI x n) (o c : Bool) : CI (jmd x o c) n := by
  obtain ⟨d1, b1, s0, s1, w0, w1, j⟩ := h
  refine ⟨d1, b1, s0, s1, w0, w1, fun hb => ?_⟩
  have := j hb
  show (if x.told = true then x.jo || o else x.js || c) = true
  cases ht : x.told <;> rw [ht] at this <;> simp at this ⊢ <;> simp [this]
theorem firstC_f (H : Heap) : ∃ X, D Try.prog hints 15 [] H = some (.bool true, H ++ X) := by
  have e1 := new_f 1 1 H
  have x0 : new0 1 1 = ⟨1, 1, false, -2, 0, false, false, false, false⟩ := rfl
  rw [x0] at e1
  obtain ⟨H1, hH1⟩ : ∃ H1, H1 = H ++ [some ⟨true, 80, (⟨1, 1, false, -2, 0, false, false, false, false⟩ : CS).I⟩] := ⟨_, rfl⟩
  have k1 : live H1 H.length = some ⟨true, 80, (⟨1, 1, false, -2, 0, false, false, false, false⟩ : CS).I⟩ := by rw [hH1]; exact (live_app_len _ _).trans rfl
  rw [← hH1] at e1
  have o1 := open_f _ _ _ k1
  have c0 : CI ⟨1, 1, false, -2, 0, false, false, false, false⟩ 0 := x0 ▸ CI_new 1 1
  have s1 := step_f_all _ _ 0 (by omega) c0 false true false H1 k1
  have y1 : stp ⟨1, 1, false, -2, 0, false, false, false, false⟩ false true false = ⟨1, 1, false, -1, 0, true, false, false, false⟩ := rfl
  have c1 := c0.stp false true false
  rw [y1] at s1 c1
  have k2 := live_more0 (live_set_eq H1 H.length (some ⟨true, 80, (⟨1, 1, false, -1, 0, true, false, false, false⟩ : CS).I⟩) (live_lt k1)) [some ⟨true, 36, [.int .i64 (rv false), .bool true]⟩]
  have s2 := step_f_all _ _ 1 (by omega) c1 false true false _ k2
  have y2 : stp ⟨1, 1, false, -1, 0, true, false, false, false⟩ false true false = ⟨1, 1, false, 0, 0, true, false, false, false⟩ := rfl
  have c2 := c1.stp false true false
  rw [y2] at s2 c2
  have k3 := live_more0 (live_set_eq _ H.length (some ⟨true, 80, (⟨1, 1, false, 0, 0, true, false, false, false⟩ : CS).I⟩) (live_lt k2)) [some ⟨true, 36, [.int .i64 (rv false), .bool true]⟩]
  have o2 := open_f _ _ _ k3
  have s3 := step_f_all _ _ 2 (by omega) c2 false true false _ k3
  have y3 : stp ⟨1, 1, false, 0, 0, true, false, false, false⟩ false true false = ⟨1, 1, false, 1, 0, true, false, false, false⟩ := rfl
  rw [y3] at s3
  have k4 := live_more0 (live_set_eq _ H.length (some ⟨true, 80, (⟨1, 1, false, 1, 0, true, false, false, false⟩ : CS).I⟩) (live_lt k3)) [some ⟨true, 36, [.int .i64 (rv false), .bool true]⟩]
  have o3 := open_f _ _ _ k4
  have cl := closed_f _ _ _ k4
  have hg : ∃ X, (((H1.set H.length (some (⟨true, 80, (⟨1, 1, false, -1, 0, true, false, false, false⟩ : CS).I⟩ : Blk)) ++ [some (⟨true, 36, [.int .i64 (rv false), .bool true]⟩ : Blk)]).set H.length (some (⟨true, 80, (⟨1, 1, false, 0, 0, true, false, false, false⟩ : CS).I⟩ : Blk)) ++ [some (⟨true, 36, [.int .i64 (rv false), .bool true]⟩ : Blk)]).set H.length (some (⟨true, 80, (⟨1, 1, false, 1, 0, true, false, false, false⟩ : CS).I⟩ : Blk)) ++ [some (⟨true, 36, [.int .i64 (rv false), .bool true]⟩ : Blk)]) = H ++ X := by
    have q : ∀ (X Z : Heap) (y : Option Blk), (H ++ X).set H.length y ++ Z = H ++ (X.set 0 y ++ Z) := fun X Z y => by rw [set_app_len, List.append_assoc]
    rw [hH1, q, q, q]
    exact ⟨_, rfl⟩
  obtain ⟨X, hX⟩ := hg
  generalize H1.set H.length (some ⟨true, 80, (⟨1, 1, false, -1, 0, true, false, false, false⟩ : CS).I⟩) ++ [some ⟨true, 36, [.int .i64 (rv false), .bool true]⟩] = G1 at *
  generalize G1.set H.length (some ⟨true, 80, (⟨1, 1, false, 0, 0, true, false, false, false⟩ : CS).I⟩) ++ [some ⟨true, 36, [.int .i64 (rv false), .bool true]⟩] = G2 at *
  generalize G2.set H.length (some ⟨true, 80, (⟨1, 1, false, 1, 0, true, false, false, false⟩ : CS).I⟩) ++ [some ⟨true, 36, [.int .i64 (rv false), .bool true]⟩] = G3 at *
  subst hX
  rw [show rv false = 0 from rfl] at s1 s2 s3
  rw [show opn ⟨1, 1, false, -2, 0, false, false, false, false⟩ = false from rfl] at o1
  rw [show opn ⟨1, 1, false, 0, 0, true, false, false, false⟩ = false from rfl] at o2
  rw [show opn ⟨1, 1, false, 1, 0, true, false, false, false⟩ = true from rfl] at o3
  rw [show cls ⟨1, 1, false, 1, 0, true, false, false, false⟩ = false from rfl] at cl
  simp only [K] at e1
  refine ⟨X, ?_⟩
  rw [D_eq p15 _ _ (Nat.le_of_ble_eq_true rfl)]
  simp (maxDischargeDepth := 8) only [r15, b15, c15_0, c15_1, c15_2, c15_3, c15_4, c15_5, c15_6, c15_7, c15_8, c15_9, e1, o1, s1, s2, o2, s3, o3, cl, RUN, Ed, knd, kndR, resV, binInt, mnmxV, mnmx2, fillL, unV, lenV, extractV, partV, loadAt, Nat.reduceAdd, Nat.reduceBEq, Nat.reduceEqDiff, Nat.reduceLT, Nat.reduceLeDiff, Nat.reduceMul, Nat.reduceSub, reduceIte, Int.reduceEq, Int.reduceNe, Int.reduceLT, Int.reduceLE, Int.reduceAdd, Int.reduceSub, Int.reduceMul, Int.reduceNeg, Int.reduceMod, Int.reduceDiv, Int.reduceTMod, Int.reduceTDiv, Int.reduceToNat, okChain_i, okLoads_nil, okLoads_in, okLoads_eq]
end Go.Proofs.Ytbamnfladjkkcaa.Sim
