/- Chapter 8 over the plain heap: a command's frame, and back. -/
import Derived.Test.YtdmfedmhcegggaaDoorPil1
import Derived.Test.YtdmfedmhcegggaaDoorSim21
namespace Go.Proofs.YtdmfedmhcegggaaDoor.Sim
open Go
set_option linter.unusedSimpArgs false
set_option linter.unusedVariables false
def pbP (c a : Int) : List Int := [c % 256, a % 256]
theorem pputBad_f (on : Nat → Bool) (c a s : Int) (H : Heap) (h : EH on H) (ho : on 0 = true) (hg : ¬ OkC c a) :
    D Tryd.prog hints 27 [.int .i64 c, .int .i64 a, .int .u8 s] H = some (.tuple ⟨[.agg ⟨zeroF⟩, Err 0]⟩, H ++ [some ⟨true, 27, zeroF⟩]) := by
  have e := fun G => may_f c a G
  have hd : decide (OkC c a) = false := by simpa using hg
  rw [hd] at e
  simp only [K] at e
  obtain ⟨t0, e0⟩ := h 0 (by omega) ho
  have i0 := live_lt e0
  rw [D_eq p27 _ _ (Nat.le_of_ble_eq_true rfl)]
  simp (maxDischargeDepth := 8) only [r27, b27, c27_0, c27_1, c27_2, zeroF, e, e0, i0, g0, RUN, Ed, knd, kndR, resV, binInt, mnmxV, mnmx2, fillL, unV, lenV, extractV, partV, loadAt, Nat.reduceAdd, Nat.reduceBEq, Nat.reduceEqDiff, Nat.reduceLT, Nat.reduceLeDiff, Nat.reduceMul, Nat.reduceSub, reduceIte, Int.reduceEq, Int.reduceNe, Int.reduceLT, Int.reduceLE, Int.reduceAdd, Int.reduceSub, Int.reduceMul, Int.reduceNeg, Int.reduceMod, Int.reduceDiv, Int.reduceTMod, Int.reduceTDiv, Int.reduceToNat, okChain_i, okLoads_nil, okLoads_in, okLoads_eq]
theorem pputGood_f (c a s : Int) (H : Heap) (hg : OkC c a) :
    D Tryd.prog hints 27 [.int .i64 c, .int .i64 a, .int .u8 s] H = some (.tuple ⟨[.agg ⟨[.int .u8 80, .int .u8 s, .slice (some ⟨H.length + 1, 0, none⟩) 2 1]⟩, .nilIface]⟩,
      H ++ [some ⟨true, 27, [.int .u8 80, .int .u8 s, .slice (some ⟨H.length + 1, 0, none⟩) 2 1]⟩, some ⟨true, 5, bL (pbP c a)⟩]) := by
  have e := fun G => may_f c a G
  have hd : decide (OkC c a) = true := by simpa using hg
  rw [hd] at e
  simp only [K] at e
  rw [D_eq p27 _ _ (Nat.le_of_ble_eq_true rfl)]
  simp (maxDischargeDepth := 8) only [r27, b27, c27_0, c27_1, c27_2, c27_3, e, wrapu8, bL, pbP, RUN, Ed, knd, kndR, resV, binInt, mnmxV, mnmx2, fillL, unV, lenV, extractV, partV, loadAt, Nat.reduceAdd, Nat.reduceBEq, Nat.reduceEqDiff, Nat.reduceLT, Nat.reduceLeDiff, Nat.reduceMul, Nat.reduceSub, reduceIte, Int.reduceEq, Int.reduceNe, Int.reduceLT, Int.reduceLE, Int.reduceAdd, Int.reduceSub, Int.reduceMul, Int.reduceNeg, Int.reduceMod, Int.reduceDiv, Int.reduceTMod, Int.reduceTDiv, Int.reduceToNat, okChain_i, okLoads_nil, okLoads_in, okLoads_eq]
theorem qputBad_f (c a s : Int) (H : Heap) (hg : ¬ OkC c a) :
    D Tryd.prog hints 28 [.int .i64 c, .int .i64 a, .int .u8 s] H = some (.tuple ⟨[.agg ⟨zeroF⟩, .int .i64 101]⟩, H ++ [some ⟨true, 27, zeroF⟩]) := by
  have e := fun G => goodP_f c a G
  have hd : decide (OkC c a) = false := by simpa using hg
  rw [hd] at e
  simp only [K] at e
  rw [D_eq p28 _ _ (Nat.le_of_ble_eq_true rfl)]
  simp (maxDischargeDepth := 8) only [r28, b28, c28_0, c28_1, c28_2, zeroF, e, RUN, Ed, knd, kndR, resV, binInt, mnmxV, mnmx2, fillL, unV, lenV, extractV, partV, loadAt, Nat.reduceAdd, Nat.reduceBEq, Nat.reduceEqDiff, Nat.reduceLT, Nat.reduceLeDiff, Nat.reduceMul, Nat.reduceSub, reduceIte, Int.reduceEq, Int.reduceNe, Int.reduceLT, Int.reduceLE, Int.reduceAdd, Int.reduceSub, Int.reduceMul, Int.reduceNeg, Int.reduceMod, Int.reduceDiv, Int.reduceTMod, Int.reduceTDiv, Int.reduceToNat, okChain_i, okLoads_nil, okLoads_in, okLoads_eq]
theorem qputGood_f (c a s : Int) (H : Heap) (hg : OkC c a) :
    D Tryd.prog hints 28 [.int .i64 c, .int .i64 a, .int .u8 s] H = some (.tuple ⟨[.agg ⟨[.int .u8 80, .int .u8 s, .slice (some ⟨H.length + 1, 0, none⟩) 2 1]⟩, .int .i64 0]⟩,
      H ++ [some ⟨true, 27, [.int .u8 80, .int .u8 s, .slice (some ⟨H.length + 1, 0, none⟩) 2 1]⟩, some ⟨true, 5, bL (pbP c a)⟩]) := by
  have e := fun G => goodP_f c a G
  have hd : decide (OkC c a) = true := by simpa using hg
  rw [hd] at e
  simp only [K] at e
  rw [D_eq p28 _ _ (Nat.le_of_ble_eq_true rfl)]
  simp (maxDischargeDepth := 8) only [r28, b28, c28_0, c28_1, c28_2, c28_3, e, wrapu8, bL, pbP, RUN, Ed, knd, kndR, resV, binInt, mnmxV, mnmx2, fillL, unV, lenV, extractV, partV, loadAt, Nat.reduceAdd, Nat.reduceBEq, Nat.reduceEqDiff, Nat.reduceLT, Nat.reduceLeDiff, Nat.reduceMul, Nat.reduceSub, reduceIte, Int.reduceEq, Int.reduceNe, Int.reduceLT, Int.reduceLE, Int.reduceAdd, Int.reduceSub, Int.reduceMul, Int.reduceNeg, Int.reduceMod, Int.reduceDiv, Int.reduceTMod, Int.reduceTDiv, Int.reduceToNat, okChain_i, okLoads_nil, okLoads_in, okLoads_eq]
def rdP (id : Int) (B : List Int) : Int × Int × Option Nat :=
  if id = 80 then (if (B.length : Int) < 2 then (0, 0, some 2) else if (2 : Int) < B.length then (0, 0, some 1) else if OkC (B.getD 0 0) (B.getD 1 0) then (B.getD 0 0, B.getD 1 0, none) else (0, 0, some 0)) else (0, 0, some 0)
theorem rdP_e (id : Int) (B : List Int) : ∀ i, (rdP id B).2.2 = some i → i < 7 := by
  intro i h
  unfold rdP at h
  split at h
  · split at h
    · cases h; omega
    · split at h
      · cases h; omega
      · split at h
        · cases h
        · cases h; omega
  · cases h; omega
theorem two_f {H : Heap} {v : Value} {B : List Int} (hB : BS H v B) (h2 : B.length = 2) : ∃ b0 b1 i o e ow ty cells, B = [b0, b1] ∧ v = .slice (some ⟨i, o, none⟩) 2 e ∧ live H i = some ⟨ow, ty, cells⟩ ∧ cells[o]? = some (.int .u8 b0) ∧ cells[o + 1]? = some (.int .u8 b1) := by
  match B, h2 with
  | [b0, b1], _ =>
    rcases hB with ⟨h, _⟩ | ⟨i, o, e, ow, ty, cells, h1, h2, h3⟩
    · cases h
    · exact ⟨b0, b1, i, o, e, ow, ty, cells, rfl, h1, h2, h3 0 _ rfl, h3 1 _ rfl⟩
theorem readP_f (on : Nat → Bool) (h0 : on 0 = true) (h1 : on 1 = true) (h2 : on 2 = true) (id s : Int) (v : Value) (B : List Int) (hb : ∀ b ∈ B, 0 ≤ b ∧ b < 256) (G : Heap) (hE : EH on G) (hB : BS G v B) :
    ∃ X, D Tryd.prog hints 26 [.agg ⟨[.int .u8 id, .int .u8 s, v]⟩] G = some (.tuple ⟨[.int .i64 (rdP id B).1, .int .i64 (rdP id B).2.1, EV (rdP id B).2.2]⟩, G ++ X) := by
  obtain ⟨o1, o2⟩ := hB.one
  have l := hB.len
  obtain ⟨t0, e0⟩ := hE 0 (by omega) h0
  obtain ⟨t1, e1⟩ := hE 1 (by omega) h1
  obtain ⟨t2, e2⟩ := hE 2 (by omega) h2
  have i0 := live_lt e0
  have i1 := live_lt e1
  have i2 := live_lt e2
  by_cases hid : id = 80
  · have did : decide (id = 80) = true := by simpa using hid
    by_cases k1 : (B.length : Int) < 2
    · have er : rdP id B = (0, 0, some 2) := by unfold rdP; rw [if_pos hid, if_pos k1]
      refine ⟨?X1, ?run1⟩
      case run1 =>
        rw [D_eq p26 _ _ (Nat.le_of_ble_eq_true rfl)]
        simp (maxDischargeDepth := 8) only [r26, b26, c26_0, c26_1, c26_2, c26_3, c26_4, c26_5, c26_6, c26_7, er, EV, l, o1, o2, e0, e1, e2, i0, i1, i2, g0, g1, g2, did, k1, RUN, Ed, knd, kndR, resV, binInt, mnmxV, mnmx2, fillL, unV, extractV, partV, loadAt, Nat.reduceAdd, Nat.reduceBEq, Nat.reduceEqDiff, Nat.reduceLT, Nat.reduceLeDiff, Nat.reduceMul, Nat.reduceSub, reduceIte, Int.reduceEq, Int.reduceNe, Int.reduceLT, Int.reduceLE, Int.reduceAdd, Int.reduceSub, Int.reduceMul, Int.reduceNeg, Int.reduceMod, Int.reduceDiv, Int.reduceTMod, Int.reduceTDiv, Int.reduceToNat, okChain_i, okLoads_nil, okLoads_in, okLoads_eq]
        rfl
    · by_cases k2 : (2 : Int) < (B.length : Int)
      · have er : rdP id B = (0, 0, some 1) := by unfold rdP; rw [if_pos hid, if_neg k1, if_pos k2]
        refine ⟨?X2, ?run2⟩
        case run2 =>
          rw [D_eq p26 _ _ (Nat.le_of_ble_eq_true rfl)]
          simp (maxDischargeDepth := 8) only [r26, b26, c26_0, c26_1, c26_2, c26_3, c26_4, c26_5, c26_6, c26_7, er, EV, l, o1, o2, e0, e1, e2, i0, i1, i2, g0, g1, g2, did, k1, k2, RUN, Ed, knd, kndR, resV, binInt, mnmxV, mnmx2, fillL, unV, extractV, partV, loadAt, Nat.reduceAdd, Nat.reduceBEq, Nat.reduceEqDiff, Nat.reduceLT, Nat.reduceLeDiff, Nat.reduceMul, Nat.reduceSub, reduceIte, Int.reduceEq, Int.reduceNe, Int.reduceLT, Int.reduceLE, Int.reduceAdd, Int.reduceSub, Int.reduceMul, Int.reduceNeg, Int.reduceMod, Int.reduceDiv, Int.reduceTMod, Int.reduceTDiv, Int.reduceToNat, okChain_i, okLoads_nil, okLoads_in, okLoads_eq]
          rfl
      · obtain ⟨b0, b1, i, o, e, ow, ty, cells, rfl, rfl, f0, f1, f2⟩ := two_f hB (by omega)
        have hq0 := hb b0 (by simp)
        have hq1 := hb b1 (by simp)
        have w0 := wrap64 b0 (by omega) (by omega)
        have w1 := wrap64 b1 (by omega) (by omega)
        have l0 : (0 : Int) < ((2 : Nat) : Int) := by decide
        have l1 : (1 : Int) < ((2 : Nat) : Int) := by decide
        have n2 : ¬ (((2 : Nat) : Int) < 2) := by decide
        have m2 : ¬ ((2 : Int) < ((2 : Nat) : Int)) := by decide
        have ii := live_lt f0
        have em := fun G => may_f b0 b1 G
        by_cases k3 : OkC b0 b1
        · have er : rdP id [b0, b1] = (b0, b1, none) := by unfold rdP; rw [if_pos hid, if_neg k1, if_neg k2]; exact if_pos k3
          rw [show decide (OkC b0 b1) = true by simpa using k3] at em
          simp only [K] at em
          refine ⟨?X3, ?run3⟩
          case run3 =>
            rw [D_eq p26 _ _ (Nat.le_of_ble_eq_true rfl)]
            simp (maxDischargeDepth := 8) only [r26, b26, c26_0, c26_1, c26_2, c26_3, c26_4, c26_5, c26_6, c26_7, c26_8, c26_9, c26_10, er, EV, e0, i0, g0, did, n2, m2, f0, f1, f2, ii, w0, w1, l0, l1, em, Nat.mul_one, okChain_all, RUN, Ed, knd, kndR, resV, binInt, mnmxV, mnmx2, fillL, unV, lenV, extractV, partV, loadAt, Nat.reduceAdd, Nat.reduceBEq, Nat.reduceEqDiff, Nat.reduceLT, Nat.reduceLeDiff, Nat.reduceMul, Nat.reduceSub, reduceIte, Int.reduceEq, Int.reduceNe, Int.reduceLT, Int.reduceLE, Int.reduceAdd, Int.reduceSub, Int.reduceMul, Int.reduceNeg, Int.reduceMod, Int.reduceDiv, Int.reduceTMod, Int.reduceTDiv, Int.reduceToNat]
            rfl
        · have er : rdP id [b0, b1] = (0, 0, some 0) := by unfold rdP; rw [if_pos hid, if_neg k1, if_neg k2]; exact if_neg k3
          rw [show decide (OkC b0 b1) = false by simpa using k3] at em
          simp only [K] at em
          refine ⟨?X4, ?run4⟩
          case run4 =>
            rw [D_eq p26 _ _ (Nat.le_of_ble_eq_true rfl)]
            simp (maxDischargeDepth := 8) only [r26, b26, c26_0, c26_1, c26_2, c26_3, c26_4, c26_5, c26_6, c26_7, c26_8, c26_9, c26_10, er, EV, e0, i0, g0, did, n2, m2, f0, f1, f2, ii, w0, w1, l0, l1, em, Nat.mul_one, okChain_all, RUN, Ed, knd, kndR, resV, binInt, mnmxV, mnmx2, fillL, unV, lenV, extractV, partV, loadAt, Nat.reduceAdd, Nat.reduceBEq, Nat.reduceEqDiff, Nat.reduceLT, Nat.reduceLeDiff, Nat.reduceMul, Nat.reduceSub, reduceIte, Int.reduceEq, Int.reduceNe, Int.reduceLT, Int.reduceLE, Int.reduceAdd, Int.reduceSub, Int.reduceMul, Int.reduceNeg, Int.reduceMod, Int.reduceDiv, Int.reduceTMod, Int.reduceTDiv, Int.reduceToNat]
            rfl
  · have did : decide (id = 80) = false := by simpa using hid
    have er : rdP id B = (0, 0, some 0) := by unfold rdP; rw [if_neg hid]
    refine ⟨?X5, ?run5⟩
    case run5 =>
      rw [D_eq p26 _ _ (Nat.le_of_ble_eq_true rfl)]
      simp (maxDischargeDepth := 8) only [r26, b26, c26_0, c26_1, c26_2, er, EV, l, o1, o2, e0, e1, e2, i0, i1, i2, g0, g1, g2, did, RUN, Ed, knd, kndR, resV, binInt, mnmxV, mnmx2, fillL, unV, extractV, partV, loadAt, Nat.reduceAdd, Nat.reduceBEq, Nat.reduceEqDiff, Nat.reduceLT, Nat.reduceLeDiff, Nat.reduceMul, Nat.reduceSub, reduceIte, Int.reduceEq, Int.reduceNe, Int.reduceLT, Int.reduceLE, Int.reduceAdd, Int.reduceSub, Int.reduceMul, Int.reduceNeg, Int.reduceMod, Int.reduceDiv, Int.reduceTMod, Int.reduceTDiv, Int.reduceToNat, okChain_i, okLoads_nil, okLoads_in, okLoads_eq]
      rfl
theorem readQ_f (id s : Int) (v : Value) (B : List Int) (hb : ∀ b ∈ B, 0 ≤ b ∧ b < 256) (G : Heap) (hB : BS G v B) :
    ∃ X, D Tryd.prog hints 29 [.agg ⟨[.int .u8 id, .int .u8 s, v]⟩] G = some (.tuple ⟨[.int .i64 (rdP id B).1, .int .i64 (rdP id B).2.1, .int .i64 (cd (rdP id B).2.2)]⟩, G ++ X) := by
  obtain ⟨o1, o2⟩ := hB.one
  have l := hB.len
  have e4 := fun X => long_f id s 2 v B (G ++ X) (hB.more X)
  simp only [K] at e4
  by_cases hid : id = 80
  · have did : decide (id = 80) = true := by simpa using hid
    by_cases k1 : (B.length : Int) < 2
    · have er : rdP id B = (0, 0, some 2) := by unfold rdP; rw [if_pos hid, if_pos k1]
      rw [if_pos k1] at e4
      refine ⟨?X6, ?run6⟩
      case run6 =>
        rw [D_eq p29 _ _ (Nat.le_of_ble_eq_true rfl)]
        simp (maxDischargeDepth := 8) only [r29, b29, c29_0, c29_1, c29_2, c29_3, c29_4, c29_5, er, cd, e4, o1, o2, did, RUN, Ed, knd, kndR, resV, binInt, mnmxV, mnmx2, fillL, unV, extractV, partV, loadAt, Nat.reduceAdd, Nat.reduceBEq, Nat.reduceEqDiff, Nat.reduceLT, Nat.reduceLeDiff, Nat.reduceMul, Nat.reduceSub, reduceIte, Int.reduceEq, Int.reduceNe, Int.reduceLT, Int.reduceLE, Int.reduceAdd, Int.reduceSub, Int.reduceMul, Int.reduceNeg, Int.reduceMod, Int.reduceDiv, Int.reduceTMod, Int.reduceTDiv, Int.reduceToNat, okChain_i, okLoads_nil, okLoads_in, okLoads_eq]
        rfl
    · rw [if_neg k1] at e4
      by_cases k2 : (2 : Int) < (B.length : Int)
      · have er : rdP id B = (0, 0, some 1) := by unfold rdP; rw [if_pos hid, if_neg k1, if_pos k2]
        rw [if_pos k2] at e4
        refine ⟨?X7, ?run7⟩
        case run7 =>
          rw [D_eq p29 _ _ (Nat.le_of_ble_eq_true rfl)]
          simp (maxDischargeDepth := 8) only [r29, b29, c29_0, c29_1, c29_2, c29_3, c29_4, c29_5, er, cd, e4, o1, o2, did, RUN, Ed, knd, kndR, resV, binInt, mnmxV, mnmx2, fillL, unV, extractV, partV, loadAt, Nat.reduceAdd, Nat.reduceBEq, Nat.reduceEqDiff, Nat.reduceLT, Nat.reduceLeDiff, Nat.reduceMul, Nat.reduceSub, reduceIte, Int.reduceEq, Int.reduceNe, Int.reduceLT, Int.reduceLE, Int.reduceAdd, Int.reduceSub, Int.reduceMul, Int.reduceNeg, Int.reduceMod, Int.reduceDiv, Int.reduceTMod, Int.reduceTDiv, Int.reduceToNat, okChain_i, okLoads_nil, okLoads_in, okLoads_eq]
          rfl
      · rw [if_neg k2] at e4
        obtain ⟨b0, b1, i, o, e, ow, ty, cells, rfl, rfl, f0, f1, f2⟩ := two_f hB (by omega)
        have hq0 := hb b0 (by simp)
        have hq1 := hb b1 (by simp)
        have w0 := wrap64 b0 (by omega) (by omega)
        have w1 := wrap64 b1 (by omega) (by omega)
        have l0 : (0 : Int) < ((2 : Nat) : Int) := by decide
        have l1 : (1 : Int) < ((2 : Nat) : Int) := by decide
        have ii := live_lt f0
        have em := fun G => goodP_f b0 b1 G
        by_cases k3 : OkC b0 b1
        · have er : rdP id [b0, b1] = (b0, b1, none) := by unfold rdP; rw [if_pos hid, if_neg k1, if_neg k2]; exact if_pos k3
          rw [show decide (OkC b0 b1) = true by simpa using k3] at em
          simp only [K] at em
          refine ⟨?X8, ?run8⟩
          case run8 =>
            rw [D_eq p29 _ _ (Nat.le_of_ble_eq_true rfl)]
            simp (maxDischargeDepth := 8) only [r29, b29, c29_0, c29_1, c29_2, c29_3, c29_4, c29_5, c29_6, c29_7, c29_8, er, cd, did, f0, f1, f2, ii, w0, w1, l0, l1, e4, em, Nat.mul_one, okChain_all, RUN, Ed, knd, kndR, resV, binInt, mnmxV, mnmx2, fillL, unV, lenV, extractV, partV, loadAt, Nat.reduceAdd, Nat.reduceBEq, Nat.reduceEqDiff, Nat.reduceLT, Nat.reduceLeDiff, Nat.reduceMul, Nat.reduceSub, reduceIte, Int.reduceEq, Int.reduceNe, Int.reduceLT, Int.reduceLE, Int.reduceAdd, Int.reduceSub, Int.reduceMul, Int.reduceNeg, Int.reduceMod, Int.reduceDiv, Int.reduceTMod, Int.reduceTDiv, Int.reduceToNat]
            rfl
        · have er : rdP id [b0, b1] = (0, 0, some 0) := by unfold rdP; rw [if_pos hid, if_neg k1, if_neg k2]; exact if_neg k3
          rw [show decide (OkC b0 b1) = false by simpa using k3] at em
          simp only [K] at em
          refine ⟨?X9, ?run9⟩
          case run9 =>
            rw [D_eq p29 _ _ (Nat.le_of_ble_eq_true rfl)]
            simp (maxDischargeDepth := 8) only [r29, b29, c29_0, c29_1, c29_2, c29_3, c29_4, c29_5, c29_6, c29_7, c29_8, er, cd, did, f0, f1, f2, ii, w0, w1, l0, l1, e4, em, Nat.mul_one, okChain_all, RUN, Ed, knd, kndR, resV, binInt, mnmxV, mnmx2, fillL, unV, lenV, extractV, partV, loadAt, Nat.reduceAdd, Nat.reduceBEq, Nat.reduceEqDiff, Nat.reduceLT, Nat.reduceLeDiff, Nat.reduceMul, Nat.reduceSub, reduceIte, Int.reduceEq, Int.reduceNe, Int.reduceLT, Int.reduceLE, Int.reduceAdd, Int.reduceSub, Int.reduceMul, Int.reduceNeg, Int.reduceMod, Int.reduceDiv, Int.reduceTMod, Int.reduceTDiv, Int.reduceToNat]
            rfl
  · have did : decide (id = 80) = false := by simpa using hid
    have er : rdP id B = (0, 0, some 0) := by unfold rdP; rw [if_neg hid]
    refine ⟨?X10, ?run10⟩
    case run10 =>
      rw [D_eq p29 _ _ (Nat.le_of_ble_eq_true rfl)]
      simp (maxDischargeDepth := 8) only [r29, b29, c29_0, c29_1, c29_2, er, cd, o1, o2, did, RUN, Ed, knd, kndR, resV, binInt, mnmxV, mnmx2, fillL, unV, extractV, partV, loadAt, Nat.reduceAdd, Nat.reduceBEq, Nat.reduceEqDiff, Nat.reduceLT, Nat.reduceLeDiff, Nat.reduceMul, Nat.reduceSub, reduceIte, Int.reduceEq, Int.reduceNe, Int.reduceLT, Int.reduceLE, Int.reduceAdd, Int.reduceSub, Int.reduceMul, Int.reduceNeg, Int.reduceMod, Int.reduceDiv, Int.reduceTMod, Int.reduceTDiv, Int.reduceToNat, okChain_i, okLoads_nil, okLoads_in, okLoads_eq]
      rfl
end Go.Proofs.YtdmfedmhcegggaaDoor.Sim
