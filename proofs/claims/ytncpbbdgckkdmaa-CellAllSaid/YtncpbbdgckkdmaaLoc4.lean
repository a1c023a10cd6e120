/- Lock, and the chapter's examples. -/
import Derived.Test.YtncpbbdgckkdmaaLoc3
import Derived.Test.YtncpbbdgckkdmaaSim21
namespace Go.Proofs.Ytncpbbdgckkdmaa.Sim
open Go
set_option linter.unusedSimpArgs false
set_option linter.unusedVariables false
theorem lockNo_f (g : Nat) (H : Heap) (k : Int) (h : k < 4 ∨ 6 < k) : K 20 [.pointer (some ⟨g, 0, none⟩), .int .i64 k] H = some (.bool false, H) := by
  rw [K, D_eq p20 _ _ (Nat.le_of_ble_eq_true rfl)]
  by_cases h4 : k < 4
  · simp (maxDischargeDepth := 8) only [r20, b20, c20_0, c20_1, c20_2, h4, RUN, Ed, knd, kndR, resV, binInt, mnmxV, mnmx2, fillL, unV, lenV, extractV, partV, loadAt, Nat.reduceAdd, Nat.reduceBEq, Nat.reduceEqDiff, Nat.reduceLT, Nat.reduceLeDiff, Nat.reduceMul, Nat.reduceSub, reduceIte, Int.reduceEq, Int.reduceNe, Int.reduceLT, Int.reduceLE, Int.reduceAdd, Int.reduceSub, Int.reduceMul, Int.reduceNeg, Int.reduceMod, Int.reduceDiv, Int.reduceTMod, Int.reduceTDiv, Int.reduceToNat, okChain_i, okLoads_nil, okLoads_in, okLoads_eq]
  · have h6 : 6 < k := by omega
    simp (maxDischargeDepth := 8) only [r20, b20, c20_0, c20_1, c20_2, h4, h6, RUN, Ed, knd, kndR, resV, binInt, mnmxV, mnmx2, fillL, unV, lenV, extractV, partV, loadAt, Nat.reduceAdd, Nat.reduceBEq, Nat.reduceEqDiff, Nat.reduceLT, Nat.reduceLeDiff, Nat.reduceMul, Nat.reduceSub, reduceIte, Int.reduceEq, Int.reduceNe, Int.reduceLT, Int.reduceLE, Int.reduceAdd, Int.reduceSub, Int.reduceMul, Int.reduceNeg, Int.reduceMod, Int.reduceDiv, Int.reduceTMod, Int.reduceTDiv, Int.reduceToNat, okChain_i, okLoads_nil, okLoads_in, okLoads_eq]
theorem lock4_f (H : Heap) (g a b c : Nat) (t n : Int) (x y z : Int × Bool) (h : Bus H g a b c t n x y z) : K 20 [.pointer (some ⟨g, 0, none⟩), .int .i64 4] H = some (.bool true, H.set a (F n 0 true)) := by
  have h0 := h.g
  have e1 := force_f a H n x.1 x.2 true h.a (live_lt h.a)
  simp only [K] at e1
  simp only [busB] at h0
  rw [K, D_eq p20 _ _ (Nat.le_of_ble_eq_true rfl)]
  simp (maxDischargeDepth := 8) only [r20, b20, c20_0, c20_1, c20_2, c20_3, c20_4, h0, e1, lt3_0, lt3_1, lt3_2, RUN, Ed, knd, kndR, resV, binInt, mnmxV, mnmx2, fillL, unV, lenV, extractV, partV, loadAt, Nat.reduceAdd, Nat.reduceBEq, Nat.reduceEqDiff, Nat.reduceLT, Nat.reduceLeDiff, Nat.reduceMul, Nat.reduceSub, reduceIte, Int.reduceEq, Int.reduceNe, Int.reduceLT, Int.reduceLE, Int.reduceAdd, Int.reduceSub, Int.reduceMul, Int.reduceNeg, Int.reduceMod, Int.reduceDiv, Int.reduceTMod, Int.reduceTDiv, Int.reduceToNat, okChain_i, okLoads_nil, okLoads_in, okLoads_eq]
theorem lock5_f (H : Heap) (g a b c : Nat) (t n : Int) (x y z : Int × Bool) (h : Bus H g a b c t n x y z) : K 20 [.pointer (some ⟨g, 0, none⟩), .int .i64 5] H = some (.bool true, H.set b (F n 0 true)) := by
  have h0 := h.g
  have e1 := force_f b H n y.1 y.2 true h.b (live_lt h.b)
  simp only [K] at e1
  simp only [busB] at h0
  rw [K, D_eq p20 _ _ (Nat.le_of_ble_eq_true rfl)]
  simp (maxDischargeDepth := 8) only [r20, b20, c20_0, c20_1, c20_2, c20_3, c20_4, h0, e1, lt3_0, lt3_1, lt3_2, RUN, Ed, knd, kndR, resV, binInt, mnmxV, mnmx2, fillL, unV, lenV, extractV, partV, loadAt, Nat.reduceAdd, Nat.reduceBEq, Nat.reduceEqDiff, Nat.reduceLT, Nat.reduceLeDiff, Nat.reduceMul, Nat.reduceSub, reduceIte, Int.reduceEq, Int.reduceNe, Int.reduceLT, Int.reduceLE, Int.reduceAdd, Int.reduceSub, Int.reduceMul, Int.reduceNeg, Int.reduceMod, Int.reduceDiv, Int.reduceTMod, Int.reduceTDiv, Int.reduceToNat, okChain_i, okLoads_nil, okLoads_in, okLoads_eq]
theorem lock6_f (H : Heap) (g a b c : Nat) (t n : Int) (x y z : Int × Bool) (h : Bus H g a b c t n x y z) : K 20 [.pointer (some ⟨g, 0, none⟩), .int .i64 6] H = some (.bool true, H.set c (F n 0 true)) := by
  have h0 := h.g
  have e1 := force_f c H n z.1 z.2 true h.c (live_lt h.c)
  simp only [K] at e1
  simp only [busB] at h0
  rw [K, D_eq p20 _ _ (Nat.le_of_ble_eq_true rfl)]
  simp (maxDischargeDepth := 8) only [r20, b20, c20_0, c20_1, c20_2, c20_3, c20_4, h0, e1, lt3_0, lt3_1, lt3_2, RUN, Ed, knd, kndR, resV, binInt, mnmxV, mnmx2, fillL, unV, lenV, extractV, partV, loadAt, Nat.reduceAdd, Nat.reduceBEq, Nat.reduceEqDiff, Nat.reduceLT, Nat.reduceLeDiff, Nat.reduceMul, Nat.reduceSub, reduceIte, Int.reduceEq, Int.reduceNe, Int.reduceLT, Int.reduceLE, Int.reduceAdd, Int.reduceSub, Int.reduceMul, Int.reduceNeg, Int.reduceMod, Int.reduceDiv, Int.reduceTMod, Int.reduceTDiv, Int.reduceToNat, okChain_i, okLoads_nil, okLoads_in, okLoads_eq]
theorem Bus.setA {H : Heap} {g a b c : Nat} {t n : Int} {x y z : Int × Bool} (h : Bus H g a b c t n x y z) (d : Dist g a b c) (u : Int × Bool) : Bus (H.set a (F n u.1 u.2)) g a b c t n u y z :=
  ⟨by rw [live_set_ne _ _ _ _ d.ga.symm]; exact h.g, live_set_eq _ _ _ (live_lt h.a), by rw [live_set_ne _ _ _ _ d.ab]; exact h.b, by rw [live_set_ne _ _ _ _ d.ac]; exact h.c⟩
theorem Bus.setB {H : Heap} {g a b c : Nat} {t n : Int} {x y z : Int × Bool} (h : Bus H g a b c t n x y z) (d : Dist g a b c) (u : Int × Bool) : Bus (H.set b (F n u.1 u.2)) g a b c t n x u z :=
  ⟨by rw [live_set_ne _ _ _ _ d.gb.symm]; exact h.g, by rw [live_set_ne _ _ _ _ d.ab.symm]; exact h.a, live_set_eq _ _ _ (live_lt h.b), by rw [live_set_ne _ _ _ _ d.bc]; exact h.c⟩
theorem Bus.setC {H : Heap} {g a b c : Nat} {t n : Int} {x y z : Int × Bool} (h : Bus H g a b c t n x y z) (d : Dist g a b c) (u : Int × Bool) : Bus (H.set c (F n u.1 u.2)) g a b c t n x y u :=
  ⟨by rw [live_set_ne _ _ _ _ d.gc.symm]; exact h.g, by rw [live_set_ne _ _ _ _ d.ac.symm]; exact h.a, by rw [live_set_ne _ _ _ _ d.bc.symm]; exact h.b, live_set_eq _ _ _ (live_lt h.c)⟩
theorem Bus.more {H : Heap} {g a b c : Nat} {t n : Int} {x y z : Int × Bool} (h : Bus H g a b c t n x y z) (X : Heap) : Bus (H ++ X) g a b c t n x y z :=
  ⟨live_more h.g X, live_more h.a X, live_more h.b X, live_more h.c X⟩
theorem bus_new (c : Cv) (H : Heap) (n : Int) : Bus (H ++ [some ⟨true, 26, cfgL c⟩, busB 20000 (H.length + 2) (H.length + 3) (H.length + 4), F n 0 false, F n 0 false, F n 0 false]) (H.length + 1) (H.length + 2) (H.length + 3) (H.length + 4) 20000 n (0, false) (0, false) (0, false) := by
  constructor <;> rw [live_app_add] <;> rfl
theorem dist_new (h : Nat) : Dist (h + 1) (h + 2) (h + 3) (h + 4) := by constructor <;> omega
/-- What was there is there still. -/
def Keep (H G : Heap) : Prop := ∀ (i : Nat) (z : Blk), live H i = some z → live G i = some z
theorem first_f (H : Heap) : ∃ H2, K 15 [] H = some (.bool true, H2) ∧ Keep H H2 := by
  have e1 := config0_f 0 H (by omega) (by omega)
  have hB : max (min (cv0 0 H.length).a1 1000) 1 = 1 := rfl
  obtain ⟨H1, hH1⟩ : ∃ H1, H1 = H ++ [some ⟨true, 26, cfgL (cv0 0 H.length)⟩, some ⟨true, 26, cfgL (cv0 0 H.length)⟩, ocvB] := ⟨_, rfl⟩
  have k1 : Keep H H1 := fun i z h => by rw [hH1]; exact live_more h _
  rw [← hH1] at e1
  have e2 := lnew_f (cv0 0 H.length) H1
  rw [hB] at e2
  have hs := bus_new (cv0 0 H.length) H1 1
  obtain ⟨H2, hH2⟩ : ∃ H2, H2 = H1 ++ [some ⟨true, 26, cfgL (cv0 0 H.length)⟩, busB 20000 (H1.length + 2) (H1.length + 3) (H1.length + 4), F 1 0 false, F 1 0 false, F 1 0 false] := ⟨_, rfl⟩
  have k2 : Keep H1 H2 := fun i z h => by rw [hH2]; exact live_more h _
  rw [← hH2] at e2 hs
  have d := dist_new H1.length
  obtain ⟨G, e3, hs2, k3⟩ := lstep_f H2 _ _ _ _ _ _ _ _ _ 400000 true 0 false 0 false d ⟨by decide, by decide⟩ ⟨by decide, by decide⟩ ⟨by decide, by decide⟩ hs
  have l1 : lk 1 20000 (0, false) 400000 true = (0, true) := by decide
  have l2 : lk 1 20000 (0, false) 0 false = (0, false) := by decide
  rw [l1, l2] at e3 hs2
  have e4 := fun (X : Heap) => locked_f _ _ _ _ _ _ _ _ _ _ (hs2.more X)
  have e4' := locked_f _ _ _ _ _ _ _ _ _ _ hs2
  have e5 := fun (X : Heap) => lock6_f _ _ _ _ _ _ _ _ _ _ (hs2.more X)
  have e6 := fun (X : Heap) => locked_f _ _ _ _ _ _ _ _ _ _ ((hs2.more X).setC d (0, true))
  simp only [K] at e1 e2 e3 e4 e4' e5 e6
  simp only [smp] at e3
  refine ⟨?G1, ?run, ?inv⟩
  case run =>
    rw [K, D_eq p15 _ _ (Nat.le_of_ble_eq_true rfl)]
    simp (maxDischargeDepth := 8) only [r15, b15, c15_0, c15_1, c15_2, c15_3, c15_4, c15_5, e1, e2, e3, e4', e4, e5, e6, idxV_s, partV, lt3_0, lt3_1, lt3_2, RUN, Ed, knd, kndR, resV, binInt, mnmxV, mnmx2, fillL, unV, lenV, extractV, partV, loadAt, Nat.reduceAdd, Nat.reduceBEq, Nat.reduceEqDiff, Nat.reduceLT, Nat.reduceLeDiff, Nat.reduceMul, Nat.reduceSub, reduceIte, Int.reduceEq, Int.reduceNe, Int.reduceLT, Int.reduceLE, Int.reduceAdd, Int.reduceSub, Int.reduceMul, Int.reduceNeg, Int.reduceMod, Int.reduceDiv, Int.reduceTMod, Int.reduceTDiv, Int.reduceToNat, okChain_i, okLoads_nil, okLoads_in, okLoads_eq]
    rfl
  case inv =>
    intro i z h
    have hi := live_lt (k1 i z h)
    refine live_more ?_ _
    rw [live_set_ne _ _ _ _ (by omega)]
    exact live_more (k3 i z (k2 _ _ (k1 _ _ h)) (by omega) (by omega) (by omega)) _
end Go.Proofs.Ytncpbbdgckkdmaa.Sim
