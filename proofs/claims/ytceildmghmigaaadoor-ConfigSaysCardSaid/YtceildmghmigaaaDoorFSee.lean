/- The errors of package api over the plain heap: what the statements ask of them. -/
import Derived.Test.YtceildmghmigaaaDoorPrg
import Derived.Test.YtceildmghmigaaaDoorSim21
import Derived.Test.YtceildmghmigaaaDoorSim20
namespace Go.Proofs.YtceildmghmigaaaDoor.Sim
open Go
set_option linter.unusedSimpArgs false
set_option linter.unusedVariables false
noncomputable abbrev K := D Tryd.prog hints
/-- The listed errors lie where they lie. -/
def EH (on : Nat → Bool) (H : Heap) : Prop := ∀ i, i < 7 → on i = true → ∃ ty, live H i = some ⟨false, ty, [Err i]⟩
def all7 : Nat → Bool := fun _ => true
theorem live_more0 {H : Heap} {i : Nat} {b : Blk} (h : live H i = some b) (X : Heap) : live (H ++ X) i = some b := by rw [live_app _ _ _ (live_lt h)]; exact h
theorem EH.more {on : Nat → Bool} {H : Heap} (h : EH on H) (X : Heap) : EH on (H ++ X) := fun i hi ho => by obtain ⟨ty, e⟩ := h i hi ho; exact ⟨ty, live_more0 e X⟩
theorem EH.set {on : Nat → Bool} {H : Heap} (h : EH on H) (k : Nat) (x : Option Blk) (hk : 7 ≤ k) : EH on (H.set k x) := fun i hi ho => by obtain ⟨ty, e⟩ := h i hi ho; exact ⟨ty, by rw [live_set_ne _ _ _ _ (by omega)]; exact e⟩
theorem EH_begin (ix : List Nat) (tg tp : Nat → TypeId) (s : Nat → ByteArray) : EH (fun i => ix.contains i) (errs (fun i => ix.contains i) tg tp s) := fun i hi ho => ⟨_, errs_live hi ho⟩
theorem EH_begin7 (tg tp : Nat → TypeId) (s : Nat → ByteArray) : EH all7 (errs (fun i => [0, 1, 2, 3, 4, 5, 6].contains i) tg tp s) := fun i hi _ =>
  EH_begin [0, 1, 2, 3, 4, 5, 6] tg tp s i hi (by
    have : i = 0 ∨ i = 1 ∨ i = 2 ∨ i = 3 ∨ i = 4 ∨ i = 5 ∨ i = 6 := by omega
    rcases this with rfl | rfl | rfl | rfl | rfl | rfl | rfl <;> rfl)
theorem same_En (x y : Operand) (i : Nat) : sameV .iface x y (Err i) .nilIface = some false := (rfl)
theorem same_nn (x : Operand) (v : Value) : sameV .iface x (.const v) .nilIface .nilIface = some true := by simp [sameV, isConst, eqV]
theorem eqI_E (i j : Nat) (hi : i < 7) (hj : j < 7) : eqI (Err i) (Err j) = some (decide (i = j)) := by
  show (if (et : TypeId) = et then (if (et : TypeId) = et then (if gl.length ≤ gl.length + i ∧ gl.length + i < 2 * gl.length ∧ gl.length ≤ gl.length + j ∧ gl.length + j < 2 * gl.length then some (decide (gl.length + i = gl.length + j)) else none) else none) else some false) = _
  have h7 : gl.length = 7 := rfl
  rw [if_pos rfl, if_pos rfl, h7, if_pos (by omega)]
  congr 1
  exact decide_eq_decide.2 (by omega)
theorem tass_E (z : Value) (i : Nat) : tassV 49 z (Err i) = some (.tuple ⟨[z, .bool false]⟩) := (rfl)
theorem one_E (i : Nat) : (Err i).oneCell' = true := (rfl)
theorem cells_E (i : Nat) : (Err i).cells.toList = [Err i] := (rfl)
theorem g0 : gl.idxOf 0 = 5 := (rfl)
theorem g1 : gl.idxOf 1 = 2 := (rfl)
theorem g2 : gl.idxOf 2 = 1 := (rfl)
theorem g3 : gl.idxOf 3 = 0 := (rfl)
theorem g4 : gl.idxOf 4 = 4 := (rfl)
theorem g5 : gl.idxOf 5 = 3 := (rfl)
theorem g6 : gl.idxOf 6 = 6 := (rfl)
theorem alike_f (i j : Nat) (hi : i < 7) (hj : j < 7) (H : Heap) : K 33 [Err i, Err j] H = some (.bool (decide (i = j)), H) := by
  have e := eqI_E i j hi hj
  rw [K, D_eq p33 _ _ (Nat.le_of_ble_eq_true rfl)]
  simp (maxDischargeDepth := 8) only [r33, b33, c33_0, c33_1, c33_2, c33_3, same_En, e, RUN, Ed, knd, kndR, resV, binInt, mnmxV, mnmx2, fillL, unV, lenV, extractV, partV, loadAt, Nat.reduceAdd, Nat.reduceBEq, Nat.reduceEqDiff, Nat.reduceLT, Nat.reduceLeDiff, Nat.reduceMul, Nat.reduceSub, reduceIte, Int.reduceEq, Int.reduceNe, Int.reduceLT, Int.reduceLE, Int.reduceAdd, Int.reduceSub, Int.reduceMul, Int.reduceNeg, Int.reduceMod, Int.reduceDiv, Int.reduceTMod, Int.reduceTDiv, Int.reduceToNat, okChain_i, okLoads_nil, okLoads_in, okLoads_eq]
theorem sentinels_f (H : Heap) (h : EH all7 H) : K 32 [] H = some (.slice (some ⟨H.length, 0, none⟩) 7 1, H ++ [some ⟨true, 32, [Err 0, Err 1, Err 2, Err 3, Err 4, Err 5, Err 6]⟩]) := by
  obtain ⟨t0, e0⟩ := h 0 (by omega) rfl
  obtain ⟨t1, e1⟩ := h 1 (by omega) rfl
  obtain ⟨t2, e2⟩ := h 2 (by omega) rfl
  obtain ⟨t3, e3⟩ := h 3 (by omega) rfl
  obtain ⟨t4, e4⟩ := h 4 (by omega) rfl
  obtain ⟨t5, e5⟩ := h 5 (by omega) rfl
  obtain ⟨t6, e6⟩ := h 6 (by omega) rfl
  rw [K, D_eq p32 _ _ (Nat.le_of_ble_eq_true rfl)]
  simp (maxDischargeDepth := 8) only [r32, b32, c32_0, c32_1, e0, e1, e2, e3, e4, e5, e6, g0, g1, g2, g3, g4, g5, g6, cells_E, one_E, RUN, Ed, knd, kndR, resV, binInt, mnmxV, mnmx2, fillL, unV, lenV, extractV, partV, loadAt, Nat.reduceAdd, Nat.reduceBEq, Nat.reduceEqDiff, Nat.reduceLT, Nat.reduceLeDiff, Nat.reduceMul, Nat.reduceSub, reduceIte, Int.reduceEq, Int.reduceNe, Int.reduceLT, Int.reduceLE, Int.reduceAdd, Int.reduceSub, Int.reduceMul, Int.reduceNeg, Int.reduceMod, Int.reduceDiv, Int.reduceTMod, Int.reduceTDiv, Int.reduceToNat, okChain_i, okLoads_nil, okLoads_in, okLoads_eq]
theorem sentinel_f (i : Nat) (hi : i < 7) (H : Heap) (h : EH all7 H) : K 26 [Err i] H = some (.int .i64 (101 + i), H ++ [some ⟨true, 32, [Err 0, Err 1, Err 2, Err 3, Err 4, Err 5, Err 6]⟩]) := by
  have es := sentinels_f H h
  have ea := fun j G (hj : j < 7) => alike_f i j hi hj G
  simp only [K] at es ea
  have a0 := fun G => ea 0 G (by omega)
  have a1 := fun G => ea 1 G (by omega)
  have a2 := fun G => ea 2 G (by omega)
  have a3 := fun G => ea 3 G (by omega)
  have a4 := fun G => ea 4 G (by omega)
  have a5 := fun G => ea 5 G (by omega)
  have a6 := fun G => ea 6 G (by omega)
  clear ea
  have l0 : (0 : Int) < ((7 : Nat) : Int) := by decide
  have l1 : (1 : Int) < ((7 : Nat) : Int) := by decide
  have l2 : (2 : Int) < ((7 : Nat) : Int) := by decide
  have l3 : (3 : Int) < ((7 : Nat) : Int) := by decide
  have l4 : (4 : Int) < ((7 : Nat) : Int) := by decide
  have l5 : (5 : Int) < ((7 : Nat) : Int) := by decide
  have l6 : (6 : Int) < ((7 : Nat) : Int) := by decide
  rw [K, D_eq p26 _ _ (Nat.le_of_ble_eq_true rfl)]
  have hh : i = 0 ∨ i = 1 ∨ i = 2 ∨ i = 3 ∨ i = 4 ∨ i = 5 ∨ i = 6 := by omega
  rcases hh with rfl | rfl | rfl | rfl | rfl | rfl | rfl
  all_goals
    simp (maxDischargeDepth := 8) only [r26, b26, c26_0, c26_1, c26_2, es, RUN, Ed, knd, kndR, resV, binInt, mnmxV, mnmx2, fillL, unV, lenV, extractV, partV, loadAt, Nat.reduceAdd, Nat.reduceBEq, Nat.reduceEqDiff, Nat.reduceLT, Nat.reduceLeDiff, Nat.reduceMul, Nat.reduceSub, reduceIte, Int.reduceEq, Int.reduceNe, Int.reduceLT, Int.reduceLE, Int.reduceAdd, Int.reduceSub, Int.reduceMul, Int.reduceNeg, Int.reduceMod, Int.reduceDiv, Int.reduceTMod, Int.reduceTDiv, Int.reduceToNat, okChain_i, okLoads_nil, okLoads_in, okLoads_eq]
    repeat (rw [El]; simp (maxDischargeDepth := 8) only [l26_0, c26_3, c26_4, c26_5, c26_6, a0, a1, a2, a3, a4, a5, a6, l0, l1, l2, l3, l4, l5, l6, RUN, Ed, knd, kndR, resV, binInt, mnmxV, mnmx2, fillL, unV, lenV, extractV, partV, loadAt, Nat.reduceAdd, Nat.reduceBEq, Nat.reduceEqDiff, Nat.reduceLT, Nat.reduceLeDiff, Nat.reduceMul, Nat.reduceSub, reduceIte, Int.reduceEq, Int.reduceNe, Int.reduceLT, Int.reduceLE, Int.reduceAdd, Int.reduceSub, Int.reduceMul, Int.reduceNeg, Int.reduceMod, Int.reduceDiv, Int.reduceTMod, Int.reduceTDiv, Int.reduceToNat, okChain_i, okLoads_nil, okLoads_in, okLoads_eq])
    rfl
end Go.Proofs.YtceildmghmigaaaDoor.Sim
