/- The filter of chapter 13 and the source of chapter 17 over the plain heap. -/
import Derived.Test.YtncpbbdgckkdmaaPrg
import Derived.Test.YtncpbbdgckkdmaaSim21
namespace Go.Proofs.Ytncpbbdgckkdmaa.Sim
open Go
set_option linter.unusedSimpArgs false
set_option linter.unusedVariables false
noncomputable abbrev K := D Try.prog hints
/-- A filter: how often in a row, how often it was, what it says. -/
def F (n c : Int) (s : Bool) : Option Blk := some ⟨true, 82, [.int .i64 n, .int .i64 c, .bool s]⟩
theorem new_f (n : Int) (H : Heap) : K 29 [.int .i64 n] H = some (.pointer (some ⟨H.length, 0, none⟩), H ++ [F (max (min n 1000) 1) 0 false]) := by
  rw [K, D_eq p29 _ _ (Nat.le_of_ble_eq_true rfl)]
  simp (maxDischargeDepth := 8) only [r29, b29, c29_0, c29_1, RUN, Ed, knd, kndR, resV, binInt, mnmxV, mnmx2, fillL, unV, lenV, extractV, partV, loadAt, Nat.reduceAdd, Nat.reduceBEq, Nat.reduceEqDiff, Nat.reduceLT, Nat.reduceLeDiff, Nat.reduceMul, Nat.reduceSub, reduceIte, Int.reduceEq, Int.reduceNe, Int.reduceLT, Int.reduceLE, Int.reduceAdd, Int.reduceSub, Int.reduceMul, Int.reduceNeg, Int.reduceMod, Int.reduceDiv, Int.reduceTMod, Int.reduceTDiv, Int.reduceToNat, okChain_i, okLoads_nil, okLoads_in, okLoads_eq]
  have e : (if (if 1000 < n then 1000 else n) < 1 then 1 else if 1000 < n then 1000 else n) = max (min n 1000) 1 := by split <;> split <;> omega
  rw [e, F]
theorem state_f (i : Nat) (H : Heap) (n c : Int) (s : Bool) (h : live H i = F n c s) : K 30 [.pointer (some ⟨i, 0, none⟩)] H = some (.bool s, H) := by
  rw [K, D_eq p30 _ _ (Nat.le_of_ble_eq_true rfl)]
  simp (maxDischargeDepth := 8) only [r30, b30, c30_0, c30_1, h, F, RUN, Ed, knd, kndR, resV, binInt, mnmxV, mnmx2, fillL, unV, lenV, extractV, partV, loadAt, Nat.reduceAdd, Nat.reduceBEq, Nat.reduceEqDiff, Nat.reduceLT, Nat.reduceLeDiff, Nat.reduceMul, Nat.reduceSub, reduceIte, Int.reduceEq, Int.reduceNe, Int.reduceLT, Int.reduceLE, Int.reduceAdd, Int.reduceSub, Int.reduceMul, Int.reduceNeg, Int.reduceMod, Int.reduceDiv, Int.reduceTMod, Int.reduceTDiv, Int.reduceToNat, okChain_i, okLoads_nil, okLoads_in, okLoads_eq]
theorem force_f (i : Nat) (H : Heap) (n c : Int) (s b : Bool) (h : live H i = F n c s) (hi : i < H.length) : K 32 [.pointer (some ⟨i, 0, none⟩), .bool b] H = some (.tuple ⟨[]⟩, H.set i (F n 0 b)) := by
  rw [K, D_eq p32 _ _ (Nat.le_of_ble_eq_true rfl)]
  simp (maxDischargeDepth := 8) only [r32, b32, c32_0, h, hi, F, RUN, Ed, knd, kndR, resV, binInt, mnmxV, mnmx2, fillL, unV, lenV, extractV, partV, loadAt, Nat.reduceAdd, Nat.reduceBEq, Nat.reduceEqDiff, Nat.reduceLT, Nat.reduceLeDiff, Nat.reduceMul, Nat.reduceSub, reduceIte, Int.reduceEq, Int.reduceNe, Int.reduceLT, Int.reduceLE, Int.reduceAdd, Int.reduceSub, Int.reduceMul, Int.reduceNeg, Int.reduceMod, Int.reduceDiv, Int.reduceTMod, Int.reduceTDiv, Int.reduceToNat, okChain_i, okLoads_nil, okLoads_in, okLoads_eq]
def fst (n c : Int) (s b : Bool) : Int × Bool := if b = s then (0, s) else if n ≤ c + 1 then (0, b) else (c + 1, s)
theorem step_f (i : Nat) (H : Heap) (n c : Int) (s b : Bool) (h : live H i = F n c s) (hi : i < H.length) (h0 : 0 ≤ c) (h1 : c ≤ 1000000) : K 31 [.pointer (some ⟨i, 0, none⟩), .bool b] H = some (.bool (fst n c s b).2, H.set i (F n (fst n c s b).1 (fst n c s b).2)) := by
  have hw := wrap64 (c + 1) (by omega) (by omega)
  rw [K, D_eq p31 _ _ (Nat.le_of_ble_eq_true rfl)]
  by_cases hb : b = s
  · subst hb
    simp (maxDischargeDepth := 8) only [r31, b31, c31_0, c31_1, c31_2, c31_3, c31_4, c31_5, c31_6, c31_7, h, hi, F, fst, RUN, Ed, knd, kndR, resV, binInt, mnmxV, mnmx2, fillL, unV, lenV, extractV, partV, loadAt, Nat.reduceAdd, Nat.reduceBEq, Nat.reduceEqDiff, Nat.reduceLT, Nat.reduceLeDiff, Nat.reduceMul, Nat.reduceSub, reduceIte, Int.reduceEq, Int.reduceNe, Int.reduceLT, Int.reduceLE, Int.reduceAdd, Int.reduceSub, Int.reduceMul, Int.reduceNeg, Int.reduceMod, Int.reduceDiv, Int.reduceTMod, Int.reduceTDiv, Int.reduceToNat, okChain_i, okLoads_nil, okLoads_in, okLoads_eq]
  · have hbs : (b == s) = false := by simpa using hb
    by_cases hn : n ≤ c + 1
    · have hf := force_f i (H.set i (F n (c + 1) s)) n (c + 1) s b (live_set_eq _ _ _ hi) (by simpa using hi)
      simp only [K, F] at hf
      simp (maxDischargeDepth := 8) only [r31, b31, c31_0, c31_1, c31_2, c31_3, c31_4, c31_5, c31_6, c31_7, h, hi, hbs, hb, hw, hn, F, fst, hf, RUN, Ed, knd, kndR, resV, binInt, mnmxV, mnmx2, fillL, unV, lenV, extractV, partV, loadAt, Nat.reduceAdd, Nat.reduceBEq, Nat.reduceEqDiff, Nat.reduceLT, Nat.reduceLeDiff, Nat.reduceMul, Nat.reduceSub, reduceIte, Int.reduceEq, Int.reduceNe, Int.reduceLT, Int.reduceLE, Int.reduceAdd, Int.reduceSub, Int.reduceMul, Int.reduceNeg, Int.reduceMod, Int.reduceDiv, Int.reduceTMod, Int.reduceTDiv, Int.reduceToNat, okChain_i, okLoads_nil, okLoads_in, okLoads_eq]
    · simp (maxDischargeDepth := 8) only [r31, b31, c31_0, c31_1, c31_2, c31_3, c31_4, c31_5, c31_6, c31_7, h, hi, hbs, hb, hw, hn, F, fst, RUN, Ed, knd, kndR, resV, binInt, mnmxV, mnmx2, fillL, unV, lenV, extractV, partV, loadAt, Nat.reduceAdd, Nat.reduceBEq, Nat.reduceEqDiff, Nat.reduceLT, Nat.reduceLeDiff, Nat.reduceMul, Nat.reduceSub, reduceIte, Int.reduceEq, Int.reduceNe, Int.reduceLT, Int.reduceLE, Int.reduceAdd, Int.reduceSub, Int.reduceMul, Int.reduceNeg, Int.reduceMod, Int.reduceDiv, Int.reduceTMod, Int.reduceTDiv, Int.reduceToNat, okChain_i, okLoads_nil, okLoads_in, okLoads_eq]
end Go.Proofs.Ytncpbbdgckkdmaa.Sim
