/- The contactor of chapter 16 over the plain heap, both ways. Printed by gen_cop1.py. -/
import Derived.Test.YtbamnfladjkkcaaPrg
import Derived.Test.YtbamnfladjkkcaaSim21
import Derived.Test.YtbamnfladjkkcaaSim19
namespace Go.Proofs.Ytbamnfladjkkcaa.Sim
open Go
set_option linter.unusedSimpArgs false
set_option linter.unusedVariables false
noncomputable abbrev K := D Try.prog hints
theorem live_more0 {H : Heap} {i : Nat} {b : Blk} (h : live H i = some b) (X : Heap) : live (H ++ X) i = some b := by rw [live_app _ _ _ (live_lt h)]; exact h
structure CS where
  d : Int
  b : Int
  told : Bool
  since : Int
  wrong : Int
  fresh : Bool
  rd : Bool
  jo : Bool
  js : Bool
def rv (b : Bool) : Int := if b = true then 1 else 0
def CS.I (x : CS) : List Value := [.int .i64 x.d, .int .i64 x.b, .bool x.told, .int .i64 x.since, .int .i64 x.wrong, .int .i64 (rv x.rd), .bool x.fresh, .bool x.jo, .bool x.js]
def CS.R (x : CS) (seen : Bool) : List Value := [.int .i64 x.d, .int .i64 x.b, .bool x.told, .int .i64 x.since, .int .i64 x.wrong, .bool seen, .bool x.fresh, .bool x.rd, .bool x.jo, .bool x.js]
theorem cut_f (n : Int) (H : Heap) : K 47 [.int .i64 n] H = some (.int .i64 (max (min n 1000) 1), H) := by
  rw [K, D_eq p47 _ _ (Nat.le_of_ble_eq_true rfl)]
  have e : (if (if 1000 < n then 1000 else n) < 1 then 1 else if 1000 < n then 1000 else n) = max (min n 1000) 1 := by split <;> split <;> omega
  simp (maxDischargeDepth := 8) only [r47, b47, c47_0, c47_1, e, RUN, Ed, knd, kndR, resV, binInt, mnmxV, mnmx2, fillL, unV, lenV, extractV, partV, loadAt, Nat.reduceAdd, Nat.reduceBEq, Nat.reduceEqDiff, Nat.reduceLT, Nat.reduceLeDiff, Nat.reduceMul, Nat.reduceSub, reduceIte, Int.reduceEq, Int.reduceNe, Int.reduceLT, Int.reduceLE, Int.reduceAdd, Int.reduceSub, Int.reduceMul, Int.reduceNeg, Int.reduceMod, Int.reduceDiv, Int.reduceTMod, Int.reduceTDiv, Int.reduceToNat, okChain_i, okLoads_nil, okLoads_in, okLoads_eq]
def new0 (d b : Int) : CS := ⟨max (min d 1000) 1, max (min b 1000) 1, false, -2, 0, false, false, false, false⟩
theorem new_f (d b : Int) (H : Heap) : K 16 [.int .i64 d, .int .i64 b] H = some (.pointer (some ⟨H.length, 0, none⟩), H ++ [some ⟨true, 80, (new0 d b).I⟩]) := by
  have e1 := fun n G => cut_f n G
  simp only [K] at e1
  rw [K, D_eq p16 _ _ (Nat.le_of_ble_eq_true rfl)]
  simp (maxDischargeDepth := 8) only [r16, b16, c16_0, c16_1, e1, RUN, Ed, knd, kndR, resV, binInt, mnmxV, mnmx2, fillL, unV, lenV, extractV, partV, loadAt, Nat.reduceAdd, Nat.reduceBEq, Nat.reduceEqDiff, Nat.reduceLT, Nat.reduceLeDiff, Nat.reduceMul, Nat.reduceSub, reduceIte, Int.reduceEq, Int.reduceNe, Int.reduceLT, Int.reduceLE, Int.reduceAdd, Int.reduceSub, Int.reduceMul, Int.reduceNeg, Int.reduceMod, Int.reduceDiv, Int.reduceTMod, Int.reduceTDiv, Int.reduceToNat, okChain_i, okLoads_nil, okLoads_in, okLoads_eq]
  rfl
theorem newR_f (d b : Int) (H : Heap) : K 17 [.int .i64 d, .int .i64 b] H = some (.pointer (some ⟨H.length, 0, none⟩), H ++ [some ⟨true, 31, (new0 d b).R false⟩]) := by
  have e : ∀ n : Int, (if 1000 < (if n < 1 then 1 else n) then 1000 else if n < 1 then 1 else n) = max (min n 1000) 1 := fun n => by split <;> split <;> omega
  rw [K, D_eq p17 _ _ (Nat.le_of_ble_eq_true rfl)]
  simp (maxDischargeDepth := 8) only [r17, b17, c17_0, c17_1, e, RUN, Ed, knd, kndR, resV, binInt, mnmxV, mnmx2, fillL, unV, lenV, extractV, partV, loadAt, Nat.reduceAdd, Nat.reduceBEq, Nat.reduceEqDiff, Nat.reduceLT, Nat.reduceLeDiff, Nat.reduceMul, Nat.reduceSub, reduceIte, Int.reduceEq, Int.reduceNe, Int.reduceLT, Int.reduceLE, Int.reduceAdd, Int.reduceSub, Int.reduceMul, Int.reduceNeg, Int.reduceMod, Int.reduceDiv, Int.reduceTMod, Int.reduceTDiv, Int.reduceToNat, okChain_i, okLoads_nil, okLoads_in, okLoads_eq]
  rfl
theorem set_f (p : Nat) (d b s w V : Int) (t f jo js o c : Bool) (H X : Heap) (hp : p < H.length) : K 18 [.pointer (some ⟨p, 0, none⟩), .bool o, .bool c] (H.set p (some ⟨true, 80, [.int .i64 d, .int .i64 b, .bool t, .int .i64 s, .int .i64 w, .int .i64 V, .bool f, .bool jo, .bool js]⟩) ++ X)
    = some (.tuple ⟨[]⟩, H.set p (some ⟨true, 80, [.int .i64 d, .int .i64 b, .bool t, .int .i64 s, .int .i64 w, .int .i64 V, .bool f, .bool (jo || o), .bool (js || c)]⟩) ++ X) := by
  rw [K, D_eq p18 _ _ (Nat.le_of_ble_eq_true rfl)]
  cases jo <;> cases js <;>
  · simp (maxDischargeDepth := 8) only [r18, b18, c18_0, hp, okChain_all, RUN, Ed, knd, kndR, resV, binInt, mnmxV, mnmx2, fillL, unV, lenV, extractV, partV, loadAt, Nat.reduceAdd, Nat.reduceBEq, Nat.reduceEqDiff, Nat.reduceLT, Nat.reduceLeDiff, Nat.reduceMul, Nat.reduceSub, reduceIte, Int.reduceEq, Int.reduceNe, Int.reduceLT, Int.reduceLE, Int.reduceAdd, Int.reduceSub, Int.reduceMul, Int.reduceNeg, Int.reduceMod, Int.reduceDiv, Int.reduceTMod, Int.reduceTDiv, Int.reduceToNat]
def sinceN (x : CS) (cmd : Bool) : Int := if cmd = x.told then (if 1000 < x.since + 1 then 1000 else x.since + 1) else 0
def wrong0 (x : CS) (cmd : Bool) : Int := if cmd = x.told then x.wrong else 0
def wrongN (x : CS) (cmd fresh rd : Bool) : Int := if fresh = true then (if rd ≠ cmd ∧ x.d ≤ sinceN x cmd then wrong0 x cmd + 1 else 0) else wrong0 x cmd
def stp (x : CS) (cmd fresh rd : Bool) : CS := ⟨x.d, x.b, cmd, sinceN x cmd, wrongN x cmd fresh rd, fresh, rd, x.jo || (decide (x.b ≤ wrongN x cmd fresh rd) && cmd), x.js || (decide (x.b ≤ wrongN x cmd fresh rd) && !cmd)⟩
structure CI (x : CS) (n : Nat) : Prop where
  d1 : 1 ≤ x.d
  b1 : 1 ≤ x.b
  s0 : -2 ≤ x.since
  s1 : x.since ≤ 1000
  w0 : 0 ≤ x.wrong
  w1 : x.wrong ≤ n
  j : x.b ≤ x.wrong → (if x.told = true then x.jo else x.js) = true
theorem CI.stp {x : CS} {n : Nat} (h : CI x n) (cmd fresh rd : Bool) : CI (stp x cmd fresh rd) (n + 1) := by
  obtain ⟨d1, b1, s0, s1, w0, w1, j⟩ := h
  have hs : -2 ≤ sinceN x cmd ∧ sinceN x cmd ≤ 1000 := by unfold sinceN; split <;> (try split) <;> omega
  have hw0 : 0 ≤ wrong0 x cmd ∧ wrong0 x cmd ≤ n := by unfold wrong0; split <;> omega
  have hw : 0 ≤ wrongN x cmd fresh rd ∧ wrongN x cmd fresh rd ≤ (n + 1 : Nat) := by unfold wrongN; split <;> (try split) <;> omega
  refine ⟨d1, b1, hs.1, hs.2, hw.1, hw.2, fun hb => ?_⟩
  have hb' : x.b ≤ wrongN x cmd fresh rd := hb
  show (if cmd = true then x.jo || (decide (x.b ≤ wrongN x cmd fresh rd) && cmd) else x.js || (decide (x.b ≤ wrongN x cmd fresh rd) && !cmd)) = true
  cases cmd <;> simp [hb']
theorem CI_new (d b : Int) : CI (new0 d b) 0 := by
  have hd : 1 ≤ (new0 d b).d := by show 1 ≤ max (min d 1000) 1; omega
  have hb : 1 ≤ (new0 d b).b := by show 1 ≤ max (min b 1000) 1; omega
  exact ⟨hd, hb, by show (-2 : Int) ≤ -2; omega, by show (-2 : Int) ≤ 1000; omega, by show (0 : Int) ≤ 0; omega, by show (0 : Int) ≤ ((0 : Nat) : Int); omega, fun h => by have : (new0 d b).b ≤ 0 := h; omega⟩
theorem step_f0 (p : Nat) (d b since wrong S : Int) (jo js : Bool) (V : Int) (f0 : Bool) (d1 : 1 ≤ d) (b1 : 1 ≤ b) (s0 : -2 ≤ since) (s1 : since ≤ 1000) (w0 : 0 ≤ wrong) (w1 : wrong ≤ 999) (hS : (if 1000 < since + 1 then 1000 else since + 1) = S) (h0 : b ≤ wrong) (H : Heap) (h : live H p = some ⟨true, 80, [.int .i64 d, .int .i64 b, .bool false, .int .i64 since, .int .i64 wrong, .int .i64 V, .bool f0, .bool jo, .bool js]⟩) : K 19 [.pointer (some ⟨p, 0, none⟩), .bool false, .agg ⟨[.int .i64 0, .bool false]⟩] H
    = some (.tuple ⟨[]⟩, H.set p (some ⟨true, 80, [.int .i64 d, .int .i64 b, .bool false, .int .i64 S, .int .i64 (wrong), .int .i64 0, .bool false, .bool (jo || false), .bool (js || true)]⟩) ++ [some ⟨true, 36, [.int .i64 0, .bool false]⟩]) := by
  have hp := live_lt h
  have ws := wrap64 (since + 1) (by omega) (by omega)
  have ww := wrap64 (wrong + 1) (by omega) (by omega)
  have hw : ¬ 1000 < wrong + 1 := by omega
  have d0 : ¬ d ≤ 0 := by omega
  have d0' : 0 < d := by omega
  have b0 : ¬ b ≤ 0 := by omega
  have es := fun (d b s w V : Int) (t f jo js o c : Bool) (X : Heap) => set_f p d b s w V t f jo js o c H X hp
  simp only [K] at es
  rw [K, D_eq p19 _ _ (Nat.le_of_ble_eq_true rfl)]
  simp (maxDischargeDepth := 8) only [r19, b19, c19_0, c19_1, c19_2, c19_3, c19_4, c19_5, c19_6, c19_7, c19_8, c19_9, c19_10, h, hp, ws, ww, hw, d0, d0', b0, hS, h0, es, okChain_all, RUN, Ed, knd, kndR, resV, binInt, mnmxV, mnmx2, fillL, unV, lenV, extractV, partV, loadAt, Nat.reduceAdd, Nat.reduceBEq, Nat.reduceEqDiff, Nat.reduceLT, Nat.reduceLeDiff, Nat.reduceMul, Nat.reduceSub, reduceIte, Int.reduceEq, Int.reduceNe, Int.reduceLT, Int.reduceLE, Int.reduceAdd, Int.reduceSub, Int.reduceMul, Int.reduceNeg, Int.reduceMod, Int.reduceDiv, Int.reduceTMod, Int.reduceTDiv, Int.reduceToNat]
theorem step_f1 (p : Nat) (d b since wrong S : Int) (jo js : Bool) (V : Int) (f0 : Bool) (d1 : 1 ≤ d) (b1 : 1 ≤ b) (s0 : -2 ≤ since) (s1 : since ≤ 1000) (w0 : 0 ≤ wrong) (w1 : wrong ≤ 999) (hS : (if 1000 < since + 1 then 1000 else since + 1) = S) (h0 : ¬ b ≤ wrong) (H : Heap) (h : live H p = some ⟨true, 80, [.int .i64 d, .int .i64 b, .bool false, .int .i64 since, .int .i64 wrong, .int .i64 V, .bool f0, .bool jo, .bool js]⟩) : K 19 [.pointer (some ⟨p, 0, none⟩), .bool false, .agg ⟨[.int .i64 0, .bool false]⟩] H
    = some (.tuple ⟨[]⟩, H.set p (some ⟨true, 80, [.int .i64 d, .int .i64 b, .bool false, .int .i64 S, .int .i64 (wrong), .int .i64 0, .bool false, .bool jo, .bool js]⟩) ++ [some ⟨true, 36, [.int .i64 0, .bool false]⟩]) := by
  have hp := live_lt h
  have ws := wrap64 (since + 1) (by omega) (by omega)
  have ww := wrap64 (wrong + 1) (by omega) (by omega)
  have hw : ¬ 1000 < wrong + 1 := by omega
  have d0 : ¬ d ≤ 0 := by omega
  have d0' : 0 < d := by omega
  have b0 : ¬ b ≤ 0 := by omega
  have es := fun (d b s w V : Int) (t f jo js o c : Bool) (X : Heap) => set_f p d b s w V t f jo js o c H X hp
  simp only [K] at es
  rw [K, D_eq p19 _ _ (Nat.le_of_ble_eq_true rfl)]
  simp (maxDischargeDepth := 8) only [r19, b19, c19_0, c19_1, c19_2, c19_3, c19_4, c19_5, c19_6, c19_7, c19_8, c19_9, c19_10, h, hp, ws, ww, hw, d0, d0', b0, hS, h0, es, okChain_all, RUN, Ed, knd, kndR, resV, binInt, mnmxV, mnmx2, fillL, unV, lenV, extractV, partV, loadAt, Nat.reduceAdd, Nat.reduceBEq, Nat.reduceEqDiff, Nat.reduceLT, Nat.reduceLeDiff, Nat.reduceMul, Nat.reduceSub, reduceIte, Int.reduceEq, Int.reduceNe, Int.reduceLT, Int.reduceLE, Int.reduceAdd, Int.reduceSub, Int.reduceMul, Int.reduceNeg, Int.reduceMod, Int.reduceDiv, Int.reduceTMod, Int.reduceTDiv, Int.reduceToNat]
theorem step_f2 (p : Nat) (d b since wrong S : Int) (jo js : Bool) (V : Int) (f0 : Bool) (d1 : 1 ≤ d) (b1 : 1 ≤ b) (s0 : -2 ≤ since) (s1 : since ≤ 1000) (w0 : 0 ≤ wrong) (w1 : wrong ≤ 999) (hS : (if 1000 < since + 1 then 1000 else since + 1) = S) (h0 : b ≤ wrong) (H : Heap) (h : live H p = some ⟨true, 80, [.int .i64 d, .int .i64 b, .bool false, .int .i64 since, .int .i64 wrong, .int .i64 V, .bool f0, .bool jo, .bool js]⟩) : K 19 [.pointer (some ⟨p, 0, none⟩), .bool false, .agg ⟨[.int .i64 1, .bool false]⟩] H
    = some (.tuple ⟨[]⟩, H.set p (some ⟨true, 80, [.int .i64 d, .int .i64 b, .bool false, .int .i64 S, .int .i64 (wrong), .int .i64 1, .bool false, .bool (jo || false), .bool (js || true)]⟩) ++ [some ⟨true, 36, [.int .i64 1, .bool false]⟩]) := by
  have hp := live_lt h
  have ws := wrap64 (since + 1) (by omega) (by omega)
  have ww := wrap64 (wrong + 1) (by omega) (by omega)
  have hw : ¬ 1000 < wrong + 1 := by omega
  have d0 : ¬ d ≤ 0 := by omega
  have d0' : 0 < d := by omega
  have b0 : ¬ b ≤ 0 := by omega
  have es := fun (d b s w V : Int) (t f jo js o c : Bool) (X : Heap) => set_f p d b s w V t f jo js o c H X hp
  simp only [K] at es
  rw [K, D_eq p19 _ _ (Nat.le_of_ble_eq_true rfl)]
  simp (maxDischargeDepth := 8) only [r19, b19, c19_0, c19_1, c19_2, c19_3, c19_4, c19_5, c19_6, c19_7, c19_8, c19_9, c19_10, h, hp, ws, ww, hw, d0, d0', b0, hS, h0, es, okChain_all, RUN, Ed, knd, kndR, resV, binInt, mnmxV, mnmx2, fillL, unV, lenV, extractV, partV, loadAt, Nat.reduceAdd, Nat.reduceBEq, Nat.reduceEqDiff, Nat.reduceLT, Nat.reduceLeDiff, Nat.reduceMul, Nat.reduceSub, reduceIte, Int.reduceEq, Int.reduceNe, Int.reduceLT, Int.reduceLE, Int.reduceAdd, Int.reduceSub, Int.reduceMul, Int.reduceNeg, Int.reduceMod, Int.reduceDiv, Int.reduceTMod, Int.reduceTDiv, Int.reduceToNat]
theorem step_f3 (p : Nat) (d b since wrong S : Int) (jo js : Bool) (V : Int) (f0 : Bool) (d1 : 1 ≤ d) (b1 : 1 ≤ b) (s0 : -2 ≤ since) (s1 : since ≤ 1000) (w0 : 0 ≤ wrong) (w1 : wrong ≤ 999) (hS : (if 1000 < since + 1 then 1000 else since + 1) = S) (h0 : ¬ b ≤ wrong) (H : Heap) (h : live H p = some ⟨true, 80, [.int .i64 d, .int .i64 b, .bool false, .int .i64 since, .int .i64 wrong, .int .i64 V, .bool f0, .bool jo, .bool js]⟩) : K 19 [.pointer (some ⟨p, 0, none⟩), .bool false, .agg ⟨[.int .i64 1, .bool false]⟩] H
    = some (.tuple ⟨[]⟩, H.set p (some ⟨true, 80, [.int .i64 d, .int .i64 b, .bool false, .int .i64 S, .int .i64 (wrong), .int .i64 1, .bool false, .bool jo, .bool js]⟩) ++ [some ⟨true, 36, [.int .i64 1, .bool false]⟩]) := by
  have hp := live_lt h
  have ws := wrap64 (since + 1) (by omega) (by omega)
  have ww := wrap64 (wrong + 1) (by omega) (by omega)
  have hw : ¬ 1000 < wrong + 1 := by omega
  have d0 : ¬ d ≤ 0 := by omega
  have d0' : 0 < d := by omega
  have b0 : ¬ b ≤ 0 := by omega
  have es := fun (d b s w V : Int) (t f jo js o c : Bool) (X : Heap) => set_f p d b s w V t f jo js o c H X hp
  simp only [K] at es
  rw [K, D_eq p19 _ _ (Nat.le_of_ble_eq_true rfl)]
  simp (maxDischargeDepth := 8) only [r19, b19, c19_0, c19_1, c19_2, c19_3, c19_4, c19_5, c19_6, c19_7, c19_8, c19_9, c19_10, h, hp, ws, ww, hw, d0, d0', b0, hS, h0, es, okChain_all, RUN, Ed, knd, kndR, resV, binInt, mnmxV, mnmx2, fillL, unV, lenV, extractV, partV, loadAt, Nat.reduceAdd, Nat.reduceBEq, Nat.reduceEqDiff, Nat.reduceLT, Nat.reduceLeDiff, Nat.reduceMul, Nat.reduceSub, reduceIte, Int.reduceEq, Int.reduceNe, Int.reduceLT, Int.reduceLE, Int.reduceAdd, Int.reduceSub, Int.reduceMul, Int.reduceNeg, Int.reduceMod, Int.reduceDiv, Int.reduceTMod, Int.reduceTDiv, Int.reduceToNat]
theorem step_f4 (p : Nat) (d b since wrong S : Int) (jo js : Bool) (V : Int) (f0 : Bool) (d1 : 1 ≤ d) (b1 : 1 ≤ b) (s0 : -2 ≤ since) (s1 : since ≤ 1000) (w0 : 0 ≤ wrong) (w1 : wrong ≤ 999) (hS : (if 1000 < since + 1 then 1000 else since + 1) = S)  (H : Heap) (h : live H p = some ⟨true, 80, [.int .i64 d, .int .i64 b, .bool false, .int .i64 since, .int .i64 wrong, .int .i64 V, .bool f0, .bool jo, .bool js]⟩) : K 19 [.pointer (some ⟨p, 0, none⟩), .bool false, .agg ⟨[.int .i64 0, .bool true]⟩] H
    = some (.tuple ⟨[]⟩, H.set p (some ⟨true, 80, [.int .i64 d, .int .i64 b, .bool false, .int .i64 S, .int .i64 (0), .int .i64 0, .bool true, .bool jo, .bool js]⟩) ++ [some ⟨true, 36, [.int .i64 0, .bool true]⟩]) := by
  have hp := live_lt h
  have ws := wrap64 (since + 1) (by omega) (by omega)
  have ww := wrap64 (wrong + 1) (by omega) (by omega)
  have hw : ¬ 1000 < wrong + 1 := by omega
  have d0 : ¬ d ≤ 0 := by omega
  have d0' : 0 < d := by omega
  have b0 : ¬ b ≤ 0 := by omega
  have es := fun (d b s w V : Int) (t f jo js o c : Bool) (X : Heap) => set_f p d b s w V t f jo js o c H X hp
  simp only [K] at es
  rw [K, D_eq p19 _ _ (Nat.le_of_ble_eq_true rfl)]
  simp (maxDischargeDepth := 8) only [r19, b19, c19_0, c19_1, c19_2, c19_3, c19_4, c19_5, c19_6, c19_7, c19_8, c19_9, c19_10, h, hp, ws, ww, hw, d0, d0', b0, hS, es, okChain_all, RUN, Ed, knd, kndR, resV, binInt, mnmxV, mnmx2, fillL, unV, lenV, extractV, partV, loadAt, Nat.reduceAdd, Nat.reduceBEq, Nat.reduceEqDiff, Nat.reduceLT, Nat.reduceLeDiff, Nat.reduceMul, Nat.reduceSub, reduceIte, Int.reduceEq, Int.reduceNe, Int.reduceLT, Int.reduceLE, Int.reduceAdd, Int.reduceSub, Int.reduceMul, Int.reduceNeg, Int.reduceMod, Int.reduceDiv, Int.reduceTMod, Int.reduceTDiv, Int.reduceToNat]
theorem step_f5 (p : Nat) (d b since wrong S : Int) (jo js : Bool) (V : Int) (f0 : Bool) (d1 : 1 ≤ d) (b1 : 1 ≤ b) (s0 : -2 ≤ since) (s1 : since ≤ 1000) (w0 : 0 ≤ wrong) (w1 : wrong ≤ 999) (hS : (if 1000 < since + 1 then 1000 else since + 1) = S) (h0 : d ≤ S) (h1 : b ≤ wrong + 1) (H : Heap) (h : live H p = some ⟨true, 80, [.int .i64 d, .int .i64 b, .bool false, .int .i64 since, .int .i64 wrong, .int .i64 V, .bool f0, .bool jo, .bool js]⟩) : K 19 [.pointer (some ⟨p, 0, none⟩), .bool false, .agg ⟨[.int .i64 1, .bool true]⟩] H
    = some (.tuple ⟨[]⟩, H.set p (some ⟨true, 80, [.int .i64 d, .int .i64 b, .bool false, .int .i64 S, .int .i64 (wrong + 1), .int .i64 1, .bool true, .bool (jo || false), .bool (js || true)]⟩) ++ [some ⟨true, 36, [.int .i64 1, .bool true]⟩]) := by
  have hp := live_lt h
  have ws := wrap64 (since + 1) (by omega) (by omega)
  have ww := wrap64 (wrong + 1) (by omega) (by omega)
  have hw : ¬ 1000 < wrong + 1 := by omega
  have d0 : ¬ d ≤ 0 := by omega
  have d0' : 0 < d := by omega
  have b0 : ¬ b ≤ 0 := by omega
  have es := fun (d b s w V : Int) (t f jo js o c : Bool) (X : Heap) => set_f p d b s w V t f jo js o c H X hp
  simp only [K] at es
  have hSd : ¬ S < d := by omega
  rw [K, D_eq p19 _ _ (Nat.le_of_ble_eq_true rfl)]
  simp (maxDischargeDepth := 8) only [r19, b19, c19_0, c19_1, c19_2, c19_3, c19_4, c19_5, c19_6, c19_7, c19_8, c19_9, c19_10, h, hp, ws, ww, hw, d0, d0', b0, hS, h0, h1, es, hSd, okChain_all, RUN, Ed, knd, kndR, resV, binInt, mnmxV, mnmx2, fillL, unV, lenV, extractV, partV, loadAt, Nat.reduceAdd, Nat.reduceBEq, Nat.reduceEqDiff, Nat.reduceLT, Nat.reduceLeDiff, Nat.reduceMul, Nat.reduceSub, reduceIte, Int.reduceEq, Int.reduceNe, Int.reduceLT, Int.reduceLE, Int.reduceAdd, Int.reduceSub, Int.reduceMul, Int.reduceNeg, Int.reduceMod, Int.reduceDiv, Int.reduceTMod, Int.reduceTDiv, Int.reduceToNat]
theorem step_f6 (p : Nat) (d b since wrong S : Int) (jo js : Bool) (V : Int) (f0 : Bool) (d1 : 1 ≤ d) (b1 : 1 ≤ b) (s0 : -2 ≤ since) (s1 : since ≤ 1000) (w0 : 0 ≤ wrong) (w1 : wrong ≤ 999) (hS : (if 1000 < since + 1 then 1000 else since + 1) = S) (h0 : d ≤ S) (h1 : ¬ b ≤ wrong + 1) (H : Heap) (h : live H p = some ⟨true, 80, [.int .i64 d, .int .i64 b, .bool false, .int .i64 since, .int .i64 wrong, .int .i64 V, .bool f0, .bool jo, .bool js]⟩) : K 19 [.pointer (some ⟨p, 0, none⟩), .bool false, .agg ⟨[.int .i64 1, .bool true]⟩] H
    = some (.tuple ⟨[]⟩, H.set p (some ⟨true, 80, [.int .i64 d, .int .i64 b, .bool false, .int .i64 S, .int .i64 (wrong + 1), .int .i64 1, .bool true, .bool jo, .bool js]⟩) ++ [some ⟨true, 36, [.int .i64 1, .bool true]⟩]) := by
  have hp := live_lt h
  have ws := wrap64 (since + 1) (by omega) (by omega)
  have ww := wrap64 (wrong + 1) (by omega) (by omega)
  have hw : ¬ 1000 < wrong + 1 := by omega
  have d0 : ¬ d ≤ 0 := by omega
  have d0' : 0 < d := by omega
  have b0 : ¬ b ≤ 0 := by omega
  have es := fun (d b s w V : Int) (t f jo js o c : Bool) (X : Heap) => set_f p d b s w V t f jo js o c H X hp
  simp only [K] at es
  have hSd : ¬ S < d := by omega
  rw [K, D_eq p19 _ _ (Nat.le_of_ble_eq_true rfl)]
  simp (maxDischargeDepth := 8) only [r19, b19, c19_0, c19_1, c19_2, c19_3, c19_4, c19_5, c19_6, c19_7, c19_8, c19_9, c19_10, h, hp, ws, ww, hw, d0, d0', b0, hS, h0, h1, es, hSd, okChain_all, RUN, Ed, knd, kndR, resV, binInt, mnmxV, mnmx2, fillL, unV, lenV, extractV, partV, loadAt, Nat.reduceAdd, Nat.reduceBEq, Nat.reduceEqDiff, Nat.reduceLT, Nat.reduceLeDiff, Nat.reduceMul, Nat.reduceSub, reduceIte, Int.reduceEq, Int.reduceNe, Int.reduceLT, Int.reduceLE, Int.reduceAdd, Int.reduceSub, Int.reduceMul, Int.reduceNeg, Int.reduceMod, Int.reduceDiv, Int.reduceTMod, Int.reduceTDiv, Int.reduceToNat]
theorem step_f7 (p : Nat) (d b since wrong S : Int) (jo js : Bool) (V : Int) (f0 : Bool) (d1 : 1 ≤ d) (b1 : 1 ≤ b) (s0 : -2 ≤ since) (s1 : since ≤ 1000) (w0 : 0 ≤ wrong) (w1 : wrong ≤ 999) (hS : (if 1000 < since + 1 then 1000 else since + 1) = S) (h0 : ¬ d ≤ S) (H : Heap) (h : live H p = some ⟨true, 80, [.int .i64 d, .int .i64 b, .bool false, .int .i64 since, .int .i64 wrong, .int .i64 V, .bool f0, .bool jo, .bool js]⟩) : K 19 [.pointer (some ⟨p, 0, none⟩), .bool false, .agg ⟨[.int .i64 1, .bool true]⟩] H
    = some (.tuple ⟨[]⟩, H.set p (some ⟨true, 80, [.int .i64 d, .int .i64 b, .bool false, .int .i64 S, .int .i64 (0), .int .i64 1, .bool true, .bool jo, .bool js]⟩) ++ [some ⟨true, 36, [.int .i64 1, .bool true]⟩]) := by
  have hp := live_lt h
  have ws := wrap64 (since + 1) (by omega) (by omega)
  have ww := wrap64 (wrong + 1) (by omega) (by omega)
  have hw : ¬ 1000 < wrong + 1 := by omega
  have d0 : ¬ d ≤ 0 := by omega
  have d0' : 0 < d := by omega
  have b0 : ¬ b ≤ 0 := by omega
  have es := fun (d b s w V : Int) (t f jo js o c : Bool) (X : Heap) => set_f p d b s w V t f jo js o c H X hp
  simp only [K] at es
  have hSd : S < d := by omega
  rw [K, D_eq p19 _ _ (Nat.le_of_ble_eq_true rfl)]
  simp (maxDischargeDepth := 8) only [r19, b19, c19_0, c19_1, c19_2, c19_3, c19_4, c19_5, c19_6, c19_7, c19_8, c19_9, c19_10, h, hp, ws, ww, hw, d0, d0', b0, hS, h0, es, hSd, okChain_all, RUN, Ed, knd, kndR, resV, binInt, mnmxV, mnmx2, fillL, unV, lenV, extractV, partV, loadAt, Nat.reduceAdd, Nat.reduceBEq, Nat.reduceEqDiff, Nat.reduceLT, Nat.reduceLeDiff, Nat.reduceMul, Nat.reduceSub, reduceIte, Int.reduceEq, Int.reduceNe, Int.reduceLT, Int.reduceLE, Int.reduceAdd, Int.reduceSub, Int.reduceMul, Int.reduceNeg, Int.reduceMod, Int.reduceDiv, Int.reduceTMod, Int.reduceTDiv, Int.reduceToNat]
theorem step_f8 (p : Nat) (d b since wrong S : Int) (jo js : Bool) (V : Int) (f0 : Bool) (d1 : 1 ≤ d) (b1 : 1 ≤ b) (s0 : -2 ≤ since) (s1 : since ≤ 1000) (w0 : 0 ≤ wrong) (w1 : wrong ≤ 999) (hS : (if 1000 < since + 1 then 1000 else since + 1) = S)  (H : Heap) (h : live H p = some ⟨true, 80, [.int .i64 d, .int .i64 b, .bool false, .int .i64 since, .int .i64 wrong, .int .i64 V, .bool f0, .bool jo, .bool js]⟩) : K 19 [.pointer (some ⟨p, 0, none⟩), .bool true, .agg ⟨[.int .i64 0, .bool false]⟩] H
    = some (.tuple ⟨[]⟩, H.set p (some ⟨true, 80, [.int .i64 d, .int .i64 b, .bool true, .int .i64 0, .int .i64 (0), .int .i64 0, .bool false, .bool jo, .bool js]⟩) ++ [some ⟨true, 36, [.int .i64 0, .bool false]⟩]) := by
  have hp := live_lt h
  have ws := wrap64 (since + 1) (by omega) (by omega)
  have ww := wrap64 (wrong + 1) (by omega) (by omega)
  have hw : ¬ 1000 < wrong + 1 := by omega
  have d0 : ¬ d ≤ 0 := by omega
  have d0' : 0 < d := by omega
  have b0 : ¬ b ≤ 0 := by omega
  have es := fun (d b s w V : Int) (t f jo js o c : Bool) (X : Heap) => set_f p d b s w V t f jo js o c H X hp
  simp only [K] at es
  rw [K, D_eq p19 _ _ (Nat.le_of_ble_eq_true rfl)]
  simp (maxDischargeDepth := 8) only [r19, b19, c19_0, c19_1, c19_2, c19_3, c19_4, c19_5, c19_6, c19_7, c19_8, c19_9, c19_10, h, hp, ws, ww, hw, d0, d0', b0, hS, es, okChain_all, RUN, Ed, knd, kndR, resV, binInt, mnmxV, mnmx2, fillL, unV, lenV, extractV, partV, loadAt, Nat.reduceAdd, Nat.reduceBEq, Nat.reduceEqDiff, Nat.reduceLT, Nat.reduceLeDiff, Nat.reduceMul, Nat.reduceSub, reduceIte, Int.reduceEq, Int.reduceNe, Int.reduceLT, Int.reduceLE, Int.reduceAdd, Int.reduceSub, Int.reduceMul, Int.reduceNeg, Int.reduceMod, Int.reduceDiv, Int.reduceTMod, Int.reduceTDiv, Int.reduceToNat]
theorem step_f9 (p : Nat) (d b since wrong S : Int) (jo js : Bool) (V : Int) (f0 : Bool) (d1 : 1 ≤ d) (b1 : 1 ≤ b) (s0 : -2 ≤ since) (s1 : since ≤ 1000) (w0 : 0 ≤ wrong) (w1 : wrong ≤ 999) (hS : (if 1000 < since + 1 then 1000 else since + 1) = S)  (H : Heap) (h : live H p = some ⟨true, 80, [.int .i64 d, .int .i64 b, .bool false, .int .i64 since, .int .i64 wrong, .int .i64 V, .bool f0, .bool jo, .bool js]⟩) : K 19 [.pointer (some ⟨p, 0, none⟩), .bool true, .agg ⟨[.int .i64 1, .bool false]⟩] H
    = some (.tuple ⟨[]⟩, H.set p (some ⟨true, 80, [.int .i64 d, .int .i64 b, .bool true, .int .i64 0, .int .i64 (0), .int .i64 1, .bool false, .bool jo, .bool js]⟩) ++ [some ⟨true, 36, [.int .i64 1, .bool false]⟩]) := by
  have hp := live_lt h
  have ws := wrap64 (since + 1) (by omega) (by omega)
  have ww := wrap64 (wrong + 1) (by omega) (by omega)
  have hw : ¬ 1000 < wrong + 1 := by omega
  have d0 : ¬ d ≤ 0 := by omega
  have d0' : 0 < d := by omega
  have b0 : ¬ b ≤ 0 := by omega
  have es := fun (d b s w V : Int) (t f jo js o c : Bool) (X : Heap) => set_f p d b s w V t f jo js o c H X hp
  simp only [K] at es
  rw [K, D_eq p19 _ _ (Nat.le_of_ble_eq_true rfl)]
  simp (maxDischargeDepth := 8) only [r19, b19, c19_0, c19_1, c19_2, c19_3, c19_4, c19_5, c19_6, c19_7, c19_8, c19_9, c19_10, h, hp, ws, ww, hw, d0, d0', b0, hS, es, okChain_all, RUN, Ed, knd, kndR, resV, binInt, mnmxV, mnmx2, fillL, unV, lenV, extractV, partV, loadAt, Nat.reduceAdd, Nat.reduceBEq, Nat.reduceEqDiff, Nat.reduceLT, Nat.reduceLeDiff, Nat.reduceMul, Nat.reduceSub, reduceIte, Int.reduceEq, Int.reduceNe, Int.reduceLT, Int.reduceLE, Int.reduceAdd, Int.reduceSub, Int.reduceMul, Int.reduceNeg, Int.reduceMod, Int.reduceDiv, Int.reduceTMod, Int.reduceTDiv, Int.reduceToNat]
theorem step_f10 (p : Nat) (d b since wrong S : Int) (jo js : Bool) (V : Int) (f0 : Bool) (d1 : 1 ≤ d) (b1 : 1 ≤ b) (s0 : -2 ≤ since) (s1 : since ≤ 1000) (w0 : 0 ≤ wrong) (w1 : wrong ≤ 999) (hS : (if 1000 < since + 1 then 1000 else since + 1) = S)  (H : Heap) (h : live H p = some ⟨true, 80, [.int .i64 d, .int .i64 b, .bool false, .int .i64 since, .int .i64 wrong, .int .i64 V, .bool f0, .bool jo, .bool js]⟩) : K 19 [.pointer (some ⟨p, 0, none⟩), .bool true, .agg ⟨[.int .i64 0, .bool true]⟩] H
    = some (.tuple ⟨[]⟩, H.set p (some ⟨true, 80, [.int .i64 d, .int .i64 b, .bool true, .int .i64 0, .int .i64 (0), .int .i64 0, .bool true, .bool jo, .bool js]⟩) ++ [some ⟨true, 36, [.int .i64 0, .bool true]⟩]) := by
  have hp := live_lt h
  have ws := wrap64 (since + 1) (by omega) (by omega)
  have ww := wrap64 (wrong + 1) (by omega) (by omega)
  have hw : ¬ 1000 < wrong + 1 := by omega
  have d0 : ¬ d ≤ 0 := by omega
  have d0' : 0 < d := by omega
  have b0 : ¬ b ≤ 0 := by omega
  have es := fun (d b s w V : Int) (t f jo js o c : Bool) (X : Heap) => set_f p d b s w V t f jo js o c H X hp
  simp only [K] at es
  rw [K, D_eq p19 _ _ (Nat.le_of_ble_eq_true rfl)]
  simp (maxDischargeDepth := 8) only [r19, b19, c19_0, c19_1, c19_2, c19_3, c19_4, c19_5, c19_6, c19_7, c19_8, c19_9, c19_10, h, hp, ws, ww, hw, d0, d0', b0, hS, es, okChain_all, RUN, Ed, knd, kndR, resV, binInt, mnmxV, mnmx2, fillL, unV, lenV, extractV, partV, loadAt, Nat.reduceAdd, Nat.reduceBEq, Nat.reduceEqDiff, Nat.reduceLT, Nat.reduceLeDiff, Nat.reduceMul, Nat.reduceSub, reduceIte, Int.reduceEq, Int.reduceNe, Int.reduceLT, Int.reduceLE, Int.reduceAdd, Int.reduceSub, Int.reduceMul, Int.reduceNeg, Int.reduceMod, Int.reduceDiv, Int.reduceTMod, Int.reduceTDiv, Int.reduceToNat]
theorem step_f11 (p : Nat) (d b since wrong S : Int) (jo js : Bool) (V : Int) (f0 : Bool) (d1 : 1 ≤ d) (b1 : 1 ≤ b) (s0 : -2 ≤ since) (s1 : since ≤ 1000) (w0 : 0 ≤ wrong) (w1 : wrong ≤ 999) (hS : (if 1000 < since + 1 then 1000 else since + 1) = S)  (H : Heap) (h : live H p = some ⟨true, 80, [.int .i64 d, .int .i64 b, .bool false, .int .i64 since, .int .i64 wrong, .int .i64 V, .bool f0, .bool jo, .bool js]⟩) : K 19 [.pointer (some ⟨p, 0, none⟩), .bool true, .agg ⟨[.int .i64 1, .bool true]⟩] H
    = some (.tuple ⟨[]⟩, H.set p (some ⟨true, 80, [.int .i64 d, .int .i64 b, .bool true, .int .i64 0, .int .i64 (0), .int .i64 1, .bool true, .bool jo, .bool js]⟩) ++ [some ⟨true, 36, [.int .i64 1, .bool true]⟩]) := by
  have hp := live_lt h
  have ws := wrap64 (since + 1) (by omega) (by omega)
  have ww := wrap64 (wrong + 1) (by omega) (by omega)
  have hw : ¬ 1000 < wrong + 1 := by omega
  have d0 : ¬ d ≤ 0 := by omega
  have d0' : 0 < d := by omega
  have b0 : ¬ b ≤ 0 := by omega
  have es := fun (d b s w V : Int) (t f jo js o c : Bool) (X : Heap) => set_f p d b s w V t f jo js o c H X hp
  simp only [K] at es
  rw [K, D_eq p19 _ _ (Nat.le_of_ble_eq_true rfl)]
  simp (maxDischargeDepth := 8) only [r19, b19, c19_0, c19_1, c19_2, c19_3, c19_4, c19_5, c19_6, c19_7, c19_8, c19_9, c19_10, h, hp, ws, ww, hw, d0, d0', b0, hS, es, okChain_all, RUN, Ed, knd, kndR, resV, binInt, mnmxV, mnmx2, fillL, unV, lenV, extractV, partV, loadAt, Nat.reduceAdd, Nat.reduceBEq, Nat.reduceEqDiff, Nat.reduceLT, Nat.reduceLeDiff, Nat.reduceMul, Nat.reduceSub, reduceIte, Int.reduceEq, Int.reduceNe, Int.reduceLT, Int.reduceLE, Int.reduceAdd, Int.reduceSub, Int.reduceMul, Int.reduceNeg, Int.reduceMod, Int.reduceDiv, Int.reduceTMod, Int.reduceTDiv, Int.reduceToNat]
theorem step_f12 (p : Nat) (d b since wrong S : Int) (jo js : Bool) (V : Int) (f0 : Bool) (d1 : 1 ≤ d) (b1 : 1 ≤ b) (s0 : -2 ≤ since) (s1 : since ≤ 1000) (w0 : 0 ≤ wrong) (w1 : wrong ≤ 999) (hS : (if 1000 < since + 1 then 1000 else since + 1) = S)  (H : Heap) (h : live H p = some ⟨true, 80, [.int .i64 d, .int .i64 b, .bool true, .int .i64 since, .int .i64 wrong, .int .i64 V, .bool f0, .bool jo, .bool js]⟩) : K 19 [.pointer (some ⟨p, 0, none⟩), .bool false, .agg ⟨[.int .i64 0, .bool false]⟩] H
    = some (.tuple ⟨[]⟩, H.set p (some ⟨true, 80, [.int .i64 d, .int .i64 b, .bool false, .int .i64 0, .int .i64 (0), .int .i64 0, .bool false, .bool jo, .bool js]⟩) ++ [some ⟨true, 36, [.int .i64 0, .bool false]⟩]) := by
  have hp := live_lt h
  have ws := wrap64 (since + 1) (by omega) (by omega)
  have ww := wrap64 (wrong + 1) (by omega) (by omega)
  have hw : ¬ 1000 < wrong + 1 := by omega
  have d0 : ¬ d ≤ 0 := by omega
  have d0' : 0 < d := by omega
  have b0 : ¬ b ≤ 0 := by omega
  have es := fun (d b s w V : Int) (t f jo js o c : Bool) (X : Heap) => set_f p d b s w V t f jo js o c H X hp
  simp only [K] at es
  rw [K, D_eq p19 _ _ (Nat.le_of_ble_eq_true rfl)]
  simp (maxDischargeDepth := 8) only [r19, b19, c19_0, c19_1, c19_2, c19_3, c19_4, c19_5, c19_6, c19_7, c19_8, c19_9, c19_10, h, hp, ws, ww, hw, d0, d0', b0, hS, es, okChain_all, RUN, Ed, knd, kndR, resV, binInt, mnmxV, mnmx2, fillL, unV, lenV, extractV, partV, loadAt, Nat.reduceAdd, Nat.reduceBEq, Nat.reduceEqDiff, Nat.reduceLT, Nat.reduceLeDiff, Nat.reduceMul, Nat.reduceSub, reduceIte, Int.reduceEq, Int.reduceNe, Int.reduceLT, Int.reduceLE, Int.reduceAdd, Int.reduceSub, Int.reduceMul, Int.reduceNeg, Int.reduceMod, Int.reduceDiv, Int.reduceTMod, Int.reduceTDiv, Int.reduceToNat]
theorem step_f13 (p : Nat) (d b since wrong S : Int) (jo js : Bool) (V : Int) (f0 : Bool) (d1 : 1 ≤ d) (b1 : 1 ≤ b) (s0 : -2 ≤ since) (s1 : since ≤ 1000) (w0 : 0 ≤ wrong) (w1 : wrong ≤ 999) (hS : (if 1000 < since + 1 then 1000 else since + 1) = S)  (H : Heap) (h : live H p = some ⟨true, 80, [.int .i64 d, .int .i64 b, .bool true, .int .i64 since, .int .i64 wrong, .int .i64 V, .bool f0, .bool jo, .bool js]⟩) : K 19 [.pointer (some ⟨p, 0, none⟩), .bool false, .agg ⟨[.int .i64 1, .bool false]⟩] H
    = some (.tuple ⟨[]⟩, H.set p (some ⟨true, 80, [.int .i64 d, .int .i64 b, .bool false, .int .i64 0, .int .i64 (0), .int .i64 1, .bool false, .bool jo, .bool js]⟩) ++ [some ⟨true, 36, [.int .i64 1, .bool false]⟩]) := by
  have hp := live_lt h
  have ws := wrap64 (since + 1) (by omega) (by omega)
  have ww := wrap64 (wrong + 1) (by omega) (by omega)
  have hw : ¬ 1000 < wrong + 1 := by omega
  have d0 : ¬ d ≤ 0 := by omega
  have d0' : 0 < d := by omega
  have b0 : ¬ b ≤ 0 := by omega
  have es := fun (d b s w V : Int) (t f jo js o c : Bool) (X : Heap) => set_f p d b s w V t f jo js o c H X hp
  simp only [K] at es
  rw [K, D_eq p19 _ _ (Nat.le_of_ble_eq_true rfl)]
  simp (maxDischargeDepth := 8) only [r19, b19, c19_0, c19_1, c19_2, c19_3, c19_4, c19_5, c19_6, c19_7, c19_8, c19_9, c19_10, h, hp, ws, ww, hw, d0, d0', b0, hS, es, okChain_all, RUN, Ed, knd, kndR, resV, binInt, mnmxV, mnmx2, fillL, unV, lenV, extractV, partV, loadAt, Nat.reduceAdd, Nat.reduceBEq, Nat.reduceEqDiff, Nat.reduceLT, Nat.reduceLeDiff, Nat.reduceMul, Nat.reduceSub, reduceIte, Int.reduceEq, Int.reduceNe, Int.reduceLT, Int.reduceLE, Int.reduceAdd, Int.reduceSub, Int.reduceMul, Int.reduceNeg, Int.reduceMod, Int.reduceDiv, Int.reduceTMod, Int.reduceTDiv, Int.reduceToNat]
theorem step_f14 (p : Nat) (d b since wrong S : Int) (jo js : Bool) (V : Int) (f0 : Bool) (d1 : 1 ≤ d) (b1 : 1 ≤ b) (s0 : -2 ≤ since) (s1 : since ≤ 1000) (w0 : 0 ≤ wrong) (w1 : wrong ≤ 999) (hS : (if 1000 < since + 1 then 1000 else since + 1) = S)  (H : Heap) (h : live H p = some ⟨true, 80, [.int .i64 d, .int .i64 b, .bool true, .int .i64 since, .int .i64 wrong, .int .i64 V, .bool f0, .bool jo, .bool js]⟩) : K 19 [.pointer (some ⟨p, 0, none⟩), .bool false, .agg ⟨[.int .i64 0, .bool true]⟩] H
    = some (.tuple ⟨[]⟩, H.set p (some ⟨true, 80, [.int .i64 d, .int .i64 b, .bool false, .int .i64 0, .int .i64 (0), .int .i64 0, .bool true, .bool jo, .bool js]⟩) ++ [some ⟨true, 36, [.int .i64 0, .bool true]⟩]) := by
  have hp := live_lt h
  have ws := wrap64 (since + 1) (by omega) (by omega)
  have ww := wrap64 (wrong + 1) (by omega) (by omega)
  have hw : ¬ 1000 < wrong + 1 := by omega
  have d0 : ¬ d ≤ 0 := by omega
  have d0' : 0 < d := by omega
  have b0 : ¬ b ≤ 0 := by omega
  have es := fun (d b s w V : Int) (t f jo js o c : Bool) (X : Heap) => set_f p d b s w V t f jo js o c H X hp
  simp only [K] at es
  rw [K, D_eq p19 _ _ (Nat.le_of_ble_eq_true rfl)]
  simp (maxDischargeDepth := 8) only [r19, b19, c19_0, c19_1, c19_2, c19_3, c19_4, c19_5, c19_6, c19_7, c19_8, c19_9, c19_10, h, hp, ws, ww, hw, d0, d0', b0, hS, es, okChain_all, RUN, Ed, knd, kndR, resV, binInt, mnmxV, mnmx2, fillL, unV, lenV, extractV, partV, loadAt, Nat.reduceAdd, Nat.reduceBEq, Nat.reduceEqDiff, Nat.reduceLT, Nat.reduceLeDiff, Nat.reduceMul, Nat.reduceSub, reduceIte, Int.reduceEq, Int.reduceNe, Int.reduceLT, Int.reduceLE, Int.reduceAdd, Int.reduceSub, Int.reduceMul, Int.reduceNeg, Int.reduceMod, Int.reduceDiv, Int.reduceTMod, Int.reduceTDiv, Int.reduceToNat]
theorem step_f15 (p : Nat) (d b since wrong S : Int) (jo js : Bool) (V : Int) (f0 : Bool) (d1 : 1 ≤ d) (b1 : 1 ≤ b) (s0 : -2 ≤ since) (s1 : since ≤ 1000) (w0 : 0 ≤ wrong) (w1 : wrong ≤ 999) (hS : (if 1000 < since + 1 then 1000 else since + 1) = S)  (H : Heap) (h : live H p = some ⟨true, 80, [.int .i64 d, .int .i64 b, .bool true, .int .i64 since, .int .i64 wrong, .int .i64 V, .bool f0, .bool jo, .bool js]⟩) : K 19 [.pointer (some ⟨p, 0, none⟩), .bool false, .agg ⟨[.int .i64 1, .bool true]⟩] H
    = some (.tuple ⟨[]⟩, H.set p (some ⟨true, 80, [.int .i64 d, .int .i64 b, .bool false, .int .i64 0, .int .i64 (0), .int .i64 1, .bool true, .bool jo, .bool js]⟩) ++ [some ⟨true, 36, [.int .i64 1, .bool true]⟩]) := by
  have hp := live_lt h
  have ws := wrap64 (since + 1) (by omega) (by omega)
  have ww := wrap64 (wrong + 1) (by omega) (by omega)
  have hw : ¬ 1000 < wrong + 1 := by omega
  have d0 : ¬ d ≤ 0 := by omega
  have d0' : 0 < d := by omega
  have b0 : ¬ b ≤ 0 := by omega
  have es := fun (d b s w V : Int) (t f jo js o c : Bool) (X : Heap) => set_f p d b s w V t f jo js o c H X hp
  simp only [K] at es
  rw [K, D_eq p19 _ _ (Nat.le_of_ble_eq_true rfl)]
  simp (maxDischargeDepth := 8) only [r19, b19, c19_0, c19_1, c19_2, c19_3, c19_4, c19_5, c19_6, c19_7, c19_8, c19_9, c19_10, h, hp, ws, ww, hw, d0, d0', b0, hS, es, okChain_all, RUN, Ed, knd, kndR, resV, binInt, mnmxV, mnmx2, fillL, unV, lenV, extractV, partV, loadAt, Nat.reduceAdd, Nat.reduceBEq, Nat.reduceEqDiff, Nat.reduceLT, Nat.reduceLeDiff, Nat.reduceMul, Nat.reduceSub, reduceIte, Int.reduceEq, Int.reduceNe, Int.reduceLT, Int.reduceLE, Int.reduceAdd, Int.reduceSub, Int.reduceMul, Int.reduceNeg, Int.reduceMod, Int.reduceDiv, Int.reduceTMod, Int.reduceTDiv, Int.reduceToNat]
theorem step_f16 (p : Nat) (d b since wrong S : Int) (jo js : Bool) (V : Int) (f0 : Bool) (d1 : 1 ≤ d) (b1 : 1 ≤ b) (s0 : -2 ≤ since) (s1 : since ≤ 1000) (w0 : 0 ≤ wrong) (w1 : wrong ≤ 999) (hS : (if 1000 < since + 1 then 1000 else since + 1) = S) (h0 : b ≤ wrong) (H : Heap) (h : live H p = some ⟨true, 80, [.int .i64 d, .int .i64 b, .bool true, .int .i64 since, .int .i64 wrong, .int .i64 V, .bool f0, .bool jo, .bool js]⟩) : K 19 [.pointer (some ⟨p, 0, none⟩), .bool true, .agg ⟨[.int .i64 0, .bool false]⟩] H
    = some (.tuple ⟨[]⟩, H.set p (some ⟨true, 80, [.int .i64 d, .int .i64 b, .bool true, .int .i64 S, .int .i64 (wrong), .int .i64 0, .bool false, .bool (jo || true), .bool (js || false)]⟩) ++ [some ⟨true, 36, [.int .i64 0, .bool false]⟩]) := by
  have hp := live_lt h
  have ws := wrap64 (since + 1) (by omega) (by omega)
  have ww := wrap64 (wrong + 1) (by omega) (by omega)
  have hw : ¬ 1000 < wrong + 1 := by omega
  have d0 : ¬ d ≤ 0 := by omega
  have d0' : 0 < d := by omega
  have b0 : ¬ b ≤ 0 := by omega
  have es := fun (d b s w V : Int) (t f jo js o c : Bool) (X : Heap) => set_f p d b s w V t f jo js o c H X hp
  simp only [K] at es
  rw [K, D_eq p19 _ _ (Nat.le_of_ble_eq_true rfl)]
  simp (maxDischargeDepth := 8) only [r19, b19, c19_0, c19_1, c19_2, c19_3, c19_4, c19_5, c19_6, c19_7, c19_8, c19_9, c19_10, h, hp, ws, ww, hw, d0, d0', b0, hS, h0, es, okChain_all, RUN, Ed, knd, kndR, resV, binInt, mnmxV, mnmx2, fillL, unV, lenV, extractV, partV, loadAt, Nat.reduceAdd, Nat.reduceBEq, Nat.reduceEqDiff, Nat.reduceLT, Nat.reduceLeDiff, Nat.reduceMul, Nat.reduceSub, reduceIte, Int.reduceEq, Int.reduceNe, Int.reduceLT, Int.reduceLE, Int.reduceAdd, Int.reduceSub, Int.reduceMul, Int.reduceNeg, Int.reduceMod, Int.reduceDiv, Int.reduceTMod, Int.reduceTDiv, Int.reduceToNat]
theorem step_f17 (p : Nat) (d b since wrong S : Int) (jo js : Bool) (V : Int) (f0 : Bool) (d1 : 1 ≤ d) (b1 : 1 ≤ b) (s0 : -2 ≤ since) (s1 : since ≤ 1000) (w0 : 0 ≤ wrong) (w1 : wrong ≤ 999) (hS : (if 1000 < since + 1 then 1000 else since + 1) = S) (h0 : ¬ b ≤ wrong) (H : Heap) (h : live H p = some ⟨true, 80, [.int .i64 d, .int .i64 b, .bool true, .int .i64 since, .int .i64 wrong, .int .i64 V, .bool f0, .bool jo, .bool js]⟩) : K 19 [.pointer (some ⟨p, 0, none⟩), .bool true, .agg ⟨[.int .i64 0, .bool false]⟩] H
    = some (.tuple ⟨[]⟩, H.set p (some ⟨true, 80, [.int .i64 d, .int .i64 b, .bool true, .int .i64 S, .int .i64 (wrong), .int .i64 0, .bool false, .bool jo, .bool js]⟩) ++ [some ⟨true, 36, [.int .i64 0, .bool false]⟩]) := by
  have hp := live_lt h
  have ws := wrap64 (since + 1) (by omega) (by omega)
  have ww := wrap64 (wrong + 1) (by omega) (by omega)
  have hw : ¬ 1000 < wrong + 1 := by omega
  have d0 : ¬ d ≤ 0 := by omega
  have d0' : 0 < d := by omega
  have b0 : ¬ b ≤ 0 := by omega
  have es := fun (d b s w V : Int) (t f jo js o c : Bool) (X : Heap) => set_f p d b s w V t f jo js o c H X hp
  simp only [K] at es
  rw [K, D_eq p19 _ _ (Nat.le_of_ble_eq_true rfl)]
  simp (maxDischargeDepth := 8) only [r19, b19, c19_0, c19_1, c19_2, c19_3, c19_4, c19_5, c19_6, c19_7, c19_8, c19_9, c19_10, h, hp, ws, ww, hw, d0, d0', b0, hS, h0, es, okChain_all, RUN, Ed, knd, kndR, resV, binInt, mnmxV, mnmx2, fillL, unV, lenV, extractV, partV, loadAt, Nat.reduceAdd, Nat.reduceBEq, Nat.reduceEqDiff, Nat.reduceLT, Nat.reduceLeDiff, Nat.reduceMul, Nat.reduceSub, reduceIte, Int.reduceEq, Int.reduceNe, Int.reduceLT, Int.reduceLE, Int.reduceAdd, Int.reduceSub, Int.reduceMul, Int.reduceNeg, Int.reduceMod, Int.reduceDiv, Int.reduceTMod, Int.reduceTDiv, Int.reduceToNat]
theorem step_f18 (p : Nat) (d b since wrong S : Int) (jo js : Bool) (V : Int) (f0 : Bool) (d1 : 1 ≤ d) (b1 : 1 ≤ b) (s0 : -2 ≤ since) (s1 : since ≤ 1000) (w0 : 0 ≤ wrong) (w1 : wrong ≤ 999) (hS : (if 1000 < since + 1 then 1000 else since + 1) = S) (h0 : b ≤ wrong) (H : Heap) (h : live H p = some ⟨true, 80, [.int .i64 d, .int .i64 b, .bool true, .int .i64 since, .int .i64 wrong, .int .i64 V, .bool f0, .bool jo, .bool js]⟩) : K 19 [.pointer (some ⟨p, 0, none⟩), .bool true, .agg ⟨[.int .i64 1, .bool false]⟩] H
    = some (.tuple ⟨[]⟩, H.set p (some ⟨true, 80, [.int .i64 d, .int .i64 b, .bool true, .int .i64 S, .int .i64 (wrong), .int .i64 1, .bool false, .bool (jo || true), .bool (js || false)]⟩) ++ [some ⟨true, 36, [.int .i64 1, .bool false]⟩]) := by
  have hp := live_lt h
  have ws := wrap64 (since + 1) (by omega) (by omega)
  have ww := wrap64 (wrong + 1) (by omega) (by omega)
  have hw : ¬ 1000 < wrong + 1 := by omega
  have d0 : ¬ d ≤ 0 := by omega
  have d0' : 0 < d := by omega
  have b0 : ¬ b ≤ 0 := by omega
  have es := fun (d b s w V : Int) (t f jo js o c : Bool) (X : Heap) => set_f p d b s w V t f jo js o c H X hp
  simp only [K] at es
  rw [K, D_eq p19 _ _ (Nat.le_of_ble_eq_true rfl)]
  simp (maxDischargeDepth := 8) only [r19, b19, c19_0, c19_1, c19_2, c19_3, c19_4, c19_5, c19_6, c19_7, c19_8, c19_9, c19_10, h, hp, ws, ww, hw, d0, d0', b0, hS, h0, es, okChain_all, RUN, Ed, knd, kndR, resV, binInt, mnmxV, mnmx2, fillL, unV, lenV, extractV, partV, loadAt, Nat.reduceAdd, Nat.reduceBEq, Nat.reduceEqDiff, Nat.reduceLT, Nat.reduceLeDiff, Nat.reduceMul, Nat.reduceSub, reduceIte, Int.reduceEq, Int.reduceNe, Int.reduceLT, Int.reduceLE, Int.reduceAdd, Int.reduceSub, Int.reduceMul, Int.reduceNeg, Int.reduceMod, Int.reduceDiv, Int.reduceTMod, Int.reduceTDiv, Int.reduceToNat]
theorem step_f19 (p : Nat) (d b since wrong S : Int) (jo js : Bool) (V : Int) (f0 : Bool) (d1 : 1 ≤ d) (b1 : 1 ≤ b) (s0 : -2 ≤ since) (s1 : since ≤ 1000) (w0 : 0 ≤ wrong) (w1 : wrong ≤ 999) (hS : (if 1000 < since + 1 then 1000 else since + 1) = S) (h0 : ¬ b ≤ wrong) (H : Heap) (h : live H p = some ⟨true, 80, [.int .i64 d, .int .i64 b, .bool true, .int .i64 since, .int .i64 wrong, .int .i64 V, .bool f0, .bool jo, .bool js]⟩) : K 19 [.pointer (some ⟨p, 0, none⟩), .bool true, .agg ⟨[.int .i64 1, .bool false]⟩] H
    = some (.tuple ⟨[]⟩, H.set p (some ⟨true, 80, [.int .i64 d, .int .i64 b, .bool true, .int .i64 S, .int .i64 (wrong), .int .i64 1, .bool false, .bool jo, .bool js]⟩) ++ [some ⟨true, 36, [.int .i64 1, .bool false]⟩]) := by
  have hp := live_lt h
  have ws := wrap64 (since + 1) (by omega) (by omega)
  have ww := wrap64 (wrong + 1) (by omega) (by omega)
  have hw : ¬ 1000 < wrong + 1 := by omega
  have d0 : ¬ d ≤ 0 := by omega
  have d0' : 0 < d := by omega
  have b0 : ¬ b ≤ 0 := by omega
  have es := fun (d b s w V : Int) (t f jo js o c : Bool) (X : Heap) => set_f p d b s w V t f jo js o c H X hp
  simp only [K] at es
  rw [K, D_eq p19 _ _ (Nat.le_of_ble_eq_true rfl)]
  simp (maxDischargeDepth := 8) only [r19, b19, c19_0, c19_1, c19_2, c19_3, c19_4, c19_5, c19_6, c19_7, c19_8, c19_9, c19_10, h, hp, ws, ww, hw, d0, d0', b0, hS, h0, es, okChain_all, RUN, Ed, knd, kndR, resV, binInt, mnmxV, mnmx2, fillL, unV, lenV, extractV, partV, loadAt, Nat.reduceAdd, Nat.reduceBEq, Nat.reduceEqDiff, Nat.reduceLT, Nat.reduceLeDiff, Nat.reduceMul, Nat.reduceSub, reduceIte, Int.reduceEq, Int.reduceNe, Int.reduceLT, Int.reduceLE, Int.reduceAdd, Int.reduceSub, Int.reduceMul, Int.reduceNeg, Int.reduceMod, Int.reduceDiv, Int.reduceTMod, Int.reduceTDiv, Int.reduceToNat]
theorem step_f20 (p : Nat) (d b since wrong S : Int) (jo js : Bool) (V : Int) (f0 : Bool) (d1 : 1 ≤ d) (b1 : 1 ≤ b) (s0 : -2 ≤ since) (s1 : since ≤ 1000) (w0 : 0 ≤ wrong) (w1 : wrong ≤ 999) (hS : (if 1000 < since + 1 then 1000 else since + 1) = S) (h0 : d ≤ S) (h1 : b ≤ wrong + 1) (H : Heap) (h : live H p = some ⟨true, 80, [.int .i64 d, .int .i64 b, .bool true, .int .i64 since, .int .i64 wrong, .int .i64 V, .bool f0, .bool jo, .bool js]⟩) : K 19 [.pointer (some ⟨p, 0, none⟩), .bool true, .agg ⟨[.int .i64 0, .bool true]⟩] H
    = some (.tuple ⟨[]⟩, H.set p (some ⟨true, 80, [.int .i64 d, .int .i64 b, .bool true, .int .i64 S, .int .i64 (wrong + 1), .int .i64 0, .bool true, .bool (jo || true), .bool (js || false)]⟩) ++ [some ⟨true, 36, [.int .i64 0, .bool true]⟩]) := by
  have hp := live_lt h
  have ws := wrap64 (since + 1) (by omega) (by omega)
  have ww := wrap64 (wrong + 1) (by omega) (by omega)
  have hw : ¬ 1000 < wrong + 1 := by omega
  have d0 : ¬ d ≤ 0 := by omega
  have d0' : 0 < d := by omega
  have b0 : ¬ b ≤ 0 := by omega
  have es := fun (d b s w V : Int) (t f jo js o c : Bool) (X : Heap) => set_f p d b s w V t f jo js o c H X hp
  simp only [K] at es
  have hSd : ¬ S < d := by omega
  rw [K, D_eq p19 _ _ (Nat.le_of_ble_eq_true rfl)]
  simp (maxDischargeDepth := 8) only [r19, b19, c19_0, c19_1, c19_2, c19_3, c19_4, c19_5, c19_6, c19_7, c19_8, c19_9, c19_10, h, hp, ws, ww, hw, d0, d0', b0, hS, h0, h1, es, hSd, okChain_all, RUN, Ed, knd, kndR, resV, binInt, mnmxV, mnmx2, fillL, unV, lenV, extractV, partV, loadAt, Nat.reduceAdd, Nat.reduceBEq, Nat.reduceEqDiff, Nat.reduceLT, Nat.reduceLeDiff, Nat.reduceMul, Nat.reduceSub, reduceIte, Int.reduceEq, Int.reduceNe, Int.reduceLT, Int.reduceLE, Int.reduceAdd, Int.reduceSub, Int.reduceMul, Int.reduceNeg, Int.reduceMod, Int.reduceDiv, Int.reduceTMod, Int.reduceTDiv, Int.reduceToNat]
theorem step_f21 (p : Nat) (d b since wrong S : Int) (jo js : Bool) (V : Int) (f0 : Bool) (d1 : 1 ≤ d) (b1 : 1 ≤ b) (s0 : -2 ≤ since) (s1 : since ≤ 1000) (w0 : 0 ≤ wrong) (w1 : wrong ≤ 999) (hS : (if 1000 < since + 1 then 1000 else since + 1) = S) (h0 : d ≤ S) (h1 : ¬ b ≤ wrong + 1) (H : Heap) (h : live H p = some ⟨true, 80, [.int .i64 d, .int .i64 b, .bool true, .int .i64 since, .int .i64 wrong, .int .i64 V, .bool f0, .bool jo, .bool js]⟩) : K 19 [.pointer (some ⟨p, 0, none⟩), .bool true, .agg ⟨[.int .i64 0, .bool true]⟩] H
    = some (.tuple ⟨[]⟩, H.set p (some ⟨true, 80, [.int .i64 d, .int .i64 b, .bool true, .int .i64 S, .int .i64 (wrong + 1), .int .i64 0, .bool true, .bool jo, .bool js]⟩) ++ [some ⟨true, 36, [.int .i64 0, .bool true]⟩]) := by
  have hp := live_lt h
  have ws := wrap64 (since + 1) (by omega) (by omega)
  have ww := wrap64 (wrong + 1) (by omega) (by omega)
  have hw : ¬ 1000 < wrong + 1 := by omega
  have d0 : ¬ d ≤ 0 := by omega
  have d0' : 0 < d := by omega
  have b0 : ¬ b ≤ 0 := by omega
  have es := fun (d b s w V : Int) (t f jo js o c : Bool) (X : Heap) => set_f p d b s w V t f jo js o c H X hp
  simp only [K] at es
  have hSd : ¬ S < d := by omega
  rw [K, D_eq p19 _ _ (Nat.le_of_ble_eq_true rfl)]
  simp (maxDischargeDepth := 8) only [r19, b19, c19_0, c19_1, c19_2, c19_3, c19_4, c19_5, c19_6, c19_7, c19_8, c19_9, c19_10, h, hp, ws, ww, hw, d0, d0', b0, hS, h0, h1, es, hSd, okChain_all, RUN, Ed, knd, kndR, resV, binInt, mnmxV, mnmx2, fillL, unV, lenV, extractV, partV, loadAt, Nat.reduceAdd, Nat.reduceBEq, Nat.reduceEqDiff, Nat.reduceLT, Nat.reduceLeDiff, Nat.reduceMul, Nat.reduceSub, reduceIte, Int.reduceEq, Int.reduceNe, Int.reduceLT, Int.reduceLE, Int.reduceAdd, Int.reduceSub, Int.reduceMul, Int.reduceNeg, Int.reduceMod, Int.reduceDiv, Int.reduceTMod, Int.reduceTDiv, Int.reduceToNat]
theorem step_f22 (p : Nat) (d b since wrong S : Int) (jo js : Bool) (V : Int) (f0 : Bool) (d1 : 1 ≤ d) (b1 : 1 ≤ b) (s0 : -2 ≤ since) (s1 : since ≤ 1000) (w0 : 0 ≤ wrong) (w1 : wrong ≤ 999) (hS : (if 1000 < since + 1 then 1000 else since + 1) = S) (h0 : ¬ d ≤ S) (H : Heap) (h : live H p = some ⟨true, 80, [.int .i64 d, .int .i64 b, .bool true, .int .i64 since, .int .i64 wrong, .int .i64 V, .bool f0, .bool jo, .bool js]⟩) : K 19 [.pointer (some ⟨p, 0, none⟩), .bool true, .agg ⟨[.int .i64 0, .bool true]⟩] H
    = some (.tuple ⟨[]⟩, H.set p (some ⟨true, 80, [.int .i64 d, .int .i64 b, .bool true, .int .i64 S, .int .i64 (0), .int .i64 0, .bool true, .bool jo, .bool js]⟩) ++ [some ⟨true, 36, [.int .i64 0, .bool true]⟩]) := by
  have hp := live_lt h
  have ws := wrap64 (since + 1) (by omega) (by omega)
  have ww := wrap64 (wrong + 1) (by omega) (by omega)
  have hw : ¬ 1000 < wrong + 1 := by omega
  have d0 : ¬ d ≤ 0 := by omega
  have d0' : 0 < d := by omega
  have b0 : ¬ b ≤ 0 := by omega
  have es := fun (d b s w V : Int) (t f jo js o c : Bool) (X : Heap) => set_f p d b s w V t f jo js o c H X hp
  simp only [K] at es
  have hSd : S < d := by omega
  rw [K, D_eq p19 _ _ (Nat.le_of_ble_eq_true rfl)]
  simp (maxDischargeDepth := 8) only [r19, b19, c19_0, c19_1, c19_2, c19_3, c19_4, c19_5, c19_6, c19_7, c19_8, c19_9, c19_10, h, hp, ws, ww, hw, d0, d0', b0, hS, h0, es, hSd, okChain_all, RUN, Ed, knd, kndR, resV, binInt, mnmxV, mnmx2, fillL, unV, lenV, extractV, partV, loadAt, Nat.reduceAdd, Nat.reduceBEq, Nat.reduceEqDiff, Nat.reduceLT, Nat.reduceLeDiff, Nat.reduceMul, Nat.reduceSub, reduceIte, Int.reduceEq, Int.reduceNe, Int.reduceLT, Int.reduceLE, Int.reduceAdd, Int.reduceSub, Int.reduceMul, Int.reduceNeg, Int.reduceMod, Int.reduceDiv, Int.reduceTMod, Int.reduceTDiv, Int.reduceToNat]
theorem step_f23 (p : Nat) (d b since wrong S : Int) (jo js : Bool) (V : Int) (f0 : Bool) (d1 : 1 ≤ d) (b1 : 1 ≤ b) (s0 : -2 ≤ since) (s1 : since ≤ 1000) (w0 : 0 ≤ wrong) (w1 : wrong ≤ 999) (hS : (if 1000 < since + 1 then 1000 else since + 1) = S)  (H : Heap) (h : live H p = some ⟨true, 80, [.int .i64 d, .int .i64 b, .bool true, .int .i64 since, .int .i64 wrong, .int .i64 V, .bool f0, .bool jo, .bool js]⟩) : K 19 [.pointer (some ⟨p, 0, none⟩), .bool true, .agg ⟨[.int .i64 1, .bool true]⟩] H
    = some (.tuple ⟨[]⟩, H.set p (some ⟨true, 80, [.int .i64 d, .int .i64 b, .bool true, .int .i64 S, .int .i64 (0), .int .i64 1, .bool true, .bool jo, .bool js]⟩) ++ [some ⟨true, 36, [.int .i64 1, .bool true]⟩]) := by
  have hp := live_lt h
  have ws := wrap64 (since + 1) (by omega) (by omega)
  have ww := wrap64 (wrong + 1) (by omega) (by omega)
  have hw : ¬ 1000 < wrong + 1 := by omega
  have d0 : ¬ d ≤ 0 := by omega
  have d0' : 0 < d := by omega
  have b0 : ¬ b ≤ 0 := by omega
  have es := fun (d b s w V : Int) (t f jo js o c : Bool) (X : Heap) => set_f p d b s w V t f jo js o c H X hp
  simp only [K] at es
  rw [K, D_eq p19 _ _ (Nat.le_of_ble_eq_true rfl)]
  simp (maxDischargeDepth := 8) only [r19, b19, c19_0, c19_1, c19_2, c19_3, c19_4, c19_5, c19_6, c19_7, c19_8, c19_9, c19_10, h, hp, ws, ww, hw, d0, d0', b0, hS, es, okChain_all, RUN, Ed, knd, kndR, resV, binInt, mnmxV, mnmx2, fillL, unV, lenV, extractV, partV, loadAt, Nat.reduceAdd, Nat.reduceBEq, Nat.reduceEqDiff, Nat.reduceLT, Nat.reduceLeDiff, Nat.reduceMul, Nat.reduceSub, reduceIte, Int.reduceEq, Int.reduceNe, Int.reduceLT, Int.reduceLE, Int.reduceAdd, Int.reduceSub, Int.reduceMul, Int.reduceNeg, Int.reduceMod, Int.reduceDiv, Int.reduceTMod, Int.reduceTDiv, Int.reduceToNat]
theorem stepR_f0 (p : Nat) (d b since wrong S : Int) (jo js : Bool) (seen f0 r0 : Bool) (d1 : 1 ≤ d) (b1 : 1 ≤ b) (s0 : -2 ≤ since) (s1 : since ≤ 1000) (w0 : 0 ≤ wrong) (w1 : wrong ≤ 999) (hS : (if 1000 < since + 1 then 1000 else since + 1) = S) (h0 : b ≤ wrong) (H : Heap) (h : live H p = some ⟨true, 31, [.int .i64 d, .int .i64 b, .bool false, .int .i64 since, .int .i64 wrong, .bool seen, .bool f0, .bool r0, .bool jo, .bool js]⟩) : K 21 [.pointer (some ⟨p, 0, none⟩), .bool false, .agg ⟨[.int .i64 0, .bool false]⟩] H
    = some (.tuple ⟨[]⟩, H.set p (some ⟨true, 31, [.int .i64 d, .int .i64 b, .bool false, .int .i64 S, .int .i64 (wrong), .bool true, .bool false, .bool false, .bool jo, .bool js]⟩) ++ [some ⟨true, 36, [.int .i64 0, .bool false]⟩]) := by
  have hp := live_lt h
  have ws := wrap64 (since + 1) (by omega) (by omega)
  have ww := wrap64 (wrong + 1) (by omega) (by omega)
  have hw : ¬ 1000 < wrong + 1 := by omega
  have d0 : ¬ d ≤ 0 := by omega
  have d0' : 0 < d := by omega
  have b0 : ¬ b ≤ 0 := by omega
  rw [K, D_eq p21 _ _ (Nat.le_of_ble_eq_true rfl)]
  simp (maxDischargeDepth := 8) only [r21, b21, c21_0, c21_1, c21_2, c21_3, c21_4, c21_5, c21_6, c21_7, c21_8, c21_9, c21_10, c21_11, c21_12, c21_13, c21_14, c21_15, c21_16, h, hp, ws, ww, hw, d0, d0', b0, hS, h0, okChain_all, RUN, Ed, knd, kndR, resV, binInt, mnmxV, mnmx2, fillL, unV, lenV, extractV, partV, loadAt, Nat.reduceAdd, Nat.reduceBEq, Nat.reduceEqDiff, Nat.reduceLT, Nat.reduceLeDiff, Nat.reduceMul, Nat.reduceSub, reduceIte, Int.reduceEq, Int.reduceNe, Int.reduceLT, Int.reduceLE, Int.reduceAdd, Int.reduceSub, Int.reduceMul, Int.reduceNeg, Int.reduceMod, Int.reduceDiv, Int.reduceTMod, Int.reduceTDiv, Int.reduceToNat]
theorem stepR_f1 (p : Nat) (d b since wrong S : Int) (jo js : Bool) (seen f0 r0 : Bool) (d1 : 1 ≤ d) (b1 : 1 ≤ b) (s0 : -2 ≤ since) (s1 : since ≤ 1000) (w0 : 0 ≤ wrong) (w1 : wrong ≤ 999) (hS : (if 1000 < since + 1 then 1000 else since + 1) = S) (h0 : ¬ b ≤ wrong) (H : Heap) (h : live H p = some ⟨true, 31, [.int .i64 d, .int .i64 b, .bool false, .int .i64 since, .int .i64 wrong, .bool seen, .bool f0, .bool r0, .bool jo, .bool js]⟩) : K 21 [.pointer (some ⟨p, 0, none⟩), .bool false, .agg ⟨[.int .i64 0, .bool false]⟩] H
    = some (.tuple ⟨[]⟩, H.set p (some ⟨true, 31, [.int .i64 d, .int .i64 b, .bool false, .int .i64 S, .int .i64 (wrong), .bool true, .bool false, .bool false, .bool jo, .bool js]⟩) ++ [some ⟨true, 36, [.int .i64 0, .bool false]⟩]) := by
  have hp := live_lt h
  have ws := wrap64 (since + 1) (by omega) (by omega)
  have ww := wrap64 (wrong + 1) (by omega) (by omega)
  have hw : ¬ 1000 < wrong + 1 := by omega
  have d0 : ¬ d ≤ 0 := by omega
  have d0' : 0 < d := by omega
  have b0 : ¬ b ≤ 0 := by omega
  rw [K, D_eq p21 _ _ (Nat.le_of_ble_eq_true rfl)]
  simp (maxDischargeDepth := 8) only [r21, b21, c21_0, c21_1, c21_2, c21_3, c21_4, c21_5, c21_6, c21_7, c21_8, c21_9, c21_10, c21_11, c21_12, c21_13, c21_14, c21_15, c21_16, h, hp, ws, ww, hw, d0, d0', b0, hS, h0, okChain_all, RUN, Ed, knd, kndR, resV, binInt, mnmxV, mnmx2, fillL, unV, lenV, extractV, partV, loadAt, Nat.reduceAdd, Nat.reduceBEq, Nat.reduceEqDiff, Nat.reduceLT, Nat.reduceLeDiff, Nat.reduceMul, Nat.reduceSub, reduceIte, Int.reduceEq, Int.reduceNe, Int.reduceLT, Int.reduceLE, Int.reduceAdd, Int.reduceSub, Int.reduceMul, Int.reduceNeg, Int.reduceMod, Int.reduceDiv, Int.reduceTMod, Int.reduceTDiv, Int.reduceToNat]
theorem stepR_f2 (p : Nat) (d b since wrong S : Int) (jo js : Bool) (seen f0 r0 : Bool) (d1 : 1 ≤ d) (b1 : 1 ≤ b) (s0 : -2 ≤ since) (s1 : since ≤ 1000) (w0 : 0 ≤ wrong) (w1 : wrong ≤ 999) (hS : (if 1000 < since + 1 then 1000 else since + 1) = S) (h0 : b ≤ wrong) (H : Heap) (h : live H p = some ⟨true, 31, [.int .i64 d, .int .i64 b, .bool false, .int .i64 since, .int .i64 wrong, .bool seen, .bool f0, .bool r0, .bool jo, .bool js]⟩) : K 21 [.pointer (some ⟨p, 0, none⟩), .bool false, .agg ⟨[.int .i64 1, .bool false]⟩] H
    = some (.tuple ⟨[]⟩, H.set p (some ⟨true, 31, [.int .i64 d, .int .i64 b, .bool false, .int .i64 S, .int .i64 (wrong), .bool true, .bool false, .bool true, .bool jo, .bool js]⟩) ++ [some ⟨true, 36, [.int .i64 1, .bool false]⟩]) := by
  have hp := live_lt h
  have ws := wrap64 (since + 1) (by omega) (by omega)
  have ww := wrap64 (wrong + 1) (by omega) (by omega)
  have hw : ¬ 1000 < wrong + 1 := by omega
  have d0 : ¬ d ≤ 0 := by omega
  have d0' : 0 < d := by omega
  have b0 : ¬ b ≤ 0 := by omega
  rw [K, D_eq p21 _ _ (Nat.le_of_ble_eq_true rfl)]
  simp (maxDischargeDepth := 8) only [r21, b21, c21_0, c21_1, c21_2, c21_3, c21_4, c21_5, c21_6, c21_7, c21_8, c21_9, c21_10, c21_11, c21_12, c21_13, c21_14, c21_15, c21_16, h, hp, ws, ww, hw, d0, d0', b0, hS, h0, okChain_all, RUN, Ed, knd, kndR, resV, binInt, mnmxV, mnmx2, fillL, unV, lenV, extractV, partV, loadAt, Nat.reduceAdd, Nat.reduceBEq, Nat.reduceEqDiff, Nat.reduceLT, Nat.reduceLeDiff, Nat.reduceMul, Nat.reduceSub, reduceIte, Int.reduceEq, Int.reduceNe, Int.reduceLT, Int.reduceLE, Int.reduceAdd, Int.reduceSub, Int.reduceMul, Int.reduceNeg, Int.reduceMod, Int.reduceDiv, Int.reduceTMod, Int.reduceTDiv, Int.reduceToNat]
theorem stepR_f3 (p : Nat) (d b since wrong S : Int) (jo js : Bool) (seen f0 r0 : Bool) (d1 : 1 ≤ d) (b1 : 1 ≤ b) (s0 : -2 ≤ since) (s1 : since ≤ 1000) (w0 : 0 ≤ wrong) (w1 : wrong ≤ 999) (hS : (if 1000 < since + 1 then 1000 else since + 1) = S) (h0 : ¬ b ≤ wrong) (H : Heap) (h : live H p = some ⟨true, 31, [.int .i64 d, .int .i64 b, .bool false, .int .i64 since, .int .i64 wrong, .bool seen, .bool f0, .bool r0, .bool jo, .bool js]⟩) : K 21 [.pointer (some ⟨p, 0, none⟩), .bool false, .agg ⟨[.int .i64 1, .bool false]⟩] H
    = some (.tuple ⟨[]⟩, H.set p (some ⟨true, 31, [.int .i64 d, .int .i64 b, .bool false, .int .i64 S, .int .i64 (wrong), .bool true, .bool false, .bool true, .bool jo, .bool js]⟩) ++ [some ⟨true, 36, [.int .i64 1, .bool false]⟩]) := by
  have hp := live_lt h
  have ws := wrap64 (since + 1) (by omega) (by omega)
  have ww := wrap64 (wrong + 1) (by omega) (by omega)
  have hw : ¬ 1000 < wrong + 1 := by omega
  have d0 : ¬ d ≤ 0 := by omega
  have d0' : 0 < d := by omega
  have b0 : ¬ b ≤ 0 := by omega
  rw [K, D_eq p21 _ _ (Nat.le_of_ble_eq_true rfl)]
  simp (maxDischargeDepth := 8) only [r21, b21, c21_0, c21_1, c21_2, c21_3, c21_4, c21_5, c21_6, c21_7, c21_8, c21_9, c21_10, c21_11, c21_12, c21_13, c21_14, c21_15, c21_16, h, hp, ws, ww, hw, d0, d0', b0, hS, h0, okChain_all, RUN, Ed, knd, kndR, resV, binInt, mnmxV, mnmx2, fillL, unV, lenV, extractV, partV, loadAt, Nat.reduceAdd, Nat.reduceBEq, Nat.reduceEqDiff, Nat.reduceLT, Nat.reduceLeDiff, Nat.reduceMul, Nat.reduceSub, reduceIte, Int.reduceEq, Int.reduceNe, Int.reduceLT, Int.reduceLE, Int.reduceAdd, Int.reduceSub, Int.reduceMul, Int.reduceNeg, Int.reduceMod, Int.reduceDiv, Int.reduceTMod, Int.reduceTDiv, Int.reduceToNat]
theorem stepR_f4 (p : Nat) (d b since wrong S : Int) (jo js : Bool) (seen f0 r0 : Bool) (d1 : 1 ≤ d) (b1 : 1 ≤ b) (s0 : -2 ≤ since) (s1 : since ≤ 1000) (w0 : 0 ≤ wrong) (w1 : wrong ≤ 999) (hS : (if 1000 < since + 1 then 1000 else since + 1) = S)  (H : Heap) (h : live H p = some ⟨true, 31, [.int .i64 d, .int .i64 b, .bool false, .int .i64 since, .int .i64 wrong, .bool seen, .bool f0, .bool r0, .bool jo, .bool js]⟩) : K 21 [.pointer (some ⟨p, 0, none⟩), .bool false, .agg ⟨[.int .i64 0, .bool true]⟩] H
    = some (.tuple ⟨[]⟩, H.set p (some ⟨true, 31, [.int .i64 d, .int .i64 b, .bool false, .int .i64 S, .int .i64 (0), .bool true, .bool true, .bool false, .bool jo, .bool js]⟩) ++ [some ⟨true, 36, [.int .i64 0, .bool true]⟩]) := by
  have hp := live_lt h
  have ws := wrap64 (since + 1) (by omega) (by omega)
  have ww := wrap64 (wrong + 1) (by omega) (by omega)
  have hw : ¬ 1000 < wrong + 1 := by omega
  have d0 : ¬ d ≤ 0 := by omega
  have d0' : 0 < d := by omega
  have b0 : ¬ b ≤ 0 := by omega
  rw [K, D_eq p21 _ _ (Nat.le_of_ble_eq_true rfl)]
  simp (maxDischargeDepth := 8) only [r21, b21, c21_0, c21_1, c21_2, c21_3, c21_4, c21_5, c21_6, c21_7, c21_8, c21_9, c21_10, c21_11, c21_12, c21_13, c21_14, c21_15, c21_16, h, hp, ws, ww, hw, d0, d0', b0, hS, okChain_all, RUN, Ed, knd, kndR, resV, binInt, mnmxV, mnmx2, fillL, unV, lenV, extractV, partV, loadAt, Nat.reduceAdd, Nat.reduceBEq, Nat.reduceEqDiff, Nat.reduceLT, Nat.reduceLeDiff, Nat.reduceMul, Nat.reduceSub, reduceIte, Int.reduceEq, Int.reduceNe, Int.reduceLT, Int.reduceLE, Int.reduceAdd, Int.reduceSub, Int.reduceMul, Int.reduceNeg, Int.reduceMod, Int.reduceDiv, Int.reduceTMod, Int.reduceTDiv, Int.reduceToNat]
theorem stepR_f5 (p : Nat) (d b since wrong S : Int) (jo js : Bool) (seen f0 r0 : Bool) (d1 : 1 ≤ d) (b1 : 1 ≤ b) (s0 : -2 ≤ since) (s1 : since ≤ 1000) (w0 : 0 ≤ wrong) (w1 : wrong ≤ 999) (hS : (if 1000 < since + 1 then 1000 else since + 1) = S) (h0 : d ≤ S) (h1 : b ≤ wrong + 1) (H : Heap) (h : live H p = some ⟨true, 31, [.int .i64 d, .int .i64 b, .bool false, .int .i64 since, .int .i64 wrong, .bool seen, .bool f0, .bool r0, .bool jo, .bool js]⟩) : K 21 [.pointer (some ⟨p, 0, none⟩), .bool false, .agg ⟨[.int .i64 1, .bool true]⟩] H
    = some (.tuple ⟨[]⟩, H.set p (some ⟨true, 31, [.int .i64 d, .int .i64 b, .bool false, .int .i64 S, .int .i64 (wrong + 1), .bool true, .bool true, .bool true, .bool jo, .bool true]⟩) ++ [some ⟨true, 36, [.int .i64 1, .bool true]⟩]) := by
  have hp := live_lt h
  have ws := wrap64 (since + 1) (by omega) (by omega)
  have ww := wrap64 (wrong + 1) (by omega) (by omega)
  have hw : ¬ 1000 < wrong + 1 := by omega
  have d0 : ¬ d ≤ 0 := by omega
  have d0' : 0 < d := by omega
  have b0 : ¬ b ≤ 0 := by omega
  have hSd : ¬ S < d := by omega
  rw [K, D_eq p21 _ _ (Nat.le_of_ble_eq_true rfl)]
  simp (maxDischargeDepth := 8) only [r21, b21, c21_0, c21_1, c21_2, c21_3, c21_4, c21_5, c21_6, c21_7, c21_8, c21_9, c21_10, c21_11, c21_12, c21_13, c21_14, c21_15, c21_16, h, hp, ws, ww, hw, d0, d0', b0, hS, h0, h1, hSd, okChain_all, RUN, Ed, knd, kndR, resV, binInt, mnmxV, mnmx2, fillL, unV, lenV, extractV, partV, loadAt, Nat.reduceAdd, Nat.reduceBEq, Nat.reduceEqDiff, Nat.reduceLT, Nat.reduceLeDiff, Nat.reduceMul, Nat.reduceSub, reduceIte, Int.reduceEq, Int.reduceNe, Int.reduceLT, Int.reduceLE, Int.reduceAdd, Int.reduceSub, Int.reduceMul, Int.reduceNeg, Int.reduceMod, Int.reduceDiv, Int.reduceTMod, Int.reduceTDiv, Int.reduceToNat]
theorem stepR_f6 (p : Nat) (d b since wrong S : Int) (jo js : Bool) (seen f0 r0 : Bool) (d1 : 1 ≤ d) (b1 : 1 ≤ b) (s0 : -2 ≤ since) (s1 : since ≤ 1000) (w0 : 0 ≤ wrong) (w1 : wrong ≤ 999) (hS : (if 1000 < since + 1 then 1000 else since + 1) = S) (h0 : d ≤ S) (h1 : ¬ b ≤ wrong + 1) (H : Heap) (h : live H p = some ⟨true, 31, [.int .i64 d, .int .i64 b, .bool false, .int .i64 since, .int .i64 wrong, .bool seen, .bool f0, .bool r0, .bool jo, .bool js]⟩) : K 21 [.pointer (some ⟨p, 0, none⟩), .bool false, .agg ⟨[.int .i64 1, .bool true]⟩] H
    = some (.tuple ⟨[]⟩, H.set p (some ⟨true, 31, [.int .i64 d, .int .i64 b, .bool false, .int .i64 S, .int .i64 (wrong + 1), .bool true, .bool true, .bool true, .bool jo, .bool js]⟩) ++ [some ⟨true, 36, [.int .i64 1, .bool true]⟩]) := by
  have hp := live_lt h
  have ws := wrap64 (since + 1) (by omega) (by omega)
  have ww := wrap64 (wrong + 1) (by omega) (by omega)
  have hw : ¬ 1000 < wrong + 1 := by omega
  have d0 : ¬ d ≤ 0 := by omega
  have d0' : 0 < d := by omega
  have b0 : ¬ b ≤ 0 := by omega
  have hSd : ¬ S < d := by omega
  rw [K, D_eq p21 _ _ (Nat.le_of_ble_eq_true rfl)]
  simp (maxDischargeDepth := 8) only [r21, b21, c21_0, c21_1, c21_2, c21_3, c21_4, c21_5, c21_6, c21_7, c21_8, c21_9, c21_10, c21_11, c21_12, c21_13, c21_14, c21_15, c21_16, h, hp, ws, ww, hw, d0, d0', b0, hS, h0, h1, hSd, okChain_all, RUN, Ed, knd, kndR, resV, binInt, mnmxV, mnmx2, fillL, unV, lenV, extractV, partV, loadAt, Nat.reduceAdd, Nat.reduceBEq, Nat.reduceEqDiff, Nat.reduceLT, Nat.reduceLeDiff, Nat.reduceMul, Nat.reduceSub, reduceIte, Int.reduceEq, Int.reduceNe, Int.reduceLT, Int.reduceLE, Int.reduceAdd, Int.reduceSub, Int.reduceMul, Int.reduceNeg, Int.reduceMod, Int.reduceDiv, Int.reduceTMod, Int.reduceTDiv, Int.reduceToNat]
theorem stepR_f7 (p : Nat) (d b since wrong S : Int) (jo js : Bool) (seen f0 r0 : Bool) (d1 : 1 ≤ d) (b1 : 1 ≤ b) (s0 : -2 ≤ since) (s1 : since ≤ 1000) (w0 : 0 ≤ wrong) (w1 : wrong ≤ 999) (hS : (if 1000 < since + 1 then 1000 else since + 1) = S) (h0 : ¬ d ≤ S) (H : Heap) (h : live H p = some ⟨true, 31, [.int .i64 d, .int .i64 b, .bool false, .int .i64 since, .int .i64 wrong, .bool seen, .bool f0, .bool r0, .bool jo, .bool js]⟩) : K 21 [.pointer (some ⟨p, 0, none⟩), .bool false, .agg ⟨[.int .i64 1, .bool true]⟩] H
    = some (.tuple ⟨[]⟩, H.set p (some ⟨true, 31, [.int .i64 d, .int .i64 b, .bool false, .int .i64 S, .int .i64 (0), .bool true, .bool true, .bool true, .bool jo, .bool js]⟩) ++ [some ⟨true, 36, [.int .i64 1, .bool true]⟩]) := by
  have hp := live_lt h
  have ws := wrap64 (since + 1) (by omega) (by omega)
  have ww := wrap64 (wrong + 1) (by omega) (by omega)
  have hw : ¬ 1000 < wrong + 1 := by omega
  have d0 : ¬ d ≤ 0 := by omega
  have d0' : 0 < d := by omega
  have b0 : ¬ b ≤ 0 := by omega
  have hSd : S < d := by omega
  rw [K, D_eq p21 _ _ (Nat.le_of_ble_eq_true rfl)]
  simp (maxDischargeDepth := 8) only [r21, b21, c21_0, c21_1, c21_2, c21_3, c21_4, c21_5, c21_6, c21_7, c21_8, c21_9, c21_10, c21_11, c21_12, c21_13, c21_14, c21_15, c21_16, h, hp, ws, ww, hw, d0, d0', b0, hS, h0, hSd, okChain_all, RUN, Ed, knd, kndR, resV, binInt, mnmxV, mnmx2, fillL, unV, lenV, extractV, partV, loadAt, Nat.reduceAdd, Nat.reduceBEq, Nat.reduceEqDiff, Nat.reduceLT, Nat.reduceLeDiff, Nat.reduceMul, Nat.reduceSub, reduceIte, Int.reduceEq, Int.reduceNe, Int.reduceLT, Int.reduceLE, Int.reduceAdd, Int.reduceSub, Int.reduceMul, Int.reduceNeg, Int.reduceMod, Int.reduceDiv, Int.reduceTMod, Int.reduceTDiv, Int.reduceToNat]
theorem stepR_f8 (p : Nat) (d b since wrong S : Int) (jo js : Bool) (seen f0 r0 : Bool) (d1 : 1 ≤ d) (b1 : 1 ≤ b) (s0 : -2 ≤ since) (s1 : since ≤ 1000) (w0 : 0 ≤ wrong) (w1 : wrong ≤ 999) (hS : (if 1000 < since + 1 then 1000 else since + 1) = S)  (H : Heap) (h : live H p = some ⟨true, 31, [.int .i64 d, .int .i64 b, .bool false, .int .i64 since, .int .i64 wrong, .bool seen, .bool f0, .bool r0, .bool jo, .bool js]⟩) : K 21 [.pointer (some ⟨p, 0, none⟩), .bool true, .agg ⟨[.int .i64 0, .bool false]⟩] H
    = some (.tuple ⟨[]⟩, H.set p (some ⟨true, 31, [.int .i64 d, .int .i64 b, .bool true, .int .i64 0, .int .i64 (0), .bool true, .bool false, .bool false, .bool jo, .bool js]⟩) ++ [some ⟨true, 36, [.int .i64 0, .bool false]⟩]) := by
  have hp := live_lt h
  have ws := wrap64 (since + 1) (by omega) (by omega)
  have ww := wrap64 (wrong + 1) (by omega) (by omega)
  have hw : ¬ 1000 < wrong + 1 := by omega
  have d0 : ¬ d ≤ 0 := by omega
  have d0' : 0 < d := by omega
  have b0 : ¬ b ≤ 0 := by omega
  rw [K, D_eq p21 _ _ (Nat.le_of_ble_eq_true rfl)]
  simp (maxDischargeDepth := 8) only [r21, b21, c21_0, c21_1, c21_2, c21_3, c21_4, c21_5, c21_6, c21_7, c21_8, c21_9, c21_10, c21_11, c21_12, c21_13, c21_14, c21_15, c21_16, h, hp, ws, ww, hw, d0, d0', b0, hS, okChain_all, RUN, Ed, knd, kndR, resV, binInt, mnmxV, mnmx2, fillL, unV, lenV, extractV, partV, loadAt, Nat.reduceAdd, Nat.reduceBEq, Nat.reduceEqDiff, Nat.reduceLT, Nat.reduceLeDiff, Nat.reduceMul, Nat.reduceSub, reduceIte, Int.reduceEq, Int.reduceNe, Int.reduceLT, Int.reduceLE, Int.reduceAdd, Int.reduceSub, Int.reduceMul, Int.reduceNeg, Int.reduceMod, Int.reduceDiv, Int.reduceTMod, Int.reduceTDiv, Int.reduceToNat]
theorem stepR_f9 (p : Nat) (d b since wrong S : Int) (jo js : Bool) (seen f0 r0 : Bool) (d1 : 1 ≤ d) (b1 : 1 ≤ b) (s0 : -2 ≤ since) (s1 : since ≤ 1000) (w0 : 0 ≤ wrong) (w1 : wrong ≤ 999) (hS : (if 1000 < since + 1 then 1000 else since + 1) = S)  (H : Heap) (h : live H p = some ⟨true, 31, [.int .i64 d, .int .i64 b, .bool false, .int .i64 since, .int .i64 wrong, .bool seen, .bool f0, .bool r0, .bool jo, .bool js]⟩) : K 21 [.pointer (some ⟨p, 0, none⟩), .bool true, .agg ⟨[.int .i64 1, .bool false]⟩] H
    = some (.tuple ⟨[]⟩, H.set p (some ⟨true, 31, [.int .i64 d, .int .i64 b, .bool true, .int .i64 0, .int .i64 (0), .bool true, .bool false, .bool true, .bool jo, .bool js]⟩) ++ [some ⟨true, 36, [.int .i64 1, .bool false]⟩]) := by
  have hp := live_lt h
  have ws := wrap64 (since + 1) (by omega) (by omega)
  have ww := wrap64 (wrong + 1) (by omega) (by omega)
  have hw : ¬ 1000 < wrong + 1 := by omega
  have d0 : ¬ d ≤ 0 := by omega
  have d0' : 0 < d := by omega
  have b0 : ¬ b ≤ 0 := by omega
  rw [K, D_eq p21 _ _ (Nat.le_of_ble_eq_true rfl)]
  simp (maxDischargeDepth := 8) only [r21, b21, c21_0, c21_1, c21_2, c21_3, c21_4, c21_5, c21_6, c21_7, c21_8, c21_9, c21_10, c21_11, c21_12, c21_13, c21_14, c21_15, c21_16, h, hp, ws, ww, hw, d0, d0', b0, hS, okChain_all, RUN, Ed, knd, kndR, resV, binInt, mnmxV, mnmx2, fillL, unV, lenV, extractV, partV, loadAt, Nat.reduceAdd, Nat.reduceBEq, Nat.reduceEqDiff, Nat.reduceLT, Nat.reduceLeDiff, Nat.reduceMul, Nat.reduceSub, reduceIte, Int.reduceEq, Int.reduceNe, Int.reduceLT, Int.reduceLE, Int.reduceAdd, Int.reduceSub, Int.reduceMul, Int.reduceNeg, Int.reduceMod, Int.reduceDiv, Int.reduceTMod, Int.reduceTDiv, Int.reduceToNat]
theorem stepR_f10 (p : Nat) (d b since wrong S : Int) (jo js : Bool) (seen f0 r0 : Bool) (d1 : 1 ≤ d) (b1 : 1 ≤ b) (s0 : -2 ≤ since) (s1 : since ≤ 1000) (w0 : 0 ≤ wrong) (w1 : wrong ≤ 999) (hS : (if 1000 < since + 1 then 1000 else since + 1) = S)  (H : Heap) (h : live H p = some ⟨true, 31, [.int .i64 d, .int .i64 b, .bool false, .int .i64 since, .int .i64 wrong, .bool seen, .bool f0, .bool r0, .bool jo, .bool js]⟩) : K 21 [.pointer (some ⟨p, 0, none⟩), .bool true, .agg ⟨[.int .i64 0, .bool true]⟩] H
    = some (.tuple ⟨[]⟩, H.set p (some ⟨true, 31, [.int .i64 d, .int .i64 b, .bool true, .int .i64 0, .int .i64 (0), .bool true, .bool true, .bool false, .bool jo, .bool js]⟩) ++ [some ⟨true, 36, [.int .i64 0, .bool true]⟩]) := by
  have hp := live_lt h
  have ws := wrap64 (since + 1) (by omega) (by omega)
  have ww := wrap64 (wrong + 1) (by omega) (by omega)
  have hw : ¬ 1000 < wrong + 1 := by omega
  have d0 : ¬ d ≤ 0 := by omega
  have d0' : 0 < d := by omega
  have b0 : ¬ b ≤ 0 := by omega
  rw [K, D_eq p21 _ _ (Nat.le_of_ble_eq_true rfl)]
  simp (maxDischargeDepth := 8) only [r21, b21, c21_0, c21_1, c21_2, c21_3, c21_4, c21_5, c21_6, c21_7, c21_8, c21_9, c21_10, c21_11, c21_12, c21_13, c21_14, c21_15, c21_16, h, hp, ws, ww, hw, d0, d0', b0, hS, okChain_all, RUN, Ed, knd, kndR, resV, binInt, mnmxV, mnmx2, fillL, unV, lenV, extractV, partV, loadAt, Nat.reduceAdd, Nat.reduceBEq, Nat.reduceEqDiff, Nat.reduceLT, Nat.reduceLeDiff, Nat.reduceMul, Nat.reduceSub, reduceIte, Int.reduceEq, Int.reduceNe, Int.reduceLT, Int.reduceLE, Int.reduceAdd, Int.reduceSub, Int.reduceMul, Int.reduceNeg, Int.reduceMod, Int.reduceDiv, Int.reduceTMod, Int.reduceTDiv, Int.reduceToNat]
theorem stepR_f11 (p : Nat) (d b since wrong S : Int) (jo js : Bool) (seen f0 r0 : Bool) (d1 : 1 ≤ d) (b1 : 1 ≤ b) (s0 : -2 ≤ since) (s1 : since ≤ 1000) (w0 : 0 ≤ wrong) (w1 : wrong ≤ 999) (hS : (if 1000 < since + 1 then 1000 else since + 1) = S)  (H : Heap) (h : live H p = some ⟨true, 31, [.int .i64 d, .int .i64 b, .bool false, .int .i64 since, .int .i64 wrong, .bool seen, .bool f0, .bool r0, .bool jo, .bool js]⟩) : K 21 [.pointer (some ⟨p, 0, none⟩), .bool true, .agg ⟨[.int .i64 1, .bool true]⟩] H
    = some (.tuple ⟨[]⟩, H.set p (some ⟨true, 31, [.int .i64 d, .int .i64 b, .bool true, .int .i64 0, .int .i64 (0), .bool true, .bool true, .bool true, .bool jo, .bool js]⟩) ++ [some ⟨true, 36, [.int .i64 1, .bool true]⟩]) := by
  have hp := live_lt h
  have ws := wrap64 (since + 1) (by omega) (by omega)
  have ww := wrap64 (wrong + 1) (by omega) (by omega)
  have hw : ¬ 1000 < wrong + 1 := by omega
  have d0 : ¬ d ≤ 0 := by omega
  have d0' : 0 < d := by omega
  have b0 : ¬ b ≤ 0 := by omega
  rw [K, D_eq p21 _ _ (Nat.le_of_ble_eq_true rfl)]
  simp (maxDischargeDepth := 8) only [r21, b21, c21_0, c21_1, c21_2, c21_3, c21_4, c21_5, c21_6, c21_7, c21_8, c21_9, c21_10, c21_11, c21_12, c21_13, c21_14, c21_15, c21_16, h, hp, ws, ww, hw, d0, d0', b0, hS, okChain_all, RUN, Ed, knd, kndR, resV, binInt, mnmxV, mnmx2, fillL, unV, lenV, extractV, partV, loadAt, Nat.reduceAdd, Nat.reduceBEq, Nat.reduceEqDiff, Nat.reduceLT, Nat.reduceLeDiff, Nat.reduceMul, Nat.reduceSub, reduceIte, Int.reduceEq, Int.reduceNe, Int.reduceLT, Int.reduceLE, Int.reduceAdd, Int.reduceSub, Int.reduceMul, Int.reduceNeg, Int.reduceMod, Int.reduceDiv, Int.reduceTMod, Int.reduceTDiv, Int.reduceToNat]
theorem stepR_f12 (p : Nat) (d b since wrong S : Int) (jo js : Bool) (seen f0 r0 : Bool) (d1 : 1 ≤ d) (b1 : 1 ≤ b) (s0 : -2 ≤ since) (s1 : since ≤ 1000) (w0 : 0 ≤ wrong) (w1 : wrong ≤ 999) (hS : (if 1000 < since + 1 then 1000 else since + 1) = S)  (H : Heap) (h : live H p = some ⟨true, 31, [.int .i64 d, .int .i64 b, .bool true, .int .i64 since, .int .i64 wrong, .bool seen, .bool f0, .bool r0, .bool jo, .bool js]⟩) : K 21 [.pointer (some ⟨p, 0, none⟩), .bool false, .agg ⟨[.int .i64 0, .bool false]⟩] H
    = some (.tuple ⟨[]⟩, H.set p (some ⟨true, 31, [.int .i64 d, .int .i64 b, .bool false, .int .i64 0, .int .i64 (0), .bool true, .bool false, .bool false, .bool jo, .bool js]⟩) ++ [some ⟨true, 36, [.int .i64 0, .bool false]⟩]) := by
  have hp := live_lt h
  have ws := wrap64 (since + 1) (by omega) (by omega)
  have ww := wrap64 (wrong + 1) (by omega) (by omega)
  have hw : ¬ 1000 < wrong + 1 := by omega
  have d0 : ¬ d ≤ 0 := by omega
  have d0' : 0 < d := by omega
  have b0 : ¬ b ≤ 0 := by omega
  rw [K, D_eq p21 _ _ (Nat.le_of_ble_eq_true rfl)]
  simp (maxDischargeDepth := 8) only [r21, b21, c21_0, c21_1, c21_2, c21_3, c21_4, c21_5, c21_6, c21_7, c21_8, c21_9, c21_10, c21_11, c21_12, c21_13, c21_14, c21_15, c21_16, h, hp, ws, ww, hw, d0, d0', b0, hS, okChain_all, RUN, Ed, knd, kndR, resV, binInt, mnmxV, mnmx2, fillL, unV, lenV, extractV, partV, loadAt, Nat.reduceAdd, Nat.reduceBEq, Nat.reduceEqDiff, Nat.reduceLT, Nat.reduceLeDiff, Nat.reduceMul, Nat.reduceSub, reduceIte, Int.reduceEq, Int.reduceNe, Int.reduceLT, Int.reduceLE, Int.reduceAdd, Int.reduceSub, Int.reduceMul, Int.reduceNeg, Int.reduceMod, Int.reduceDiv, Int.reduceTMod, Int.reduceTDiv, Int.reduceToNat]
theorem stepR_f13 (p : Nat) (d b since wrong S : Int) (jo js : Bool) (seen f0 r0 : Bool) (d1 : 1 ≤ d) (b1 : 1 ≤ b) (s0 : -2 ≤ since) (s1 : since ≤ 1000) (w0 : 0 ≤ wrong) (w1 : wrong ≤ 999) (hS : (if 1000 < since + 1 then 1000 else since + 1) = S)  (H : Heap) (h : live H p = some ⟨true, 31, [.int .i64 d, .int .i64 b, .bool true, .int .i64 since, .int .i64 wrong, .bool seen, .bool f0, .bool r0, .bool jo, .bool js]⟩) : K 21 [.pointer (some ⟨p, 0, none⟩), .bool false, .agg ⟨[.int .i64 1, .bool false]⟩] H
    = some (.tuple ⟨[]⟩, H.set p (some ⟨true, 31, [.int .i64 d, .int .i64 b, .bool false, .int .i64 0, .int .i64 (0), .bool true, .bool false, .bool true, .bool jo, .bool js]⟩) ++ [some ⟨true, 36, [.int .i64 1, .bool false]⟩]) := by
  have hp := live_lt h
  have ws := wrap64 (since + 1) (by omega) (by omega)
  have ww := wrap64 (wrong + 1) (by omega) (by omega)
  have hw : ¬ 1000 < wrong + 1 := by omega
  have d0 : ¬ d ≤ 0 := by omega
  have d0' : 0 < d := by omega
  have b0 : ¬ b ≤ 0 := by omega
  rw [K, D_eq p21 _ _ (Nat.le_of_ble_eq_true rfl)]
  simp (maxDischargeDepth := 8) only [r21, b21, c21_0, c21_1, c21_2, c21_3, c21_4, c21_5, c21_6, c21_7, c21_8, c21_9, c21_10, c21_11, c21_12, c21_13, c21_14, c21_15, c21_16, h, hp, ws, ww, hw, d0, d0', b0, hS, okChain_all, RUN, Ed, knd, kndR, resV, binInt, mnmxV, mnmx2, fillL, unV, lenV, extractV, partV, loadAt, Nat.reduceAdd, Nat.reduceBEq, Nat.reduceEqDiff, Nat.reduceLT, Nat.reduceLeDiff, Nat.reduceMul, Nat.reduceSub, reduceIte, Int.reduceEq, Int.reduceNe, Int.reduceLT, Int.reduceLE, Int.reduceAdd, Int.reduceSub, Int.reduceMul, Int.reduceNeg, Int.reduceMod, Int.reduceDiv, Int.reduceTMod, Int.reduceTDiv, Int.reduceToNat]
theorem stepR_f14 (p : Nat) (d b since wrong S : Int) (jo js : Bool) (seen f0 r0 : Bool) (d1 : 1 ≤ d) (b1 : 1 ≤ b) (s0 : -2 ≤ since) (s1 : since ≤ 1000) (w0 : 0 ≤ wrong) (w1 : wrong ≤ 999) (hS : (if 1000 < since + 1 then 1000 else since + 1) = S)  (H : Heap) (h : live H p = some ⟨true, 31, [.int .i64 d, .int .i64 b, .bool true, .int .i64 since, .int .i64 wrong, .bool seen, .bool f0, .bool r0, .bool jo, .bool js]⟩) : K 21 [.pointer (some ⟨p, 0, none⟩), .bool false, .agg ⟨[.int .i64 0, .bool true]⟩] H
    = some (.tuple ⟨[]⟩, H.set p (some ⟨true, 31, [.int .i64 d, .int .i64 b, .bool false, .int .i64 0, .int .i64 (0), .bool true, .bool true, .bool false, .bool jo, .bool js]⟩) ++ [some ⟨true, 36, [.int .i64 0, .bool true]⟩]) := by
  have hp := live_lt h
  have ws := wrap64 (since + 1) (by omega) (by omega)
  have ww := wrap64 (wrong + 1) (by omega) (by omega)
  have hw : ¬ 1000 < wrong + 1 := by omega
  have d0 : ¬ d ≤ 0 := by omega
  have d0' : 0 < d := by omega
  have b0 : ¬ b ≤ 0 := by omega
  rw [K, D_eq p21 _ _ (Nat.le_of_ble_eq_true rfl)]
  simp (maxDischargeDepth := 8) only [r21, b21, c21_0, c21_1, c21_2, c21_3, c21_4, c21_5, c21_6, c21_7, c21_8, c21_9, c21_10, c21_11, c21_12, c21_13, c21_14, c21_15, c21_16, h, hp, ws, ww, hw, d0, d0', b0, hS, okChain_all, RUN, Ed, knd, kndR, resV, binInt, mnmxV, mnmx2, fillL, unV, lenV, extractV, partV, loadAt, Nat.reduceAdd, Nat.reduceBEq, Nat.reduceEqDiff, Nat.reduceLT, Nat.reduceLeDiff, Nat.reduceMul, Nat.reduceSub, reduceIte, Int.reduceEq, Int.reduceNe, Int.reduceLT, Int.reduceLE, Int.reduceAdd, Int.reduceSub, Int.reduceMul, Int.reduceNeg, Int.reduceMod, Int.reduceDiv, Int.reduceTMod, Int.reduceTDiv, Int.reduceToNat]
theorem stepR_f15 (p : Nat) (d b since wrong S : Int) (jo js : Bool) (seen f0 r0 : Bool) (d1 : 1 ≤ d) (b1 : 1 ≤ b) (s0 : -2 ≤ since) (s1 : since ≤ 1000) (w0 : 0 ≤ wrong) (w1 : wrong ≤ 999) (hS : (if 1000 < since + 1 then 1000 else since + 1) = S)  (H : Heap) (h : live H p = some ⟨true, 31, [.int .i64 d, .int .i64 b, .bool true, .int .i64 since, .int .i64 wrong, .bool seen, .bool f0, .bool r0, .bool jo, .bool js]⟩) : K 21 [.pointer (some ⟨p, 0, none⟩), .bool false, .agg ⟨[.int .i64 1, .bool true]⟩] H
    = some (.tuple ⟨[]⟩, H.set p (some ⟨true, 31, [.int .i64 d, .int .i64 b, .bool false, .int .i64 0, .int .i64 (0), .bool true, .bool true, .bool true, .bool jo, .bool js]⟩) ++ [some ⟨true, 36, [.int .i64 1, .bool true]⟩]) := by
  have hp := live_lt h
  have ws := wrap64 (since + 1) (by omega) (by omega)
  have ww := wrap64 (wrong + 1) (by omega) (by omega)
  have hw : ¬ 1000 < wrong + 1 := by omega
  have d0 : ¬ d ≤ 0 := by omega
  have d0' : 0 < d := by omega
  have b0 : ¬ b ≤ 0 := by omega
  rw [K, D_eq p21 _ _ (Nat.le_of_ble_eq_true rfl)]
  simp (maxDischargeDepth := 8) only [r21, b21, c21_0, c21_1, c21_2, c21_3, c21_4, c21_5, c21_6, c21_7, c21_8, c21_9, c21_10, c21_11, c21_12, c21_13, c21_14, c21_15, c21_16, h, hp, ws, ww, hw, d0, d0', b0, hS, okChain_all, RUN, Ed, knd, kndR, resV, binInt, mnmxV, mnmx2, fillL, unV, lenV, extractV, partV, loadAt, Nat.reduceAdd, Nat.reduceBEq, Nat.reduceEqDiff, Nat.reduceLT, Nat.reduceLeDiff, Nat.reduceMul, Nat.reduceSub, reduceIte, Int.reduceEq, Int.reduceNe, Int.reduceLT, Int.reduceLE, Int.reduceAdd, Int.reduceSub, Int.reduceMul, Int.reduceNeg, Int.reduceMod, Int.reduceDiv, Int.reduceTMod, Int.reduceTDiv, Int.reduceToNat]
theorem stepR_f16 (p : Nat) (d b since wrong S : Int) (jo js : Bool) (seen f0 r0 : Bool) (d1 : 1 ≤ d) (b1 : 1 ≤ b) (s0 : -2 ≤ since) (s1 : since ≤ 1000) (w0 : 0 ≤ wrong) (w1 : wrong ≤ 999) (hS : (if 1000 < since + 1 then 1000 else since + 1) = S) (h0 : b ≤ wrong) (H : Heap) (h : live H p = some ⟨true, 31, [.int .i64 d, .int .i64 b, .bool true, .int .i64 since, .int .i64 wrong, .bool seen, .bool f0, .bool r0, .bool jo, .bool js]⟩) : K 21 [.pointer (some ⟨p, 0, none⟩), .bool true, .agg ⟨[.int .i64 0, .bool false]⟩] H
    = some (.tuple ⟨[]⟩, H.set p (some ⟨true, 31, [.int .i64 d, .int .i64 b, .bool true, .int .i64 S, .int .i64 (wrong), .bool true, .bool false, .bool false, .bool jo, .bool js]⟩) ++ [some ⟨true, 36, [.int .i64 0, .bool false]⟩]) := by
  have hp := live_lt h
  have ws := wrap64 (since + 1) (by omega) (by omega)
  have ww := wrap64 (wrong + 1) (by omega) (by omega)
  have hw : ¬ 1000 < wrong + 1 := by omega
  have d0 : ¬ d ≤ 0 := by omega
  have d0' : 0 < d := by omega
  have b0 : ¬ b ≤ 0 := by omega
  rw [K, D_eq p21 _ _ (Nat.le_of_ble_eq_true rfl)]
  simp (maxDischargeDepth := 8) only [r21, b21, c21_0, c21_1, c21_2, c21_3, c21_4, c21_5, c21_6, c21_7, c21_8, c21_9, c21_10, c21_11, c21_12, c21_13, c21_14, c21_15, c21_16, h, hp, ws, ww, hw, d0, d0', b0, hS, h0, okChain_all, RUN, Ed, knd, kndR, resV, binInt, mnmxV, mnmx2, fillL, unV, lenV, extractV, partV, loadAt, Nat.reduceAdd, Nat.reduceBEq, Nat.reduceEqDiff, Nat.reduceLT, Nat.reduceLeDiff, Nat.reduceMul, Nat.reduceSub, reduceIte, Int.reduceEq, Int.reduceNe, Int.reduceLT, Int.reduceLE, Int.reduceAdd, Int.reduceSub, Int.reduceMul, Int.reduceNeg, Int.reduceMod, Int.reduceDiv, Int.reduceTMod, Int.reduceTDiv, Int.reduceToNat]
theorem stepR_f17 (p : Nat) (d b since wrong S : Int) (jo js : Bool) (seen f0 r0 : Bool) (d1 : 1 ≤ d) (b1 : 1 ≤ b) (s0 : -2 ≤ since) (s1 : since ≤ 1000) (w0 : 0 ≤ wrong) (w1 : wrong ≤ 999) (hS : (if 1000 < since + 1 then 1000 else since + 1) = S) (h0 : ¬ b ≤ wrong) (H : Heap) (h : live H p = some ⟨true, 31, [.int .i64 d, .int .i64 b, .bool true, .int .i64 since, .int .i64 wrong, .bool seen, .bool f0, .bool r0, .bool jo, .bool js]⟩) : K 21 [.pointer (some ⟨p, 0, none⟩), .bool true, .agg ⟨[.int .i64 0, .bool false]⟩] H
    = some (.tuple ⟨[]⟩, H.set p (some ⟨true, 31, [.int .i64 d, .int .i64 b, .bool true, .int .i64 S, .int .i64 (wrong), .bool true, .bool false, .bool false, .bool jo, .bool js]⟩) ++ [some ⟨true, 36, [.int .i64 0, .bool false]⟩]) := by
  have hp := live_lt h
  have ws := wrap64 (since + 1) (by omega) (by omega)
  have ww := wrap64 (wrong + 1) (by omega) (by omega)
  have hw : ¬ 1000 < wrong + 1 := by omega
  have d0 : ¬ d ≤ 0 := by omega
  have d0' : 0 < d := by omega
  have b0 : ¬ b ≤ 0 := by omega
  rw [K, D_eq p21 _ _ (Nat.le_of_ble_eq_true rfl)]
  simp (maxDischargeDepth := 8) only [r21, b21, c21_0, c21_1, c21_2, c21_3, c21_4, c21_5, c21_6, c21_7, c21_8, c21_9, c21_10, c21_11, c21_12, c21_13, c21_14, c21_15, c21_16, h, hp, ws, ww, hw, d0, d0', b0, hS, h0, okChain_all, RUN, Ed, knd, kndR, resV, binInt, mnmxV, mnmx2, fillL, unV, lenV, extractV, partV, loadAt, Nat.reduceAdd, Nat.reduceBEq, Nat.reduceEqDiff, Nat.reduceLT, Nat.reduceLeDiff, Nat.reduceMul, Nat.reduceSub, reduceIte, Int.reduceEq, Int.reduceNe, Int.reduceLT, Int.reduceLE, Int.reduceAdd, Int.reduceSub, Int.reduceMul, Int.reduceNeg, Int.reduceMod, Int.reduceDiv, Int.reduceTMod, Int.reduceTDiv, Int.reduceToNat]
theorem stepR_f18 (p : Nat) (d b since wrong S : Int) (jo js : Bool) (seen f0 r0 : Bool) (d1 : 1 ≤ d) (b1 : 1 ≤ b) (s0 : -2 ≤ since) (s1 : since ≤ 1000) (w0 : 0 ≤ wrong) (w1 : wrong ≤ 999) (hS : (if 1000 < since + 1 then 1000 else since + 1) = S) (h0 : b ≤ wrong) (H : Heap) (h : live H p = some ⟨true, 31, [.int .i64 d, .int .i64 b, .bool true, .int .i64 since, .int .i64 wrong, .bool seen, .bool f0, .bool r0, .bool jo, .bool js]⟩) : K 21 [.pointer (some ⟨p, 0, none⟩), .bool true, .agg ⟨[.int .i64 1, .bool false]⟩] H
    = some (.tuple ⟨[]⟩, H.set p (some ⟨true, 31, [.int .i64 d, .int .i64 b, .bool true, .int .i64 S, .int .i64 (wrong), .bool true, .bool false, .bool true, .bool jo, .bool js]⟩) ++ [some ⟨true, 36, [.int .i64 1, .bool false]⟩]) := by
  have hp := live_lt h
  have ws := wrap64 (since + 1) (by omega) (by omega)
  have ww := wrap64 (wrong + 1) (by omega) (by omega)
  have hw : ¬ 1000 < wrong + 1 := by omega
  have d0 : ¬ d ≤ 0 := by omega
  have d0' : 0 < d := by omega
  have b0 : ¬ b ≤ 0 := by omega
  rw [K, D_eq p21 _ _ (Nat.le_of_ble_eq_true rfl)]
  simp (maxDischargeDepth := 8) only [r21, b21, c21_0, c21_1, c21_2, c21_3, c21_4, c21_5, c21_6, c21_7, c21_8, c21_9, c21_10, c21_11, c21_12, c21_13, c21_14, c21_15, c21_16, h, hp, ws, ww, hw, d0, d0', b0, hS, h0, okChain_all, RUN, Ed, knd, kndR, resV, binInt, mnmxV, mnmx2, fillL, unV, lenV, extractV, partV, loadAt, Nat.reduceAdd, Nat.reduceBEq, Nat.reduceEqDiff, Nat.reduceLT, Nat.reduceLeDiff, Nat.reduceMul, Nat.reduceSub, reduceIte, Int.reduceEq, Int.reduceNe, Int.reduceLT, Int.reduceLE, Int.reduceAdd, Int.reduceSub, Int.reduceMul, Int.reduceNeg, Int.reduceMod, Int.reduceDiv, Int.reduceTMod, Int.reduceTDiv, Int.reduceToNat]
theorem stepR_f19 (p : Nat) (d b since wrong S : Int) (jo js : Bool) (seen f0 r0 : Bool) (d1 : 1 ≤ d) (b1 : 1 ≤ b) (s0 : -2 ≤ since) (s1 : since ≤ 1000) (w0 : 0 ≤ wrong) (w1 : wrong ≤ 999) (hS : (if 1000 < since + 1 then 1000 else since + 1) = S) (h0 : ¬ b ≤ wrong) (H : Heap) (h : live H p = some ⟨true, 31, [.int .i64 d, .int .i64 b, .bool true, .int .i64 since, .int .i64 wrong, .bool seen, .bool f0, .bool r0, .bool jo, .bool js]⟩) : K 21 [.pointer (some ⟨p, 0, none⟩), .bool true, .agg ⟨[.int .i64 1, .bool false]⟩] H
    = some (.tuple ⟨[]⟩, H.set p (some ⟨true, 31, [.int .i64 d, .int .i64 b, .bool true, .int .i64 S, .int .i64 (wrong), .bool true, .bool false, .bool true, .bool jo, .bool js]⟩) ++ [some ⟨true, 36, [.int .i64 1, .bool false]⟩]) := by
  have hp := live_lt h
  have ws := wrap64 (since + 1) (by omega) (by omega)
  have ww := wrap64 (wrong + 1) (by omega) (by omega)
  have hw : ¬ 1000 < wrong + 1 := by omega
  have d0 : ¬ d ≤ 0 := by omega
  have d0' : 0 < d := by omega
  have b0 : ¬ b ≤ 0 := by omega
  rw [K, D_eq p21 _ _ (Nat.le_of_ble_eq_true rfl)]
  simp (maxDischargeDepth := 8) only [r21, b21, c21_0, c21_1, c21_2, c21_3, c21_4, c21_5, c21_6, c21_7, c21_8, c21_9, c21_10, c21_11, c21_12, c21_13, c21_14, c21_15, c21_16, h, hp, ws, ww, hw, d0, d0', b0, hS, h0, okChain_all, RUN, Ed, knd, kndR, resV, binInt, mnmxV, mnmx2, fillL, unV, lenV, extractV, partV, loadAt, Nat.reduceAdd, Nat.reduceBEq, Nat.reduceEqDiff, Nat.reduceLT, Nat.reduceLeDiff, Nat.reduceMul, Nat.reduceSub, reduceIte, Int.reduceEq, Int.reduceNe, Int.reduceLT, Int.reduceLE, Int.reduceAdd, Int.reduceSub, Int.reduceMul, Int.reduceNeg, Int.reduceMod, Int.reduceDiv, Int.reduceTMod, Int.reduceTDiv, Int.reduceToNat]
theorem stepR_f20 (p : Nat) (d b since wrong S : Int) (jo js : Bool) (seen f0 r0 : Bool) (d1 : 1 ≤ d) (b1 : 1 ≤ b) (s0 : -2 ≤ since) (s1 : since ≤ 1000) (w0 : 0 ≤ wrong) (w1 : wrong ≤ 999) (hS : (if 1000 < since + 1 then 1000 else since + 1) = S) (h0 : d ≤ S) (h1 : b ≤ wrong + 1) (H : Heap) (h : live H p = some ⟨true, 31, [.int .i64 d, .int .i64 b, .bool true, .int .i64 since, .int .i64 wrong, .bool seen, .bool f0, .bool r0, .bool jo, .bool js]⟩) : K 21 [.pointer (some ⟨p, 0, none⟩), .bool true, .agg ⟨[.int .i64 0, .bool true]⟩] H
    = some (.tuple ⟨[]⟩, H.set p (some ⟨true, 31, [.int .i64 d, .int .i64 b, .bool true, .int .i64 S, .int .i64 (wrong + 1), .bool true, .bool true, .bool false, .bool true, .bool js]⟩) ++ [some ⟨true, 36, [.int .i64 0, .bool true]⟩]) := by
  have hp := live_lt h
  have ws := wrap64 (since + 1) (by omega) (by omega)
  have ww := wrap64 (wrong + 1) (by omega) (by omega)
  have hw : ¬ 1000 < wrong + 1 := by omega
  have d0 : ¬ d ≤ 0 := by omega
  have d0' : 0 < d := by omega
  have b0 : ¬ b ≤ 0 := by omega
  have hSd : ¬ S < d := by omega
  rw [K, D_eq p21 _ _ (Nat.le_of_ble_eq_true rfl)]
  simp (maxDischargeDepth := 8) only [r21, b21, c21_0, c21_1, c21_2, c21_3, c21_4, c21_5, c21_6, c21_7, c21_8, c21_9, c21_10, c21_11, c21_12, c21_13, c21_14, c21_15, c21_16, h, hp, ws, ww, hw, d0, d0', b0, hS, h0, h1, hSd, okChain_all, RUN, Ed, knd, kndR, resV, binInt, mnmxV, mnmx2, fillL, unV, lenV, extractV, partV, loadAt, Nat.reduceAdd, Nat.reduceBEq, Nat.reduceEqDiff, Nat.reduceLT, Nat.reduceLeDiff, Nat.reduceMul, Nat.reduceSub, reduceIte, Int.reduceEq, Int.reduceNe, Int.reduceLT, Int.reduceLE, Int.reduceAdd, Int.reduceSub, Int.reduceMul, Int.reduceNeg, Int.reduceMod, Int.reduceDiv, Int.reduceTMod, Int.reduceTDiv, Int.reduceToNat]
theorem stepR_f21 (p : Nat) (d b since wrong S : Int) (jo js : Bool) (seen f0 r0 : Bool) (d1 : 1 ≤ d) (b1 : 1 ≤ b) (s0 : -2 ≤ since) (s1 : since ≤ 1000) (w0 : 0 ≤ wrong) (w1 : wrong ≤ 999) (hS : (if 1000 < since + 1 then 1000 else since + 1) = S) (h0 : d ≤ S) (h1 : ¬ b ≤ wrong + 1) (H : Heap) (h : live H p = some ⟨true, 31, [.int .i64 d, .int .i64 b, .bool true, .int .i64 since, .int .i64 wrong, .bool seen, .bool f0, .bool r0, .bool jo, .bool js]⟩) : K 21 [.pointer (some ⟨p, 0, none⟩), .bool true, .agg ⟨[.int .i64 0, .bool true]⟩] H
    = some (.tuple ⟨[]⟩, H.set p (some ⟨true, 31, [.int .i64 d, .int .i64 b, .bool true, .int .i64 S, .int .i64 (wrong + 1), .bool true, .bool true, .bool false, .bool jo, .bool js]⟩) ++ [some ⟨true, 36, [.int .i64 0, .bool true]⟩]) := by
  have hp := live_lt h
  have ws := wrap64 (since + 1) (by omega) (by omega)
  have ww := wrap64 (wrong + 1) (by omega) (by omega)
  have hw : ¬ 1000 < wrong + 1 := by omega
  have d0 : ¬ d ≤ 0 := by omega
  have d0' : 0 < d := by omega
  have b0 : ¬ b ≤ 0 := by omega
  have hSd : ¬ S < d := by omega
  rw [K, D_eq p21 _ _ (Nat.le_of_ble_eq_true rfl)]
  simp (maxDischargeDepth := 8) only [r21, b21, c21_0, c21_1, c21_2, c21_3, c21_4, c21_5, c21_6, c21_7, c21_8, c21_9, c21_10, c21_11, c21_12, c21_13, c21_14, c21_15, c21_16, h, hp, ws, ww, hw, d0, d0', b0, hS, h0, h1, hSd, okChain_all, RUN, Ed, knd, kndR, resV, binInt, mnmxV, mnmx2, fillL, unV, lenV, extractV, partV, loadAt, Nat.reduceAdd, Nat.reduceBEq, Nat.reduceEqDiff, Nat.reduceLT, Nat.reduceLeDiff, Nat.reduceMul, Nat.reduceSub, reduceIte, Int.reduceEq, Int.reduceNe, Int.reduceLT, Int.reduceLE, Int.reduceAdd, Int.reduceSub, Int.reduceMul, Int.reduceNeg, Int.reduceMod, Int.reduceDiv, Int.reduceTMod, Int.reduceTDiv, Int.reduceToNat]
theorem stepR_f22 (p : Nat) (d b since wrong S : Int) (jo js : Bool) (seen f0 r0 : Bool) (d1 : 1 ≤ d) (b1 : 1 ≤ b) (s0 : -2 ≤ since) (s1 : since ≤ 1000) (w0 : 0 ≤ wrong) (w1 : wrong ≤ 999) (hS : (if 1000 < since + 1 then 1000 else since + 1) = S) (h0 : ¬ d ≤ S) (H : Heap) (h : live H p = some ⟨true, 31, [.int .i64 d, .int .i64 b, .bool true, .int .i64 since, .int .i64 wrong, .bool seen, .bool f0, .bool r0, .bool jo, .bool js]⟩) : K 21 [.pointer (some ⟨p, 0, none⟩), .bool true, .agg ⟨[.int .i64 0, .bool true]⟩] H
    = some (.tuple ⟨[]⟩, H.set p (some ⟨true, 31, [.int .i64 d, .int .i64 b, .bool true, .int .i64 S, .int .i64 (0), .bool true, .bool true, .bool false, .bool jo, .bool js]⟩) ++ [some ⟨true, 36, [.int .i64 0, .bool true]⟩]) := by
  have hp := live_lt h
  have ws := wrap64 (since + 1) (by omega) (by omega)
  have ww := wrap64 (wrong + 1) (by omega) (by omega)
  have hw : ¬ 1000 < wrong + 1 := by omega
  have d0 : ¬ d ≤ 0 := by omega
  have d0' : 0 < d := by omega
  have b0 : ¬ b ≤ 0 := by omega
  have hSd : S < d := by omega
  rw [K, D_eq p21 _ _ (Nat.le_of_ble_eq_true rfl)]
  simp (maxDischargeDepth := 8) only [r21, b21, c21_0, c21_1, c21_2, c21_3, c21_4, c21_5, c21_6, c21_7, c21_8, c21_9, c21_10, c21_11, c21_12, c21_13, c21_14, c21_15, c21_16, h, hp, ws, ww, hw, d0, d0', b0, hS, h0, hSd, okChain_all, RUN, Ed, knd, kndR, resV, binInt, mnmxV, mnmx2, fillL, unV, lenV, extractV, partV, loadAt, Nat.reduceAdd, Nat.reduceBEq, Nat.reduceEqDiff, Nat.reduceLT, Nat.reduceLeDiff, Nat.reduceMul, Nat.reduceSub, reduceIte, Int.reduceEq, Int.reduceNe, Int.reduceLT, Int.reduceLE, Int.reduceAdd, Int.reduceSub, Int.reduceMul, Int.reduceNeg, Int.reduceMod, Int.reduceDiv, Int.reduceTMod, Int.reduceTDiv, Int.reduceToNat]
theorem stepR_f23 (p : Nat) (d b since wrong S : Int) (jo js : Bool) (seen f0 r0 : Bool) (d1 : 1 ≤ d) (b1 : 1 ≤ b) (s0 : -2 ≤ since) (s1 : since ≤ 1000) (w0 : 0 ≤ wrong) (w1 : wrong ≤ 999) (hS : (if 1000 < since + 1 then 1000 else since + 1) = S)  (H : Heap) (h : live H p = some ⟨true, 31, [.int .i64 d, .int .i64 b, .bool true, .int .i64 since, .int .i64 wrong, .bool seen, .bool f0, .bool r0, .bool jo, .bool js]⟩) : K 21 [.pointer (some ⟨p, 0, none⟩), .bool true, .agg ⟨[.int .i64 1, .bool true]⟩] H
    = some (.tuple ⟨[]⟩, H.set p (some ⟨true, 31, [.int .i64 d, .int .i64 b, .bool true, .int .i64 S, .int .i64 (0), .bool true, .bool true, .bool true, .bool jo, .bool js]⟩) ++ [some ⟨true, 36, [.int .i64 1, .bool true]⟩]) := by
  have hp := live_lt h
  have ws := wrap64 (since + 1) (by omega) (by omega)
  have ww := wrap64 (wrong + 1) (by omega) (by omega)
  have hw : ¬ 1000 < wrong + 1 := by omega
  have d0 : ¬ d ≤ 0 := by omega
  have d0' : 0 < d := by omega
  have b0 : ¬ b ≤ 0 := by omega
  rw [K, D_eq p21 _ _ (Nat.le_of_ble_eq_true rfl)]
  simp (maxDischargeDepth := 8) only [r21, b21, c21_0, c21_1, c21_2, c21_3, c21_4, c21_5, c21_6, c21_7, c21_8, c21_9, c21_10, c21_11, c21_12, c21_13, c21_14, c21_15, c21_16, h, hp, ws, ww, hw, d0, d0', b0, hS, okChain_all, RUN, Ed, knd, kndR, resV, binInt, mnmxV, mnmx2, fillL, unV, lenV, extractV, partV, loadAt, Nat.reduceAdd, Nat.reduceBEq, Nat.reduceEqDiff, Nat.reduceLT, Nat.reduceLeDiff, Nat.reduceMul, Nat.reduceSub, reduceIte, Int.reduceEq, Int.reduceNe, Int.reduceLT, Int.reduceLE, Int.reduceAdd, Int.reduceSub, Int.reduceMul, Int.reduceNeg, Int.reduceMod, Int.reduceDiv, Int.reduceTMod, Int.reduceTDiv, Int.reduceToNat]
theorem step_f_all (p : Nat) (x : CS) (n : Nat) (hn : n ≤ 999) (hx : CI x n) (cmd fresh rd : Bool) (H : Heap) (h : live H p = some ⟨true, 80, x.I⟩) : D Try.prog hints 19 [.pointer (some ⟨p, 0, none⟩), .bool cmd, .agg ⟨[.int .i64 (rv rd), .bool fresh]⟩] H = some (.tuple ⟨[]⟩, H.set p (some ⟨true, 80, (stp x cmd fresh rd).I⟩) ++ [some ⟨true, 36, [.int .i64 (rv rd), .bool fresh]⟩]) := by
  obtain ⟨d, b, told, since, wrong, f0, r0, jo, js⟩ := x
  obtain ⟨d1, b1, s0, s1, w0, w1, hj⟩ := hx
  simp only at d1 b1 s0 s1 w0 w1 hj
  obtain ⟨S, hS⟩ : ∃ S, (if 1000 < since + 1 then 1000 else since + 1) = S := ⟨_, rfl⟩
  have d0 : ¬ d ≤ 0 := by omega
  have b0 : ¬ b ≤ 0 := by omega
  have w9 : wrong ≤ 999 := by omega
  cases told <;> cases cmd <;> cases fresh <;> cases rd
  · by_cases h0 : b ≤ wrong
    · have e := step_f0 _ _ _ _ _ S _ _ _ _ d1 b1 s0 s1 w0 w9 hS h0 H h
      simp only [K] at e
      refine e.trans ?_
      simp [stp, sinceN, wrong0, wrongN, CS.I, CS.R, rv, hS, d0, b0, h0]
    · have e := step_f1 _ _ _ _ _ S _ _ _ _ d1 b1 s0 s1 w0 w9 hS h0 H h
      simp only [K] at e
      refine e.trans ?_
      simp [stp, sinceN, wrong0, wrongN, CS.I, CS.R, rv, hS, d0, b0, h0]
  · by_cases h0 : b ≤ wrong
    · have e := step_f2 _ _ _ _ _ S _ _ _ _ d1 b1 s0 s1 w0 w9 hS h0 H h
      simp only [K] at e
      refine e.trans ?_
      simp [stp, sinceN, wrong0, wrongN, CS.I, CS.R, rv, hS, d0, b0, h0]
    · have e := step_f3 _ _ _ _ _ S _ _ _ _ d1 b1 s0 s1 w0 w9 hS h0 H h
      simp only [K] at e
      refine e.trans ?_
      simp [stp, sinceN, wrong0, wrongN, CS.I, CS.R, rv, hS, d0, b0, h0]
  · have e := step_f4 _ _ _ _ _ S _ _ _ _ d1 b1 s0 s1 w0 w9 hS  H h
    simp only [K] at e
    refine e.trans ?_
    simp [stp, sinceN, wrong0, wrongN, CS.I, CS.R, rv, hS, d0, b0]
  · by_cases h0 : d ≤ S
    · by_cases h1 : b ≤ wrong + 1
      · have e := step_f5 _ _ _ _ _ S _ _ _ _ d1 b1 s0 s1 w0 w9 hS h0 h1 H h
        simp only [K] at e
        refine e.trans ?_
        simp [stp, sinceN, wrong0, wrongN, CS.I, CS.R, rv, hS, d0, b0, h0, h1]
      · have e := step_f6 _ _ _ _ _ S _ _ _ _ d1 b1 s0 s1 w0 w9 hS h0 h1 H h
        simp only [K] at e
        refine e.trans ?_
        simp [stp, sinceN, wrong0, wrongN, CS.I, CS.R, rv, hS, d0, b0, h0, h1]
    · have e := step_f7 _ _ _ _ _ S _ _ _ _ d1 b1 s0 s1 w0 w9 hS h0 H h
      simp only [K] at e
      refine e.trans ?_
      simp [stp, sinceN, wrong0, wrongN, CS.I, CS.R, rv, hS, d0, b0, h0]
  · have e := step_f8 _ _ _ _ _ S _ _ _ _ d1 b1 s0 s1 w0 w9 hS  H h
    simp only [K] at e
    refine e.trans ?_
    simp [stp, sinceN, wrong0, wrongN, CS.I, CS.R, rv, hS, d0, b0]
  · have e := step_f9 _ _ _ _ _ S _ _ _ _ d1 b1 s0 s1 w0 w9 hS  H h
    simp only [K] at e
    refine e.trans ?_
    simp [stp, sinceN, wrong0, wrongN, CS.I, CS.R, rv, hS, d0, b0]
  · have e := step_f10 _ _ _ _ _ S _ _ _ _ d1 b1 s0 s1 w0 w9 hS  H h
    simp only [K] at e
    refine e.trans ?_
    simp [stp, sinceN, wrong0, wrongN, CS.I, CS.R, rv, hS, d0, b0]
  · have e := step_f11 _ _ _ _ _ S _ _ _ _ d1 b1 s0 s1 w0 w9 hS  H h
    simp only [K] at e
    refine e.trans ?_
    simp [stp, sinceN, wrong0, wrongN, CS.I, CS.R, rv, hS, d0, b0]
  · have e := step_f12 _ _ _ _ _ S _ _ _ _ d1 b1 s0 s1 w0 w9 hS  H h
    simp only [K] at e
    refine e.trans ?_
    simp [stp, sinceN, wrong0, wrongN, CS.I, CS.R, rv, hS, d0, b0]
  · have e := step_f13 _ _ _ _ _ S _ _ _ _ d1 b1 s0 s1 w0 w9 hS  H h
    simp only [K] at e
    refine e.trans ?_
    simp [stp, sinceN, wrong0, wrongN, CS.I, CS.R, rv, hS, d0, b0]
  · have e := step_f14 _ _ _ _ _ S _ _ _ _ d1 b1 s0 s1 w0 w9 hS  H h
    simp only [K] at e
    refine e.trans ?_
    simp [stp, sinceN, wrong0, wrongN, CS.I, CS.R, rv, hS, d0, b0]
  · have e := step_f15 _ _ _ _ _ S _ _ _ _ d1 b1 s0 s1 w0 w9 hS  H h
    simp only [K] at e
    refine e.trans ?_
    simp [stp, sinceN, wrong0, wrongN, CS.I, CS.R, rv, hS, d0, b0]
  · by_cases h0 : b ≤ wrong
    · have e := step_f16 _ _ _ _ _ S _ _ _ _ d1 b1 s0 s1 w0 w9 hS h0 H h
      simp only [K] at e
      refine e.trans ?_
      simp [stp, sinceN, wrong0, wrongN, CS.I, CS.R, rv, hS, d0, b0, h0]
    · have e := step_f17 _ _ _ _ _ S _ _ _ _ d1 b1 s0 s1 w0 w9 hS h0 H h
      simp only [K] at e
      refine e.trans ?_
      simp [stp, sinceN, wrong0, wrongN, CS.I, CS.R, rv, hS, d0, b0, h0]
  · by_cases h0 : b ≤ wrong
    · have e := step_f18 _ _ _ _ _ S _ _ _ _ d1 b1 s0 s1 w0 w9 hS h0 H h
      simp only [K] at e
      refine e.trans ?_
      simp [stp, sinceN, wrong0, wrongN, CS.I, CS.R, rv, hS, d0, b0, h0]
    · have e := step_f19 _ _ _ _ _ S _ _ _ _ d1 b1 s0 s1 w0 w9 hS h0 H h
      simp only [K] at e
      refine e.trans ?_
      simp [stp, sinceN, wrong0, wrongN, CS.I, CS.R, rv, hS, d0, b0, h0]
  · by_cases h0 : d ≤ S
    · by_cases h1 : b ≤ wrong + 1
      · have e := step_f20 _ _ _ _ _ S _ _ _ _ d1 b1 s0 s1 w0 w9 hS h0 h1 H h
        simp only [K] at e
        refine e.trans ?_
        simp [stp, sinceN, wrong0, wrongN, CS.I, CS.R, rv, hS, d0, b0, h0, h1]
      · have e := step_f21 _ _ _ _ _ S _ _ _ _ d1 b1 s0 s1 w0 w9 hS h0 h1 H h
        simp only [K] at e
        refine e.trans ?_
        simp [stp, sinceN, wrong0, wrongN, CS.I, CS.R, rv, hS, d0, b0, h0, h1]
    · have e := step_f22 _ _ _ _ _ S _ _ _ _ d1 b1 s0 s1 w0 w9 hS h0 H h
      simp only [K] at e
      refine e.trans ?_
      simp [stp, sinceN, wrong0, wrongN, CS.I, CS.R, rv, hS, d0, b0, h0]
  · have e := step_f23 _ _ _ _ _ S _ _ _ _ d1 b1 s0 s1 w0 w9 hS  H h
    simp only [K] at e
    refine e.trans ?_
    simp [stp, sinceN, wrong0, wrongN, CS.I, CS.R, rv, hS, d0, b0]
theorem stepR_f_all (p : Nat) (x : CS) (n : Nat) (hn : n ≤ 999) (hx : CI x n) (seen : Bool) (cmd fresh rd : Bool) (H : Heap) (h : live H p = some ⟨true, 31, x.R seen⟩) : D Try.prog hints 21 [.pointer (some ⟨p, 0, none⟩), .bool cmd, .agg ⟨[.int .i64 (rv rd), .bool fresh]⟩] H = some (.tuple ⟨[]⟩, H.set p (some ⟨true, 31, (stp x cmd fresh rd).R true⟩) ++ [some ⟨true, 36, [.int .i64 (rv rd), .bool fresh]⟩]) := by
  obtain ⟨d, b, told, since, wrong, f0, r0, jo, js⟩ := x
  obtain ⟨d1, b1, s0, s1, w0, w1, hj⟩ := hx
  simp only at d1 b1 s0 s1 w0 w1 hj
  obtain ⟨S, hS⟩ : ∃ S, (if 1000 < since + 1 then 1000 else since + 1) = S := ⟨_, rfl⟩
  have d0 : ¬ d ≤ 0 := by omega
  have b0 : ¬ b ≤ 0 := by omega
  have w9 : wrong ≤ 999 := by omega
  cases told <;> cases cmd <;> cases fresh <;> cases rd
  · by_cases h0 : b ≤ wrong
    · have hj2 := hj h0
      simp at hj2
      subst hj2
      have e := stepR_f0 _ _ _ _ _ S _ _ _ _ _ d1 b1 s0 s1 w0 w9 hS h0 H h
      simp only [K] at e
      refine e.trans ?_
      simp [stp, sinceN, wrong0, wrongN, CS.I, CS.R, rv, hS, d0, b0, h0]
    · have e := stepR_f1 _ _ _ _ _ S _ _ _ _ _ d1 b1 s0 s1 w0 w9 hS h0 H h
      simp only [K] at e
      refine e.trans ?_
      simp [stp, sinceN, wrong0, wrongN, CS.I, CS.R, rv, hS, d0, b0, h0]
  · by_cases h0 : b ≤ wrong
    · have hj2 := hj h0
      simp at hj2
      subst hj2
      have e := stepR_f2 _ _ _ _ _ S _ _ _ _ _ d1 b1 s0 s1 w0 w9 hS h0 H h
      simp only [K] at e
      refine e.trans ?_
      simp [stp, sinceN, wrong0, wrongN, CS.I, CS.R, rv, hS, d0, b0, h0]
    · have e := stepR_f3 _ _ _ _ _ S _ _ _ _ _ d1 b1 s0 s1 w0 w9 hS h0 H h
      simp only [K] at e
      refine e.trans ?_
      simp [stp, sinceN, wrong0, wrongN, CS.I, CS.R, rv, hS, d0, b0, h0]
  · have e := stepR_f4 _ _ _ _ _ S _ _ _ _ _ d1 b1 s0 s1 w0 w9 hS  H h
    simp only [K] at e
    refine e.trans ?_
    simp [stp, sinceN, wrong0, wrongN, CS.I, CS.R, rv, hS, d0, b0]
  · by_cases h0 : d ≤ S
    · by_cases h1 : b ≤ wrong + 1
      · have e := stepR_f5 _ _ _ _ _ S _ _ _ _ _ d1 b1 s0 s1 w0 w9 hS h0 h1 H h
        simp only [K] at e
        refine e.trans ?_
        simp [stp, sinceN, wrong0, wrongN, CS.I, CS.R, rv, hS, d0, b0, h0, h1]
      · have e := stepR_f6 _ _ _ _ _ S _ _ _ _ _ d1 b1 s0 s1 w0 w9 hS h0 h1 H h
        simp only [K] at e
        refine e.trans ?_
        simp [stp, sinceN, wrong0, wrongN, CS.I, CS.R, rv, hS, d0, b0, h0, h1]
    · have e := stepR_f7 _ _ _ _ _ S _ _ _ _ _ d1 b1 s0 s1 w0 w9 hS h0 H h
      simp only [K] at e
      refine e.trans ?_
      simp [stp, sinceN, wrong0, wrongN, CS.I, CS.R, rv, hS, d0, b0, h0]
  · have e := stepR_f8 _ _ _ _ _ S _ _ _ _ _ d1 b1 s0 s1 w0 w9 hS  H h
    simp only [K] at e
    refine e.trans ?_
    simp [stp, sinceN, wrong0, wrongN, CS.I, CS.R, rv, hS, d0, b0]
  · have e := stepR_f9 _ _ _ _ _ S _ _ _ _ _ d1 b1 s0 s1 w0 w9 hS  H h
    simp only [K] at e
    refine e.trans ?_
    simp [stp, sinceN, wrong0, wrongN, CS.I, CS.R, rv, hS, d0, b0]
  · have e := stepR_f10 _ _ _ _ _ S _ _ _ _ _ d1 b1 s0 s1 w0 w9 hS  H h
    simp only [K] at e
    refine e.trans ?_
    simp [stp, sinceN, wrong0, wrongN, CS.I, CS.R, rv, hS, d0, b0]
  · have e := stepR_f11 _ _ _ _ _ S _ _ _ _ _ d1 b1 s0 s1 w0 w9 hS  H h
    simp only [K] at e
    refine e.trans ?_
    simp [stp, sinceN, wrong0, wrongN, CS.I, CS.R, rv, hS, d0, b0]
  · have e := stepR_f12 _ _ _ _ _ S _ _ _ _ _ d1 b1 s0 s1 w0 w9 hS  H h
    simp only [K] at e
    refine e.trans ?_
    simp [stp, sinceN, wrong0, wrongN, CS.I, CS.R, rv, hS, d0, b0]
  · have e := stepR_f13 _ _ _ _ _ S _ _ _ _ _ d1 b1 s0 s1 w0 w9 hS  H h
    simp only [K] at e
    refine e.trans ?_
    simp [stp, sinceN, wrong0, wrongN, CS.I, CS.R, rv, hS, d0, b0]
  · have e := stepR_f14 _ _ _ _ _ S _ _ _ _ _ d1 b1 s0 s1 w0 w9 hS  H h
    simp only [K] at e
    refine e.trans ?_
    simp [stp, sinceN, wrong0, wrongN, CS.I, CS.R, rv, hS, d0, b0]
  · have e := stepR_f15 _ _ _ _ _ S _ _ _ _ _ d1 b1 s0 s1 w0 w9 hS  H h
    simp only [K] at e
    refine e.trans ?_
    simp [stp, sinceN, wrong0, wrongN, CS.I, CS.R, rv, hS, d0, b0]
  · by_cases h0 : b ≤ wrong
    · have hj2 := hj h0
      simp at hj2
      subst hj2
      have e := stepR_f16 _ _ _ _ _ S _ _ _ _ _ d1 b1 s0 s1 w0 w9 hS h0 H h
      simp only [K] at e
      refine e.trans ?_
      simp [stp, sinceN, wrong0, wrongN, CS.I, CS.R, rv, hS, d0, b0, h0]
    · have e := stepR_f17 _ _ _ _ _ S _ _ _ _ _ d1 b1 s0 s1 w0 w9 hS h0 H h
      simp only [K] at e
      refine e.trans ?_
      simp [stp, sinceN, wrong0, wrongN, CS.I, CS.R, rv, hS, d0, b0, h0]
  · by_cases h0 : b ≤ wrong
    · have hj2 := hj h0
      simp at hj2
      subst hj2
      have e := stepR_f18 _ _ _ _ _ S _ _ _ _ _ d1 b1 s0 s1 w0 w9 hS h0 H h
      simp only [K] at e
      refine e.trans ?_
      simp [stp, sinceN, wrong0, wrongN, CS.I, CS.R, rv, hS, d0, b0, h0]
    · have e := stepR_f19 _ _ _ _ _ S _ _ _ _ _ d1 b1 s0 s1 w0 w9 hS h0 H h
      simp only [K] at e
      refine e.trans ?_
      simp [stp, sinceN, wrong0, wrongN, CS.I, CS.R, rv, hS, d0, b0, h0]
  · by_cases h0 : d ≤ S
    · by_cases h1 : b ≤ wrong + 1
      · have e := stepR_f20 _ _ _ _ _ S _ _ _ _ _ d1 b1 s0 s1 w0 w9 hS h0 h1 H h
        simp only [K] at e
        refine e.trans ?_
        simp [stp, sinceN, wrong0, wrongN, CS.I, CS.R, rv, hS, d0, b0, h0, h1]
      · have e := stepR_f21 _ _ _ _ _ S _ _ _ _ _ d1 b1 s0 s1 w0 w9 hS h0 h1 H h
        simp only [K] at e
        refine e.trans ?_
        simp [stp, sinceN, wrong0, wrongN, CS.I, CS.R, rv, hS, d0, b0, h0, h1]
    · have e := stepR_f22 _ _ _ _ _ S _ _ _ _ _ d1 b1 s0 s1 w0 w9 hS h0 H h
      simp only [K] at e
      refine e.trans ?_
      simp [stp, sinceN, wrong0, wrongN, CS.I, CS.R, rv, hS, d0, b0, h0]
  · have e := stepR_f23 _ _ _ _ _ S _ _ _ _ _ d1 b1 s0 s1 w0 w9 hS  H h
    simp only [K] at e
    refine e.trans ?_
    simp [stp, sinceN, wrong0, wrongN, CS.I, CS.R, rv, hS, d0, b0]
end Go.Proofs.Ytbamnfladjkkcaa.Sim
