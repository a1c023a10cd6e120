/- Numbers and their bounds, over the plain heap. -/
import Derived.Test.YtceildmghmigaaaDoorCon1
import Derived.Test.YtceildmghmigaaaDoorSim21
import Derived.Test.YtceildmghmigaaaDoorSim23
namespace Go.Proofs.YtceildmghmigaaaDoor.Sim
open Go
set_option linter.unusedSimpArgs false
set_option linter.unusedVariables false
structure Cf where
  d : Int
  b : Int
  s : Int
  p : Int
  h : Int
  cap : Int
  qmin : Int
  imax : Int
  trip : Int
  vmin : Int
  vdark : Int
  cmin : Int
  cmax : Int
  cgap : Int
  tmax : Int
  coil : Int
  ohm : Int
  sag : Int
  amp : Int
  drift : Int
  o : Value
  gen : Int
  bat : Int
  ext : Int
  eland : Int
  margin : Int
  f : Value
def Cf.L (c : Cf) : List Value := [.int .i64 c.d, .int .i64 c.b, .int .i64 c.s, .int .i64 c.p, .int .i64 c.h, .int .i64 c.cap, .int .i64 c.qmin, .int .i64 c.imax, .int .i64 c.trip, .int .i64 c.vmin, .int .i64 c.vdark, .int .i64 c.cmin, .int .i64 c.cmax, .int .i64 c.cgap, .int .i64 c.tmax, .int .i64 c.coil, .int .i64 c.ohm, .int .i64 c.sag, .int .i64 c.amp, .int .i64 c.drift, c.o, .int .i64 c.gen, .int .i64 c.bat, .int .i64 c.ext, .int .i64 c.eland, .int .i64 c.margin, c.f]
abbrev Bd := Int × Int × Int
def bds (c : Cf) : List Bd := [(c.d, 1, 100), (c.b, 1, 100), (c.s, 1, 100), (c.p, 1, 100), (c.h, 1, 100), (c.cap, 1, 1073741824), (c.qmin, 0, c.cap), (c.imax, 1, 500000), (c.trip, 1, 500000), (c.vmin, 1, 60000), (c.vdark, 1, 60000), (c.cmin, 0, 6000), (c.cmax, c.cmin, 6000), (c.cgap, 0, 6000), (c.tmax, -500, 1500), (c.coil, 1, 30000), (c.ohm, 0, 100000), (c.sag, 0, 60000), (c.amp, 0, 500000), (c.drift, 0, 1073741824)]
def eds (c : Cf) : List Bd := [(c.gen, 0, 1073741824), (c.bat, 0, 1073741824), (c.ext, 0, 1073741824), (c.eland, 0, 1073741824), (c.margin, c.imax, 1073741824)]
def bdL (x : Bd) : List Value := [.int .i64 x.1, .int .i64 x.2.1, .int .i64 x.2.2]
def bdC (l : List Bd) : List Value := (l.map bdL).flatten
theorem bdC_get : ∀ (l : List Bd) (j : Nat) (x : Bd), l[j]? = some x → j * 3 + 3 ≤ (bdC l).length ∧ ((bdC l).drop (j * 3)).take 3 = bdL x := by
  intro l
  induction l with
  | nil => intro j p h; simp at h
  | cons a l ih =>
    intro j p h
    have hc : bdC (a :: l) = bdL a ++ bdC l := by simp [bdC]
    have ha : (bdL a).length = 3 := rfl
    cases j with
    | zero =>
      rw [List.getElem?_cons_zero] at h
      injection h with h
      subst h
      rw [hc]
      refine ⟨by simp [ha], ?_⟩
      rw [Nat.zero_mul, List.drop_zero, List.take_left' ha]
    | succ j =>
      rw [List.getElem?_cons_succ] at h
      obtain ⟨h1, h2⟩ := ih j p h
      rw [hc]
      refine ⟨by simp [ha]; omega, ?_⟩
      rw [show (j + 1) * 3 = 3 + j * 3 by omega, ← List.drop_drop, List.drop_left' ha]
      exact h2
def T3 (H : Heap) (v : Value) (l : List Bd) : Prop := ∃ i e ow ty, v = .slice (some ⟨i, 0, none⟩) l.length e ∧ live H i = some ⟨ow, ty, bdC l⟩
theorem T3.ext {H G : Heap} {v : Value} {l : List Bd} (h : T3 H v l) (e : Ext H G) : T3 G v l := by
  obtain ⟨i, e', ow, ty, h1, h2⟩ := h
  exact ⟨i, e', ow, ty, h1, e.live h2⟩
theorem T3.len {H : Heap} {v : Value} {l : List Bd} (h : T3 H v l) : lenV false v = some (.int .i64 l.length) := by
  obtain ⟨i, e', ow, ty, rfl, h2⟩ := h
  rfl
theorem T3.idx {H : Heap} {v : Value} {l : List Bd} (h : T3 H v l) {j : Nat} {x : Bd} (hx : l[j]? = some x) : ∃ i, idxSV 3 v (.int .i64 j) = some (.pointer (some ⟨i, j * 3, none⟩)) ∧ ∃ ow ty cells, live H i = some ⟨ow, ty, cells⟩ ∧ j * 3 + 3 ≤ cells.length ∧ (cells.drop (j * 3)).take 3 = bdL x := by
  have hj : j < l.length := by
    rcases Nat.lt_or_ge j l.length with q | q
    · exact q
    · rw [List.getElem?_eq_none q] at hx; cases hx
  obtain ⟨i, e', ow, ty, rfl, h2⟩ := h
  obtain ⟨g1, g2⟩ := bdC_get l j x hx
  refine ⟨i, ?_, ow, ty, bdC l, h2, g1, g2⟩
  rw [idxS_s _ _ _ _ _ _ _ (by omega) (by omega)]
  simp
theorem has_f (lo hi x : Int) (H : Heap) : D Tryd.prog hints 34 [.agg ⟨[.int .i64 lo, .int .i64 hi]⟩, .int .i64 x] H = some (.bool (decide (lo ≤ x ∧ x ≤ hi)), H ++ [some ⟨true, 72, [.int .i64 lo, .int .i64 hi]⟩]) := by
  rw [D_eq p34 _ _ (Nat.le_of_ble_eq_true rfl)]
  by_cases h1 : lo ≤ x
  · have hd : decide (lo ≤ x ∧ x ≤ hi) = decide (x ≤ hi) := decide_eq_decide.2 (by simp [h1])
    rw [hd]
    simp (maxDischargeDepth := 8) only [r34, b34, c34_0, c34_1, h1, RUN, Ed, knd, kndR, resV, binInt, mnmxV, mnmx2, fillL, unV, lenV, extractV, partV, loadAt, Nat.reduceAdd, Nat.reduceBEq, Nat.reduceEqDiff, Nat.reduceLT, Nat.reduceLeDiff, Nat.reduceMul, Nat.reduceSub, reduceIte, Int.reduceEq, Int.reduceNe, Int.reduceLT, Int.reduceLE, Int.reduceAdd, Int.reduceSub, Int.reduceMul, Int.reduceNeg, Int.reduceMod, Int.reduceDiv, Int.reduceTMod, Int.reduceTDiv, Int.reduceToNat, okChain_i, okLoads_nil, okLoads_in, okLoads_eq]
  · have hd : decide (lo ≤ x ∧ x ≤ hi) = false := by rw [decide_eq_false_iff_not]; exact fun h => h1 h.1
    rw [hd]
    simp (maxDischargeDepth := 8) only [r34, b34, c34_0, c34_1, h1, RUN, Ed, knd, kndR, resV, binInt, mnmxV, mnmx2, fillL, unV, lenV, extractV, partV, loadAt, Nat.reduceAdd, Nat.reduceBEq, Nat.reduceEqDiff, Nat.reduceLT, Nat.reduceLeDiff, Nat.reduceMul, Nat.reduceSub, reduceIte, Int.reduceEq, Int.reduceNe, Int.reduceLT, Int.reduceLE, Int.reduceAdd, Int.reduceSub, Int.reduceMul, Int.reduceNeg, Int.reduceMod, Int.reduceDiv, Int.reduceTMod, Int.reduceTDiv, Int.reduceToNat, okChain_i, okLoads_nil, okLoads_in, okLoads_eq]
/-- Where the first number lies that is not within its bounds. -/
def fbk : Nat → List Bd → Option Nat
  | _, [] => none
  | k, x :: l => if x.2.1 ≤ x.1 ∧ x.1 ≤ x.2.2 then fbk (k + 1) l else some k
theorem step27 (H : Heap) (v : Value) (l : List Bd) (hl : l.length ≤ 1000) (hv : T3 H v l) (j : Nat) (x : Bd) (hx : l[j]? = some x) (ρ : Fr) (G : Heap) (hG : Ext H G) (q6 : ρ 6 = v) (q7 : ρ 7 = .int .i64 l.length) (q8 : ρ 8 = .int .i64 j) :
    (x.2.1 ≤ x.1 ∧ x.1 ≤ x.2.2 → ∃ ρ' F, E Tryd.prog hints l27_0 ρ G = some (.normal, ρ', F) ∧ Ext H F ∧ ρ' 6 = v ∧ ρ' 7 = .int .i64 l.length ∧ ρ' 8 = .int .i64 (j + 1 : Nat)) ∧
    (¬ (x.2.1 ≤ x.1 ∧ x.1 ≤ x.2.2) → ∃ ρ' F, E Tryd.prog hints l27_0 ρ G = some (.ret, ρ', F) ∧ Ext H F ∧ ρ' 2 = .int .i64 j ∧ ρ' 3 = .bool false) := by
  obtain ⟨n, lo, hi⟩ := x
  obtain ⟨i, x1, ow, ty, cells, x2, x3, x4⟩ := (hv.ext hG).idx hx
  have i2 := live_ltG x2
  have hj : j < l.length := by
    rcases Nat.lt_or_ge j l.length with q | q
    · exact q
    · rw [List.getElem?_eq_none q] at hx; cases hx
  have hlt : (j : Int) < (l.length : Int) := by omega
  have wj := wrap64 ((j : Int) + 1) (by omega) (by omega)
  simp only [bdL] at x4
  have eh := fun F => has_f lo hi n F
  simp only
  have fin : ∀ X, Ext H (G ++ X) := fun X => hG.app X
  constructor
  · intro h
    rw [decide_eq_true h] at eh
    refine ⟨?ρ1, _, ?run1, fin ?X1, ?_, ?_, ?_⟩
    case run1 =>
      simp (maxDischargeDepth := 8) only [l27_0, c27_0, c27_1, c27_2, c27_3, c27_4, c27_5, c27_6, c27_7, q6, q7, q8, hlt, x1, x2, x3, x4, i2, eh, wj, RUN, Ed, knd, kndR, resV, binInt, mnmxV, mnmx2, fillL, unV, lenV, extractV, partV, loadAt, Nat.reduceAdd, Nat.reduceBEq, Nat.reduceEqDiff, Nat.reduceLT, Nat.reduceLeDiff, Nat.reduceMul, Nat.reduceSub, reduceIte, Int.reduceEq, Int.reduceNe, Int.reduceLT, Int.reduceLE, Int.reduceAdd, Int.reduceSub, Int.reduceMul, Int.reduceNeg, Int.reduceMod, Int.reduceDiv, Int.reduceTMod, Int.reduceTDiv, Int.reduceToNat, okChain_i, okLoads_nil, okLoads_in, okLoads_eq]
      rfl
    all_goals first | (simp (maxDischargeDepth := 8) only [q6, q7, RUN, Ed, knd, kndR, resV, binInt, mnmxV, mnmx2, fillL, unV, lenV, extractV, partV, loadAt, Nat.reduceAdd, Nat.reduceBEq, Nat.reduceEqDiff, Nat.reduceLT, Nat.reduceLeDiff, Nat.reduceMul, Nat.reduceSub, reduceIte, Int.reduceEq, Int.reduceNe, Int.reduceLT, Int.reduceLE, Int.reduceAdd, Int.reduceSub, Int.reduceMul, Int.reduceNeg, Int.reduceMod, Int.reduceDiv, Int.reduceTMod, Int.reduceTDiv, Int.reduceToNat, okChain_i, okLoads_nil, okLoads_in, okLoads_eq]; done) | (simp (maxDischargeDepth := 8) only [q6, q7, RUN, Ed, knd, kndR, resV, binInt, mnmxV, mnmx2, fillL, unV, lenV, extractV, partV, loadAt, Nat.reduceAdd, Nat.reduceBEq, Nat.reduceEqDiff, Nat.reduceLT, Nat.reduceLeDiff, Nat.reduceMul, Nat.reduceSub, reduceIte, Int.reduceEq, Int.reduceNe, Int.reduceLT, Int.reduceLE, Int.reduceAdd, Int.reduceSub, Int.reduceMul, Int.reduceNeg, Int.reduceMod, Int.reduceDiv, Int.reduceTMod, Int.reduceTDiv, Int.reduceToNat, okChain_i, okLoads_nil, okLoads_in, okLoads_eq]; rfl)
  · intro h
    rw [decide_eq_false h] at eh
    refine ⟨?ρ2, _, ?run2, fin ?X2, ?_, ?_⟩
    case run2 =>
      simp (maxDischargeDepth := 8) only [l27_0, c27_0, c27_1, c27_2, c27_3, c27_4, c27_5, c27_6, c27_7, q6, q7, q8, hlt, x1, x2, x3, x4, i2, eh, wj, RUN, Ed, knd, kndR, resV, binInt, mnmxV, mnmx2, fillL, unV, lenV, extractV, partV, loadAt, Nat.reduceAdd, Nat.reduceBEq, Nat.reduceEqDiff, Nat.reduceLT, Nat.reduceLeDiff, Nat.reduceMul, Nat.reduceSub, reduceIte, Int.reduceEq, Int.reduceNe, Int.reduceLT, Int.reduceLE, Int.reduceAdd, Int.reduceSub, Int.reduceMul, Int.reduceNeg, Int.reduceMod, Int.reduceDiv, Int.reduceTMod, Int.reduceTDiv, Int.reduceToNat, okChain_i, okLoads_nil, okLoads_in, okLoads_eq]
      rfl
    all_goals first | (simp (maxDischargeDepth := 8) only [q6, q7, RUN, Ed, knd, kndR, resV, binInt, mnmxV, mnmx2, fillL, unV, lenV, extractV, partV, loadAt, Nat.reduceAdd, Nat.reduceBEq, Nat.reduceEqDiff, Nat.reduceLT, Nat.reduceLeDiff, Nat.reduceMul, Nat.reduceSub, reduceIte, Int.reduceEq, Int.reduceNe, Int.reduceLT, Int.reduceLE, Int.reduceAdd, Int.reduceSub, Int.reduceMul, Int.reduceNeg, Int.reduceMod, Int.reduceDiv, Int.reduceTMod, Int.reduceTDiv, Int.reduceToNat, okChain_i, okLoads_nil, okLoads_in, okLoads_eq]; done) | (simp (maxDischargeDepth := 8) only [q6, q7, RUN, Ed, knd, kndR, resV, binInt, mnmxV, mnmx2, fillL, unV, lenV, extractV, partV, loadAt, Nat.reduceAdd, Nat.reduceBEq, Nat.reduceEqDiff, Nat.reduceLT, Nat.reduceLeDiff, Nat.reduceMul, Nat.reduceSub, reduceIte, Int.reduceEq, Int.reduceNe, Int.reduceLT, Int.reduceLE, Int.reduceAdd, Int.reduceSub, Int.reduceMul, Int.reduceNeg, Int.reduceMod, Int.reduceDiv, Int.reduceTMod, Int.reduceTDiv, Int.reduceToNat, okChain_i, okLoads_nil, okLoads_in, okLoads_eq]; rfl)
theorem loop27 (H : Heap) (v : Value) (l : List Bd) (hl : l.length ≤ 1000) (hv : T3 H v l) : ∀ (d k : Nat), k + d = l.length → ∀ (ρ : Fr) (G : Heap), Ext H G → ρ 6 = v → ρ 7 = .int .i64 l.length → ρ 8 = .int .i64 k →
    (fbk k (l.drop k) = none → ∃ ρ' F, E Tryd.prog hints (.loop l27_0) ρ G = some (.exit 0, ρ', F) ∧ Ext H F) ∧
    (∀ j, fbk k (l.drop k) = some j → ∃ ρ' F, E Tryd.prog hints (.loop l27_0) ρ G = some (.ret, ρ', F) ∧ Ext H F ∧ ρ' 2 = .int .i64 j ∧ ρ' 3 = .bool false) := by
  intro d
  induction d with
  | zero =>
    intro k hk ρ G hG q6 q7 q8
    have hlt : ¬ ((k : Int) < (l.length : Int)) := by omega
    rw [List.drop_eq_nil_of_le (by omega)]
    refine ⟨fun _ => ⟨?ρ1, G, ?run1, hG⟩, fun j h => by cases h⟩
    case run1 =>
      rw [El]
      simp (maxDischargeDepth := 8) only [l27_0, c27_2, q7, q8, hlt, RUN, Ed, knd, kndR, resV, binInt, mnmxV, mnmx2, fillL, unV, lenV, extractV, partV, loadAt, Nat.reduceAdd, Nat.reduceBEq, Nat.reduceEqDiff, Nat.reduceLT, Nat.reduceLeDiff, Nat.reduceMul, Nat.reduceSub, reduceIte, Int.reduceEq, Int.reduceNe, Int.reduceLT, Int.reduceLE, Int.reduceAdd, Int.reduceSub, Int.reduceMul, Int.reduceNeg, Int.reduceMod, Int.reduceDiv, Int.reduceTMod, Int.reduceTDiv, Int.reduceToNat, okChain_i, okLoads_nil, okLoads_in, okLoads_eq]
      rfl
  | succ d ih =>
    intro k hk ρ G hG q6 q7 q8
    have hkl : k < l.length := by omega
    have hx : l[k]? = some l[k] := List.getElem?_eq_getElem hkl
    obtain ⟨r1, r2⟩ := step27 H v l hl hv k _ hx ρ G hG q6 q7 q8
    rw [List.drop_eq_getElem_cons hkl]
    unfold fbk
    by_cases hb : l[k].2.1 ≤ l[k].1 ∧ l[k].1 ≤ l[k].2.2
    · rw [if_pos hb]
      obtain ⟨ρ', F, e, hF, s6, s7, s8⟩ := r1 hb
      obtain ⟨i1, i2⟩ := ih (k + 1) (by omega) ρ' F hF s6 s7 s8
      rw [El, e, andThen_n]
      exact ⟨i1, i2⟩
    · rw [if_neg hb]
      obtain ⟨ρ', F, e, hF, s2, s3⟩ := r2 hb
      rw [El, e, andThen_r]
      refine ⟨fun h => (by cases h), fun j h => ?_⟩
      injection h with h
      subst h
      exact ⟨ρ', F, rfl, hF, s2, s3⟩
def fbN (l : List Bd) : Int := match fbk 0 l with | none => 0 | some j => j
theorem all_f (H : Heap) (v : Value) (l : List Bd) (hl : l.length ≤ 1000) (hv : T3 H v l) : ∃ F, D Tryd.prog hints 27 [v] H = some (.tuple ⟨[.int .i64 (fbN l), .bool (fbk 0 l).isNone]⟩, F) ∧ Ext H F := by
  have l1 := hv.len
  have fin : ∀ (ρ : Fr), ρ 6 = v → ρ 7 = .int .i64 l.length → ρ 8 = .int .i64 (0 : Nat) → ∃ F, done [.tmp 2, .tmp 3] (andThen (blk 0 (E Tryd.prog hints (.loop l27_0) ρ H)) (E Tryd.prog hints (.seq (.region c27_7) .ret))) = some (.tuple ⟨[.int .i64 (fbN l), .bool (fbk 0 l).isNone]⟩, F) ∧ Ext H F := by
    intro ρ q6 q7 q8
    obtain ⟨r1, r2⟩ := loop27 H v l hl hv l.length 0 (by omega) ρ H (Ext.refl H) q6 q7 q8
    rw [List.drop_zero] at r1 r2
    unfold fbN
    cases hb : fbk 0 l with
    | none =>
      obtain ⟨ρ', F, e, hF⟩ := r1 hb
      rw [e]
      refine ⟨F, ?_, hF⟩
      simp (maxDischargeDepth := 8) only [c27_7, RUN, Ed, knd, kndR, resV, binInt, mnmxV, mnmx2, fillL, unV, lenV, extractV, partV, loadAt, Nat.reduceAdd, Nat.reduceBEq, Nat.reduceEqDiff, Nat.reduceLT, Nat.reduceLeDiff, Nat.reduceMul, Nat.reduceSub, reduceIte, Int.reduceEq, Int.reduceNe, Int.reduceLT, Int.reduceLE, Int.reduceAdd, Int.reduceSub, Int.reduceMul, Int.reduceNeg, Int.reduceMod, Int.reduceDiv, Int.reduceTMod, Int.reduceTDiv, Int.reduceToNat, okChain_i, okLoads_nil, okLoads_in, okLoads_eq]
    | some j =>
      obtain ⟨ρ', F, e, hF, s2, s3⟩ := r2 j hb
      rw [e]
      refine ⟨F, ?_, hF⟩
      simp (maxDischargeDepth := 8) only [s2, s3, RUN, Ed, knd, kndR, resV, binInt, mnmxV, mnmx2, fillL, unV, lenV, extractV, partV, loadAt, Nat.reduceAdd, Nat.reduceBEq, Nat.reduceEqDiff, Nat.reduceLT, Nat.reduceLeDiff, Nat.reduceMul, Nat.reduceSub, reduceIte, Int.reduceEq, Int.reduceNe, Int.reduceLT, Int.reduceLE, Int.reduceAdd, Int.reduceSub, Int.reduceMul, Int.reduceNeg, Int.reduceMod, Int.reduceDiv, Int.reduceTMod, Int.reduceTDiv, Int.reduceToNat, okChain_i, okLoads_nil, okLoads_in, okLoads_eq]
  rw [D_eq p27 _ _ (Nat.le_of_ble_eq_true rfl)]
  simp (maxDischargeDepth := 8) only [r27, b27, c27_0, c27_1, l1, RUN, Ed, knd, kndR, resV, binInt, mnmxV, mnmx2, fillL, unV, extractV, partV, loadAt, Nat.reduceAdd, Nat.reduceBEq, Nat.reduceEqDiff, Nat.reduceLT, Nat.reduceLeDiff, Nat.reduceMul, Nat.reduceSub, reduceIte, Int.reduceEq, Int.reduceNe, Int.reduceLT, Int.reduceLE, Int.reduceAdd, Int.reduceSub, Int.reduceMul, Int.reduceNeg, Int.reduceMod, Int.reduceDiv, Int.reduceTMod, Int.reduceTDiv, Int.reduceToNat, okChain_i, okLoads_nil, okLoads_in, okLoads_eq]
  refine fin _ ?_ ?_ ?_
  all_goals first | (simp (maxDischargeDepth := 8) only [RUN, Ed, knd, kndR, resV, binInt, mnmxV, mnmx2, fillL, unV, lenV, extractV, partV, loadAt, Nat.reduceAdd, Nat.reduceBEq, Nat.reduceEqDiff, Nat.reduceLT, Nat.reduceLeDiff, Nat.reduceMul, Nat.reduceSub, reduceIte, Int.reduceEq, Int.reduceNe, Int.reduceLT, Int.reduceLE, Int.reduceAdd, Int.reduceSub, Int.reduceMul, Int.reduceNeg, Int.reduceMod, Int.reduceDiv, Int.reduceTMod, Int.reduceTDiv, Int.reduceToNat, okChain_i, okLoads_nil, okLoads_in, okLoads_eq]; done) | (simp (maxDischargeDepth := 8) only [RUN, Ed, knd, kndR, resV, binInt, mnmxV, mnmx2, fillL, unV, lenV, extractV, partV, loadAt, Nat.reduceAdd, Nat.reduceBEq, Nat.reduceEqDiff, Nat.reduceLT, Nat.reduceLeDiff, Nat.reduceMul, Nat.reduceSub, reduceIte, Int.reduceEq, Int.reduceNe, Int.reduceLT, Int.reduceLE, Int.reduceAdd, Int.reduceSub, Int.reduceMul, Int.reduceNeg, Int.reduceMod, Int.reduceDiv, Int.reduceTMod, Int.reduceTDiv, Int.reduceToNat, okChain_i, okLoads_nil, okLoads_in, okLoads_eq]; rfl)
set_option maxRecDepth 100000 in
theorem bounds_f (c : Cf) (ho : c.o.oneCell' = true) (ho2 : c.o.cells.toList = [c.o]) (hf : c.f.oneCell' = true) (hf2 : c.f.cells.toList = [c.f]) (H : Heap) : ∃ v F, D Tryd.prog hints 28 [.agg ⟨c.L⟩] H = some (v, F) ∧ Ext H F ∧ T3 F v (bds c) := by
  obtain ⟨d, b, s, p, h, cap, qmin, imax, trip, vmin, vdark, cmin, cmax, cgap, tmax, coil, ohm, sag, amp, drift, o, gen, bat, ext, eland, margin, f⟩ := c
  obtain ⟨H1, hH1⟩ : ∃ H1, H1 = H ++ [some ⟨true, 26, (⟨d, b, s, p, h, cap, qmin, imax, trip, vmin, vdark, cmin, cmax, cgap, tmax, coil, ohm, sag, amp, drift, o, gen, bat, ext, eland, margin, f⟩ : Cf).L⟩] := ⟨_, rfl⟩
  have x1 : Ext H H1 := ⟨_, hH1⟩
  have k1 : live H1 H.length = some ⟨true, 26, (⟨d, b, s, p, h, cap, qmin, imax, trip, vmin, vdark, cmin, cmax, cgap, tmax, coil, ohm, sag, amp, drift, o, gen, bat, ext, eland, margin, f⟩ : Cf).L⟩ := by rw [hH1]; exact (live_app_len _ _).trans rfl
  have i1 := live_ltG k1
  simp only [Cf.L] at hH1 k1
  refine ⟨.slice (some ⟨H1.length, 0, none⟩) 20 3, H1 ++ [some ⟨true, 69, bdC (bds ⟨d, b, s, p, h, cap, qmin, imax, trip, vmin, vdark, cmin, cmax, cgap, tmax, coil, ohm, sag, amp, drift, o, gen, bat, ext, eland, margin, f⟩)⟩], ?_, x1.app _, H1.length, 3, true, 69, rfl, (live_app_len _ _).trans rfl⟩
  rw [D_eq p28 _ _ (Nat.le_of_ble_eq_true rfl)]
  simp (maxDischargeDepth := 8) only [r28, b28, c28_0, c28_1, Cf.L, ← hH1, k1, i1, fillL, RUN, Ed, knd, kndR, resV, binInt, mnmxV, mnmx2, fillL, unV, lenV, extractV, partV, loadAt, Nat.reduceAdd, Nat.reduceBEq, Nat.reduceEqDiff, Nat.reduceLT, Nat.reduceLeDiff, Nat.reduceMul, Nat.reduceSub, reduceIte, Int.reduceEq, Int.reduceNe, Int.reduceLT, Int.reduceLE, Int.reduceAdd, Int.reduceSub, Int.reduceMul, Int.reduceNeg, Int.reduceMod, Int.reduceDiv, Int.reduceTMod, Int.reduceTDiv, Int.reduceToNat, okChain_i, okLoads_nil, okLoads_in, okLoads_eq]
  rfl
set_option maxRecDepth 100000 in
theorem ends_f (c : Cf) (H : Heap) : ∃ v F, D Tryd.prog hints 30 [.agg ⟨c.L⟩] H = some (v, F) ∧ Ext H F ∧ T3 F v (eds c) := by
  obtain ⟨d, b, s, p, h, cap, qmin, imax, trip, vmin, vdark, cmin, cmax, cgap, tmax, coil, ohm, sag, amp, drift, o, gen, bat, ext, eland, margin, f⟩ := c
  obtain ⟨H1, hH1⟩ : ∃ H1, H1 = H ++ [some ⟨true, 26, (⟨d, b, s, p, h, cap, qmin, imax, trip, vmin, vdark, cmin, cmax, cgap, tmax, coil, ohm, sag, amp, drift, o, gen, bat, ext, eland, margin, f⟩ : Cf).L⟩] := ⟨_, rfl⟩
  have x1 : Ext H H1 := ⟨_, hH1⟩
  have k1 : live H1 H.length = some ⟨true, 26, (⟨d, b, s, p, h, cap, qmin, imax, trip, vmin, vdark, cmin, cmax, cgap, tmax, coil, ohm, sag, amp, drift, o, gen, bat, ext, eland, margin, f⟩ : Cf).L⟩ := by rw [hH1]; exact (live_app_len _ _).trans rfl
  have i1 := live_ltG k1
  simp only [Cf.L] at hH1 k1
  refine ⟨.slice (some ⟨H1.length, 0, none⟩) 5 3, H1 ++ [some ⟨true, 69, bdC (eds ⟨d, b, s, p, h, cap, qmin, imax, trip, vmin, vdark, cmin, cmax, cgap, tmax, coil, ohm, sag, amp, drift, o, gen, bat, ext, eland, margin, f⟩)⟩], ?_, x1.app _, H1.length, 3, true, 69, rfl, (live_app_len _ _).trans rfl⟩
  rw [D_eq p30 _ _ (Nat.le_of_ble_eq_true rfl)]
  simp (maxDischargeDepth := 8) only [r30, b30, c30_0, c30_1, Cf.L, ← hH1, k1, i1, fillL, RUN, Ed, knd, kndR, resV, binInt, mnmxV, mnmx2, fillL, unV, lenV, extractV, partV, loadAt, Nat.reduceAdd, Nat.reduceBEq, Nat.reduceEqDiff, Nat.reduceLT, Nat.reduceLeDiff, Nat.reduceMul, Nat.reduceSub, reduceIte, Int.reduceEq, Int.reduceNe, Int.reduceLT, Int.reduceLE, Int.reduceAdd, Int.reduceSub, Int.reduceMul, Int.reduceNeg, Int.reduceMod, Int.reduceDiv, Int.reduceTMod, Int.reduceTDiv, Int.reduceToNat, okChain_i, okLoads_nil, okLoads_in, okLoads_eq]
  rfl
end Go.Proofs.YtceildmghmigaaaDoor.Sim
