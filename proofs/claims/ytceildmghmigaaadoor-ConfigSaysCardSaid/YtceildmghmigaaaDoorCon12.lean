/- What is amiss with any configuration. -/
import Derived.Test.YtceildmghmigaaaDoorCon11
import Derived.Test.YtceildmghmigaaaDoorSim21
namespace Go.Proofs.YtceildmghmigaaaDoor.Sim
open Go
set_option linter.unusedSimpArgs false
set_option linter.unusedVariables false
theorem getD_of {l : List Pt} {j : Nat} {p : Pt} (h : l[j]? = some p) : l.getD j (0, 0) = p := by
  rw [List.getD_eq_getElem?_getD, h]; rfl
theorem tab_of {l : List Pt} (h : TabB l) : Tab l := by
  obtain ⟨h1, h2, h3⟩ := h
  refine ⟨h1, h2, ?_, ?_⟩
  · intro j p hp
    have hj : j < l.length := by
      rcases Nat.lt_or_ge j l.length with q | q
      · exact q
      · rw [List.getElem?_eq_none q] at hp; cases hp
    have := (h3 j (Nat.zero_le _) hj).1
    rw [getD_of hp] at this
    exact this
  · intro j p q hp hq
    have hj : j + 1 < l.length := by
      rcases Nat.lt_or_ge (j + 1) l.length with q | q
      · exact q
      · rw [List.getElem?_eq_none q] at hq; cases hq
    have := (h3 (j + 1) (Nat.zero_le _) hj).2
    rw [getD_of hq, Nat.add_sub_cancel, getD_of hp] at this
    exact this.resolve_left (by omega)
set_option maxRecDepth 100000 in
theorem amiss_not (c : Cf) (hk : c.ok) (hb : fbk 0 (bds c) = none) (l : List Pt) (hl : l.length ≤ 1000) (ht : ¬ TabB l) (H : Heap) (hE : EH all7 H) (hv : PS H c.o l) : ∃ F, D Tryd.prog hints 21 [.agg ⟨c.L⟩] H = some (.int .i64 21, F) ∧ Ext H F := by
  obtain ⟨H1, hH1⟩ : ∃ H1, H1 = H ++ [some ⟨true, 26, c.L⟩] := ⟨_, rfl⟩
  have x1 : Ext H H1 := ⟨_, hH1⟩
  have k1 : live H1 H.length = some ⟨true, 26, c.L⟩ := by rw [hH1]; exact (live_app_len _ _).trans rfl
  have i1 := live_ltG k1
  obtain ⟨v, F1, e1, y1, hv1⟩ := bounds_f c hk.o1 hk.o2 hk.f1 hk.f2 H1
  obtain ⟨F2, e2, y2⟩ := all_f F1 v (bds c) (by unfold bds; simp) hv1
  have hN : fbN (bds c) = 0 := by unfold fbN; rw [hb]
  have hs : (none : Option Nat).isNone = true := rfl
  rw [hN, hb, hs] at e2
  have z2 := (x1.trans y1).trans y2
  have k2 := (y1.trans y2).live k1
  have i2 := live_ltG k2
  obtain ⟨V, X, e3, _, hV⟩ := tableG_f F2 (hE.ext z2) c.o l hl (hv.ext z2)
  have hs3 := (hV ht).same
  refine ⟨F2 ++ X, ?_, z2.app X⟩
  obtain ⟨o1, o2, f1, f2⟩ := hk
  obtain ⟨d, b, s, p, h, cap, qmin, imax, trip, vmin, vdark, cmin, cmax, cgap, tmax, coil, ohm, sag, amp, drift, o, gen, bat, ext, eland, margin, f⟩ := c
  simp only at o1 o2 f1 f2 e3
  simp only [Cf.L] at hH1 k1 e1 k2
  rw [D_eq p21 _ _ (Nat.le_of_ble_eq_true rfl)]
  simp (maxDischargeDepth := 8) only [r21, b21, c21_0, c21_1, c21_2, c21_3, c21_4, c21_5, c21_6, Cf.L, o1, o2, f1, f2, ← hH1, k1, i1, e1, e2, k2, i2, e3, hs3, fullOf_appG, fullOf_mapG, List.length_map, RUN, Ed, knd, kndR, resV, binInt, mnmxV, mnmx2, fillL, unV, lenV, extractV, partV, loadAt, Nat.reduceAdd, Nat.reduceBEq, Nat.reduceEqDiff, Nat.reduceLT, Nat.reduceLeDiff, Nat.reduceMul, Nat.reduceSub, reduceIte, Int.reduceEq, Int.reduceNe, Int.reduceLT, Int.reduceLE, Int.reduceAdd, Int.reduceSub, Int.reduceMul, Int.reduceNeg, Int.reduceMod, Int.reduceDiv, Int.reduceTMod, Int.reduceTDiv, Int.reduceToNat, okChain_i, okLoads_nil, okLoads_in, okLoads_eq]
/-- What is amiss, of any configuration. -/
noncomputable def amS (c : Cf) (l : List Pt) (k : List Fd) : Int :=
  open Classical in
  match fbk 0 (bds c) with
  | some j => ((1 + j : Nat) : Int)
  | none => if TabB l then amR c (l.getD 0 (0, 0)).1 (l.getD (l.length - 1) (0, 0)).1 k else 21
theorem amissS_f (c : Cf) (hk : c.ok) (l : List Pt) (hl : l.length ≤ 1000) (k : List Fd) (hkl : k.length ≤ 1000) (H : Heap) (hE : EH all7 H) (hv : PS H c.o l) (hf : FS H c.f k) : ∃ F, D Tryd.prog hints 21 [.agg ⟨c.L⟩] H = some (.int .i64 (amS c l k), F) ∧ Ext H F := by
  unfold amS
  cases hb : fbk 0 (bds c) with
  | some j =>
    have := fbk_lt (bds c) 0 j hb
    have h20 : (bds c).length = 20 := rfl
    exact amiss_bad c hk j hb (by omega) H
  | none =>
    simp only
    by_cases ht : TabB l
    · rw [if_pos ht]
      have h1 := ht.1
      exact amiss_tab c hk hb l (tab_of ht) _ _ (getD_get (by omega)) (getD_get (by omega)) k hkl H hv hf
    · rw [if_neg ht]
      exact amiss_not c hk hb l hl ht H hE hv
theorem amS_ge (c : Cf) (l : List Pt) (k : List Fd) : 0 ≤ amS c l k := by
  unfold amS
  cases fbk 0 (bds c) with
  | some j => simp only; omega
  | none =>
    simp only
    split
    · unfold amR
      split
      · omega
      · split
        · omega
        · cases fbk 0 (eds c) with
          | some j => simp only; omega
          | none => simp only; split <;> omega
    · omega
end Go.Proofs.YtceildmghmigaaaDoor.Sim
