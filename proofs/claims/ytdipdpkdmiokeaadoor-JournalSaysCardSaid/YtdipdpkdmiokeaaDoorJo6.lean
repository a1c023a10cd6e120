/- A write that is torn loses nothing. -/
import Derived.Test.YtdipdpkdmiokeaaDoorJo5
import Derived.Test.YtdipdpkdmiokeaaDoorSim21
namespace Go.Proofs.YtdipdpkdmiokeaaDoor.Sim
open Go Go.Proofs.YtdipdpkdmiokeaaDoor.CrcMath
set_option linter.unusedSimpArgs false
set_option linter.unusedVariables false
def TS (H : Heap) (v : Value) (A : List Int) : Prop := (A = [] ∧ ∃ e, v = .slice none 0 e) ∨ ∃ (i e : Nat) (ow : Bool) (ty : TypeId) (cells : List Value), v = .slice (some ⟨i, 0, none⟩) A.length e ∧ live H i = some ⟨ow, ty, cells⟩ ∧ ∀ (j : Nat) (a : Int), A[j]? = some a → cells[j]? = some (.int .i64 a)
theorem TS.len {H : Heap} {v : Value} {A : List Int} (h : TS H v A) : lenV false v = some (.int .i64 A.length) := by
  rcases h with ⟨rfl, e, rfl⟩ | ⟨i, e, ow, ty, cells, rfl, _, _⟩ <;> rfl
theorem TS.ext {H G : Heap} {v : Value} {A : List Int} (h : TS H v A) (e : Ext H G) : TS G v A := by
  rcases h with h | ⟨i, e', ow, ty, cells, h1, h2, h3⟩
  · exact .inl h
  · exact .inr ⟨i, e', ow, ty, cells, h1, e.live h2, h3⟩
theorem TS.idx {H : Heap} {v : Value} {A : List Int} (h : TS H v A) {j : Nat} {a : Int} (ha : A[j]? = some a) : ∃ i, idxSV 1 v (.int .i64 j) = some (.pointer (some ⟨i, j, none⟩)) ∧ ∃ ow ty cells, live H i = some ⟨ow, ty, cells⟩ ∧ cells[j]? = some (.int .i64 a) := by
  have hj : j < A.length := by
    rcases Nat.lt_or_ge j A.length with q | q
    · exact q
    · rw [List.getElem?_eq_none q] at ha; cases ha
  rcases h with ⟨rfl, e, rfl⟩ | ⟨i, e, ow, ty, cells, rfl, h2, h3⟩
  · simp at hj
  · refine ⟨i, ?_, ow, ty, cells, h2, h3 j a ha⟩
    rw [idxS_s _ _ _ _ _ _ _ (by omega) (by omega)]
    simp
theorem Opn_ints {H : Heap} {l : List Value} (h : Opn H (.slice (.int .i64)) l) : ∃ v A, l = [v] ∧ TS H v A ∧ ∀ a ∈ A, (Lit.int .i64 a).wf = true := by
  simp only [Opn] at h
  obtain ⟨i, x, ty, L, rfl, hl, hc, hm⟩ := h
  obtain ⟨M, rfl, hM⟩ := rows_map (fun a : Int => [Value.int .i64 a]) (fun a => (Lit.int .i64 a).wf = true) L hc
  have hf : (M.map (fun a : Int => [Value.int .i64 a])).flatten = M.map (Value.int .i64) := by
    clear hM hm hc hl
    induction M with
    | nil => rfl
    | cons a M ih => simp [ih]
  rw [hf] at hm
  rw [List.length_map] at hm ⊢
  refine ⟨_, M, rfl, ?_, hM⟩
  unfold argV
  by_cases h0 : M.length = 0
  · rw [if_pos h0]
    exact .inl ⟨List.eq_nil_of_length_eq_zero h0, x, rfl⟩
  · rw [if_neg h0]
    exact .inr ⟨i, 0, _, ty, _, rfl, hm (by omega), fun j a h => by simp [h]⟩
theorem BO.low' {H G F : Heap} {w : Value} {m : List B8} (h : BO G F w m) (e : Ext H G) : BO H F w m := by
  rcases h with h | ⟨c, h1, h2, h3, h4⟩
  · exact .inl h
  · exact .inr ⟨c, Nat.le_trans e.le h1, h2, h3, h4⟩
theorem BO.setp {H G : Heap} {w : Value} {m : List B8} (h : BO H G w m) {p : Nat} (hp : ¬ owns w p) (y : Option Blk) : BO H (G.set p y) w m := SM.put h hp y
/-- What stays between two torn writes. -/
structure I9 (H0 : Heap) (p : Nat) (i : Nat) (w : Value) (m : List B8) (ρ : Fr) (G : Heap) : Prop where
  q14 : ρ 14 = .int .i64 i
  q10 : ρ 10 = w
  q13 : ρ 13 = .bool (decide (0 ≤ nw m))
  ex : Ext H0 G
  hb : BO H0 G w m
  hm : m.length = 88
  kp : live G p = some ⟨true, 26, (rcR m).L⟩
theorem nw_full (m : List B8) : ¬ ((if nw m = 0 then (1 : Int) else 0) < 0) := by split <;> omega
theorem step9 (H0 : Heap) (hE0 : EH all7 H0) (p : Nat) (hp : H0.length ≤ p) (ts cs : Value) (A C : List Int) (hA : TS H0 ts A) (hC : TS H0 cs C) (wA : ∀ a ∈ A, (Lit.int .i64 a).wf = true) (wC' : ∀ a ∈ C, (Lit.int .i64 a).wf = true) (hlA : A.length ≤ 12) (hAC : A.length ≤ C.length) (t : Int) (i : Nat) (hi : i < A.length) (w : Value) (m : List B8) (ρ : Fr) (G : Heap) (hI : I9 H0 p i w m ρ G) (q0 : ρ 0 = ts) (q1 : ρ 1 = cs) (q2 : ρ 2 = .int .i64 t) (q11 : ρ 11 = .pointer (some ⟨p, 0, none⟩)) :
    ∃ ρ' F w' m', E Tryd.prog hints l9_0 ρ G = some (.normal, ρ', F) ∧ I9 H0 p (i + 1) w' m' ρ' F := by
  obtain ⟨q14, q10, q13, ex, hb, hm, kp⟩ := hI
  have ha : A[i]? = some A[i] := List.getElem?_eq_getElem hi
  have hc : C[i]? = some C[i] := List.getElem?_eq_getElem (by omega)
  have wa := wfi64 (wA _ (List.getElem_mem hi))
  have wc := wfi64 (wC' _ (List.getElem_mem (show i < C.length by omega)))
  generalize A[i] = a at *
  generalize C[i] = c at *
  have lA := hA.len
  have hlt : (i : Int) < (A.length : Int) := by omega
  have wi := wrap64 ((i : Int) + 1) (by omega) (by omega)
  have wm := wrap64 ((i : Int) * 7919) (by omega) (by omega)
  generalize hT : IntKind.i64.wrap (t + (i : Int) * 7919) = T at *
  have hE := hE0.ext ex
  obtain ⟨X1, e1⟩ := record_f a T G wa.1 wa.2
  obtain ⟨G1, hG1⟩ : ∃ G1, G1 = G ++ X1 := ⟨_, rfl⟩
  rw [← hG1] at e1
  have y1 : Ext G G1 := ⟨_, hG1⟩
  have gd := recO_good a T
  have l0 : 0 ≤ (recO a T).l := by unfold recO; simp only; omega
  obtain ⟨i1, x1, ow1, ty1, cl1, x2, x3⟩ := (hA.ext ex).idx ha
  have j1 := live_ltG x2
  generalize recO a T = R at *
  obtain ⟨G2, hG2⟩ : ∃ G2, G2 = G1 ++ [some ⟨true, 26, R.L⟩] := ⟨_, rfl⟩
  have y2 : Ext G1 G2 := ⟨_, hG2⟩
  have k15 : live G2 G1.length = some ⟨true, 26, R.L⟩ := by rw [hG2]; exact (live_app_len _ _).trans rfl
  have i15 := live_ltG k15
  have E2 := (hE.ext y1).ext y2
  have B2 := (hb.BS.ext y1).ext y2
  obtain ⟨ws, F1, e2, z1, hW⟩ := writes_f w m hm R gd G2 E2 B2
  have hwl := wrs_len (rn m R) (aw m)
  have lw := hW.len
  rw [hwl] at lw
  have lw' : lenV false ws = some (.int .i64 45) := lw
  obtain ⟨i2, x4, ow2, ty2, cl2, x5, x6⟩ := ((((hC.ext ex).ext y1).ext y2).ext z1).idx hc
  have j2 := live_ltG x5
  have nf := number_f c 90 F1 wc.1 wc.2 (by omega) (by omega)
  obtain ⟨n, hn⟩ : ∃ n : Nat, c % 90 = n := ⟨(c % 90).toNat, by omega⟩
  rw [hn] at nf
  have E3 := E2.ext z1
  obtain ⟨w4, F4, e4, z4, hb4⟩ := apply_f w ws m (by omega) (wrs (rn m R) (aw m)) (by omega) n F1 (B2.ext z1) hW
  rw [Int.toNat_natCast] at hb4
  have E4 := E3.ext z4
  generalize hm' : ap m ((wrs (rn m R) (aw m)).take n) = m' at *
  have hml : m'.length = 88 := by rw [← hm', ap_len, hm]
  obtain ⟨X5, e5⟩ := recover_f w4 m' (by omega) F4 E4 hb4.BS
  obtain ⟨F5, hF5⟩ : ∃ F5, F5 = F4 ++ X5 := ⟨_, rfl⟩
  rw [← hF5] at e5
  have z5 : Ext F4 F5 := ⟨_, hF5⟩
  obtain ⟨F6, hF6⟩ : ∃ F6, F6 = F5 ++ [some ⟨true, 26, (rcR m').L⟩] := ⟨_, rfl⟩
  have z6 : Ext F5 F6 := ⟨_, hF6⟩
  have zz2 : Ext G2 F6 := ((z1.trans z4).trans z5).trans z6
  have zz0 : Ext G F6 := (y1.trans y2).trans zz2
  have k19 : live F6 F5.length = some ⟨true, 26, (rcR m').L⟩ := by rw [hF6]; exact (live_app_len _ _).trans rfl
  have i19 := live_ltG k19
  have k15' := zz2.live k15
  have i15' := live_ltG k15'
  have k11 := zz0.live kp
  have i11 := live_ltG k11
  have ex1 : Ext H0 F1 := ((ex.trans y1).trans y2).trans z1
  have hb6 : BO H0 F6 w4 m' := (hb4.low' ex1).ext (z5.trans z6)
  obtain ⟨r1, r2⟩ := rc_of m' hml
  obtain ⟨r3, r4⟩ := rc_of m hm
  by_cases hfull : 45 ≤ n
  · have hge : (45 : Int) ≤ (n : Int) := by omega
    rw [List.take_of_length_le (by omega)] at hm'
    obtain ⟨f1, f2⟩ := full_nw m hm R gd l0
    rw [hm'] at f1 f2
    have hnn := nw_full m
    rw [← f1] at hnn
    rw [if_neg hnn] at r1 r2
    rw [f2] at r2
    rw [r1] at e5
    have hrn : (rn m R).L = [.int .u32 (IntKind.u32.wrap ((nr m).s + 1)), .int .i64 R.m, .int .u32 R.l, .int .i64 R.a, .int .i64 R.b, .int .i64 R.c, .int .i64 R.d] := rfl
    have hno : ¬ owns w4 p := hb6.noown k11 (by decide)
    rw [r2, hrn] at e5 hF6 k19
    simp only [EV] at e5
    have s1 := fun F => sameSpan_f R.a R.b R.a R.b F
    have s2 := fun F => sameSpan_f R.c R.d R.c R.d F
    rw [decide_eq_true ⟨rfl, rfl⟩] at s1 s2
    have hup := later_up (nr m).s
    have lf := fun a b F => later_f a b F
    have hRL : R.L = [.int .u32 R.s, .int .i64 R.m, .int .u32 R.l, .int .i64 R.a, .int .i64 R.b, .int .i64 R.c, .int .i64 R.d] := rfl
    rw [hRL] at e1 e2 hG2 k15 k15'
    have h13' : decide (0 ≤ nw m') = true := by rw [decide_eq_true_iff]; omega
    have end9 : ∀ (Z : Heap) (ρ' : Fr), ρ' 14 = .int .i64 (i + 1 : Nat) → ρ' 10 = w4 → ρ' 13 = .bool true → I9 H0 p (i + 1) w4 m' ρ' ((F6 ++ Z).set p (some ⟨true, 26, [.int .u32 (IntKind.u32.wrap ((nr m).s + 1)), .int .i64 R.m, .int .u32 R.l, .int .i64 R.a, .int .i64 R.b, .int .i64 R.c, .int .i64 R.d]⟩)) := by
      intro Z ρ' a14 a10 a13
      refine ⟨a14, a10, by rw [a13, h13'], ((ex.trans zz0).app Z).set hp _, (hb6.ext (Ext.more _ Z)).setp hno _, hml, ?_⟩
      rw [r2, hrn]
      exact live_set_eq _ _ _ (by rw [List.length_append]; omega)
    generalize IntKind.u32.wrap ((nr m).s + 1) = S at *
    by_cases hbf : 0 ≤ nw m
    · rw [decide_eq_true hbf] at q13
      rw [if_neg (by omega)] at r4
      rw [r4] at k11 kp
      generalize nr m = Q at *
      obtain ⟨s2', m2, l2, a2, b2, c2, d2⟩ := Q
      simp only [Rec.L] at k11
      simp only at hup
      refine ⟨?ρ1, _, w4, m', ?run1, end9 ?Z1 ?ρ1 ?_ ?_ ?_⟩
      case run1 =>
        simp (maxDischargeDepth := 8) only [l9_0, c9_0, c9_1, c9_2, c9_3, c9_4, c9_5, c9_6, c9_7, c9_8, c9_9, c9_10, c9_11, c9_12, c9_13, c9_14, c9_15, c9_16, c9_17, c9_18, c9_19, c9_20, c9_21, c9_22, c9_23, c9_24, c9_25, c9_26, c9_27, c9_28, q0, q1, q2, q10, q11, q13, q14, lA, hlt, wi, wm, hT, x1, x2, x3, j1, e1, ← hG2, k15, i15, e2, lw', x4, x5, x6, j2, nf, e4, e5, ← hF6, hge, k19, i19, k15', i15', k11, i11, s1, s2, lf, hup, RUN, Ed, knd, kndR, resV, binInt, mnmxV, mnmx2, fillL, unV, extractV, partV, loadAt, Nat.reduceAdd, Nat.reduceBEq, Nat.reduceEqDiff, Nat.reduceLT, Nat.reduceLeDiff, Nat.reduceMul, Nat.reduceSub, reduceIte, Int.reduceEq, Int.reduceNe, Int.reduceLT, Int.reduceLE, Int.reduceAdd, Int.reduceSub, Int.reduceMul, Int.reduceNeg, Int.reduceMod, Int.reduceDiv, Int.reduceTMod, Int.reduceTDiv, Int.reduceToNat, okChain_i, okLoads_nil, okLoads_in, okLoads_eq]
        rfl
      all_goals first | (simp (maxDischargeDepth := 8) only [RUN, Ed, knd, kndR, resV, binInt, mnmxV, mnmx2, fillL, unV, lenV, extractV, partV, loadAt, Nat.reduceAdd, Nat.reduceBEq, Nat.reduceEqDiff, Nat.reduceLT, Nat.reduceLeDiff, Nat.reduceMul, Nat.reduceSub, reduceIte, Int.reduceEq, Int.reduceNe, Int.reduceLT, Int.reduceLE, Int.reduceAdd, Int.reduceSub, Int.reduceMul, Int.reduceNeg, Int.reduceMod, Int.reduceDiv, Int.reduceTMod, Int.reduceTDiv, Int.reduceToNat, okChain_i, okLoads_nil, okLoads_in, okLoads_eq]; done) | (simp (maxDischargeDepth := 8) only [RUN, Ed, knd, kndR, resV, binInt, mnmxV, mnmx2, fillL, unV, lenV, extractV, partV, loadAt, Nat.reduceAdd, Nat.reduceBEq, Nat.reduceEqDiff, Nat.reduceLT, Nat.reduceLeDiff, Nat.reduceMul, Nat.reduceSub, reduceIte, Int.reduceEq, Int.reduceNe, Int.reduceLT, Int.reduceLE, Int.reduceAdd, Int.reduceSub, Int.reduceMul, Int.reduceNeg, Int.reduceMod, Int.reduceDiv, Int.reduceTMod, Int.reduceTDiv, Int.reduceToNat, okChain_i, okLoads_nil, okLoads_in, okLoads_eq]; rfl)
    · rw [decide_eq_false hbf] at q13
      generalize rcR m = Q at *
      obtain ⟨s2', m2, l2, a2, b2, c2, d2⟩ := Q
      simp only [Rec.L] at k11
      refine ⟨?ρ2, _, w4, m', ?run2, end9 ?Z2 ?ρ2 ?_ ?_ ?_⟩
      case run2 =>
        simp (maxDischargeDepth := 8) only [l9_0, c9_0, c9_1, c9_2, c9_3, c9_4, c9_5, c9_6, c9_7, c9_8, c9_9, c9_10, c9_11, c9_12, c9_13, c9_14, c9_15, c9_16, c9_17, c9_18, c9_19, c9_20, c9_21, c9_22, c9_23, c9_24, c9_25, c9_26, c9_27, c9_28, q0, q1, q2, q10, q11, q13, q14, lA, hlt, wi, wm, hT, x1, x2, x3, j1, e1, ← hG2, k15, i15, e2, lw', x4, x5, x6, j2, nf, e4, e5, ← hF6, hge, k19, i19, k15', i15', k11, i11, s1, s2, lf, RUN, Ed, knd, kndR, resV, binInt, mnmxV, mnmx2, fillL, unV, extractV, partV, loadAt, Nat.reduceAdd, Nat.reduceBEq, Nat.reduceEqDiff, Nat.reduceLT, Nat.reduceLeDiff, Nat.reduceMul, Nat.reduceSub, reduceIte, Int.reduceEq, Int.reduceNe, Int.reduceLT, Int.reduceLE, Int.reduceAdd, Int.reduceSub, Int.reduceMul, Int.reduceNeg, Int.reduceMod, Int.reduceDiv, Int.reduceTMod, Int.reduceTDiv, Int.reduceToNat, okChain_i, okLoads_nil, okLoads_in, okLoads_eq]
        rfl
      all_goals first | (simp (maxDischargeDepth := 8) only [RUN, Ed, knd, kndR, resV, binInt, mnmxV, mnmx2, fillL, unV, lenV, extractV, partV, loadAt, Nat.reduceAdd, Nat.reduceBEq, Nat.reduceEqDiff, Nat.reduceLT, Nat.reduceLeDiff, Nat.reduceMul, Nat.reduceSub, reduceIte, Int.reduceEq, Int.reduceNe, Int.reduceLT, Int.reduceLE, Int.reduceAdd, Int.reduceSub, Int.reduceMul, Int.reduceNeg, Int.reduceMod, Int.reduceDiv, Int.reduceTMod, Int.reduceTDiv, Int.reduceToNat, okChain_i, okLoads_nil, okLoads_in, okLoads_eq]; done) | (simp (maxDischargeDepth := 8) only [RUN, Ed, knd, kndR, resV, binInt, mnmxV, mnmx2, fillL, unV, lenV, extractV, partV, loadAt, Nat.reduceAdd, Nat.reduceBEq, Nat.reduceEqDiff, Nat.reduceLT, Nat.reduceLeDiff, Nat.reduceMul, Nat.reduceSub, reduceIte, Int.reduceEq, Int.reduceNe, Int.reduceLT, Int.reduceLE, Int.reduceAdd, Int.reduceSub, Int.reduceMul, Int.reduceNeg, Int.reduceMod, Int.reduceDiv, Int.reduceTMod, Int.reduceTDiv, Int.reduceToNat, okChain_i, okLoads_nil, okLoads_in, okLoads_eq]; rfl)
  · have hge : ¬ (45 : Int) ≤ (n : Int) := by omega
    have hto : nw m' = nw m ∧ nr m' = nr m := by
      by_cases h0 : n = 0
      · rw [h0, List.take_zero] at hm'
        rw [← hm']
        exact ⟨rfl, rfl⟩
      · rw [wrs_take _ _ n (by omega) (by omega)] at hm'
        rw [← hm']
        exact torn_nw m hm _ (n - 1) (by omega)
    obtain ⟨t1, t2⟩ := hto
    rw [t1] at r1 r2
    rw [t2, ← r4] at r2
    rw [r2] at e5 hF6 k19
    rw [r1] at e5
    have end9 : ∀ (Z : Heap) (ρ' : Fr), ρ' 14 = .int .i64 (i + 1 : Nat) → ρ' 10 = w4 → ρ' 13 = .bool (decide (0 ≤ nw m)) → I9 H0 p (i + 1) w4 m' ρ' (F6 ++ Z) := by
      intro Z ρ' a14 a10 a13
      refine ⟨a14, a10, by rw [a13, t1], (ex.trans zz0).app Z, hb6.ext (Ext.more _ Z), hml, ?_⟩
      rw [r2]
      exact (Ext.more F6 Z).live k11
    have hRL : R.L = [.int .u32 R.s, .int .i64 R.m, .int .u32 R.l, .int .i64 R.a, .int .i64 R.b, .int .i64 R.c, .int .i64 R.d] := rfl
    rw [hRL] at e1 e2 hG2 k15 k15'
    obtain ⟨X7, e7⟩ := sameRec_f (rcR m) (rcR m) F6
    rw [decide_eq_true rfl] at e7
    generalize rcR m = Q at *
    obtain ⟨s2', m2, l2, a2, b2, c2, d2⟩ := Q
    simp only [Rec.L] at k11 e5 hF6 k19 e7
    by_cases hbf : 0 ≤ nw m
    · rw [decide_eq_true hbf] at q13 end9
      rw [if_neg (by omega)] at e5
      simp only [EV] at e5
      refine ⟨?ρ3, _, w4, m', ?run3, end9 X7 ?ρ3 ?_ ?_ ?_⟩
      case run3 =>
        simp (maxDischargeDepth := 8) only [l9_0, c9_0, c9_1, c9_2, c9_3, c9_4, c9_5, c9_6, c9_7, c9_8, c9_9, c9_10, c9_11, c9_12, c9_13, c9_14, c9_15, c9_16, c9_17, c9_18, c9_19, c9_20, c9_21, c9_22, c9_23, c9_24, c9_25, c9_26, c9_27, c9_28, q0, q1, q2, q10, q11, q13, q14, lA, hlt, wi, wm, hT, x1, x2, x3, j1, e1, ← hG2, k15, i15, e2, lw', x4, x5, x6, j2, nf, e4, e5, ← hF6, hge, k19, i19, k15', i15', k11, i11, e7, RUN, Ed, knd, kndR, resV, binInt, mnmxV, mnmx2, fillL, unV, extractV, partV, loadAt, Nat.reduceAdd, Nat.reduceBEq, Nat.reduceEqDiff, Nat.reduceLT, Nat.reduceLeDiff, Nat.reduceMul, Nat.reduceSub, reduceIte, Int.reduceEq, Int.reduceNe, Int.reduceLT, Int.reduceLE, Int.reduceAdd, Int.reduceSub, Int.reduceMul, Int.reduceNeg, Int.reduceMod, Int.reduceDiv, Int.reduceTMod, Int.reduceTDiv, Int.reduceToNat, okChain_i, okLoads_nil, okLoads_in, okLoads_eq]
        rfl
      all_goals first | (simp (maxDischargeDepth := 8) only [q13, RUN, Ed, knd, kndR, resV, binInt, mnmxV, mnmx2, fillL, unV, lenV, extractV, partV, loadAt, Nat.reduceAdd, Nat.reduceBEq, Nat.reduceEqDiff, Nat.reduceLT, Nat.reduceLeDiff, Nat.reduceMul, Nat.reduceSub, reduceIte, Int.reduceEq, Int.reduceNe, Int.reduceLT, Int.reduceLE, Int.reduceAdd, Int.reduceSub, Int.reduceMul, Int.reduceNeg, Int.reduceMod, Int.reduceDiv, Int.reduceTMod, Int.reduceTDiv, Int.reduceToNat, okChain_i, okLoads_nil, okLoads_in, okLoads_eq]; done) | (simp (maxDischargeDepth := 8) only [q13, RUN, Ed, knd, kndR, resV, binInt, mnmxV, mnmx2, fillL, unV, lenV, extractV, partV, loadAt, Nat.reduceAdd, Nat.reduceBEq, Nat.reduceEqDiff, Nat.reduceLT, Nat.reduceLeDiff, Nat.reduceMul, Nat.reduceSub, reduceIte, Int.reduceEq, Int.reduceNe, Int.reduceLT, Int.reduceLE, Int.reduceAdd, Int.reduceSub, Int.reduceMul, Int.reduceNeg, Int.reduceMod, Int.reduceDiv, Int.reduceTMod, Int.reduceTDiv, Int.reduceToNat, okChain_i, okLoads_nil, okLoads_in, okLoads_eq]; rfl)
    · rw [decide_eq_false hbf] at q13 end9
      rw [if_pos (by omega)] at e5
      simp only [EV] at e5
      have e9 := end9 []
      rw [List.append_nil] at e9
      refine ⟨?ρ4, F6, w4, m', ?run4, e9 ?ρ4 ?_ ?_ ?_⟩
      case run4 =>
        simp (maxDischargeDepth := 8) only [l9_0, c9_0, c9_1, c9_2, c9_3, c9_4, c9_5, c9_6, c9_7, c9_8, c9_9, c9_10, c9_11, c9_12, c9_13, c9_14, c9_15, c9_16, c9_17, c9_18, c9_19, c9_20, c9_21, c9_22, c9_23, c9_24, c9_25, c9_26, c9_27, c9_28, q0, q1, q2, q10, q11, q13, q14, lA, hlt, wi, wm, hT, x1, x2, x3, j1, e1, ← hG2, k15, i15, e2, lw', x4, x5, x6, j2, nf, e4, e5, ← hF6, hge, k19, i19, k15', i15', k11, i11, same_En, RUN, Ed, knd, kndR, resV, binInt, mnmxV, mnmx2, fillL, unV, extractV, partV, loadAt, Nat.reduceAdd, Nat.reduceBEq, Nat.reduceEqDiff, Nat.reduceLT, Nat.reduceLeDiff, Nat.reduceMul, Nat.reduceSub, reduceIte, Int.reduceEq, Int.reduceNe, Int.reduceLT, Int.reduceLE, Int.reduceAdd, Int.reduceSub, Int.reduceMul, Int.reduceNeg, Int.reduceMod, Int.reduceDiv, Int.reduceTMod, Int.reduceTDiv, Int.reduceToNat, okChain_i, okLoads_nil, okLoads_in, okLoads_eq]
        rfl
      all_goals first | (simp (maxDischargeDepth := 8) only [q13, RUN, Ed, knd, kndR, resV, binInt, mnmxV, mnmx2, fillL, unV, lenV, extractV, partV, loadAt, Nat.reduceAdd, Nat.reduceBEq, Nat.reduceEqDiff, Nat.reduceLT, Nat.reduceLeDiff, Nat.reduceMul, Nat.reduceSub, reduceIte, Int.reduceEq, Int.reduceNe, Int.reduceLT, Int.reduceLE, Int.reduceAdd, Int.reduceSub, Int.reduceMul, Int.reduceNeg, Int.reduceMod, Int.reduceDiv, Int.reduceTMod, Int.reduceTDiv, Int.reduceToNat, okChain_i, okLoads_nil, okLoads_in, okLoads_eq]; done) | (simp (maxDischargeDepth := 8) only [q13, RUN, Ed, knd, kndR, resV, binInt, mnmxV, mnmx2, fillL, unV, lenV, extractV, partV, loadAt, Nat.reduceAdd, Nat.reduceBEq, Nat.reduceEqDiff, Nat.reduceLT, Nat.reduceLeDiff, Nat.reduceMul, Nat.reduceSub, reduceIte, Int.reduceEq, Int.reduceNe, Int.reduceLT, Int.reduceLE, Int.reduceAdd, Int.reduceSub, Int.reduceMul, Int.reduceNeg, Int.reduceMod, Int.reduceDiv, Int.reduceTMod, Int.reduceTDiv, Int.reduceToNat, okChain_i, okLoads_nil, okLoads_in, okLoads_eq]; rfl)
end Go.Proofs.YtdipdpkdmiokeaaDoor.Sim
