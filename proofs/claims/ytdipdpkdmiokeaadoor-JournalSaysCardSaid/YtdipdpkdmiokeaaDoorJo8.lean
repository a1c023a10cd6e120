/- What is spoilt leaves the record before. -/
import Derived.Test.YtdipdpkdmiokeaaDoorJo7
import Derived.Test.YtdipdpkdmiokeaaDoorSim21
namespace Go.Proofs.YtdipdpkdmiokeaaDoor.Sim
open Go Go.Proofs.YtdipdpkdmiokeaaDoor.CrcMath
set_option linter.unusedSimpArgs false
set_option linter.unusedVariables false
def nslot (m : List B8) : List B8 := if nw m = 0 then m.take 44 else m.drop 44
def oslot (m : List B8) : List B8 := if nw m = 0 then m.drop 44 else m.take 44
theorem full_halves (m : List B8) (hm : m.length = 88) (R : Rec) : (nw m = 0 → (ap m (wrs R (aw m))).take 44 = m.take 44 ∧ (ap m (wrs R (aw m))).drop 44 = recB R) ∧ (nw m ≠ 0 → (ap m (wrs R (aw m))).take 44 = recB R ∧ (ap m (wrs R (aw m))).drop 44 = m.drop 44) := by
  have hl : (ap m (wrs R (aw m))).length = 88 := by rw [ap_len, hm]
  have hlen := recB_len R
  have hx := ap_wrs m R (aw m) (by unfold aw; split <;> omega)
  constructor
  · intro h
    have ha : aw m = 44 := by unfold aw; rw [h]; rfl
    rw [ha] at hx hl ⊢
    refine ⟨halves _ _ hm hl (fun i hi => by rw [hx i, if_neg (by omega)]), ext_ix _ _ (by simp [hl, hlen]) (fun i hi => ?_)⟩
    have hi' : i < 44 := by simp [hl] at hi; omega
    rw [ix_drop, hx (44 + i), if_pos (by omega), show 44 + i - 44 = i by omega]
  · intro h
    have ha : aw m = 0 := if_neg h
    rw [ha] at hx hl ⊢
    refine ⟨ext_ix _ _ (by simp [hl, hlen]) (fun i hi => ?_), halves2 _ _ hm hl (fun i hi => by rw [hx i, if_neg (by omega)])⟩
    have hi' : i < 44 := by simp at hi; omega
    rw [ix_take _ _ _ hi', hx i, if_pos (by omega), Nat.sub_zero]
theorem slots_full (m : List B8) (hm : m.length = 88) (r : Rec) (hg : good r = true) (hl0 : 0 ≤ r.l) : nslot (ap m (wrs (rn m r) (aw m))) = recB (rn m r) ∧ (nw m ≠ -1 → oslot (ap m (wrs (rn m r) (aw m))) = nslot m) := by
  obtain ⟨f1, _⟩ := full_nw m hm r hg hl0
  obtain ⟨h1, h2⟩ := full_halves m hm (rn m r)
  unfold nslot oslot
  rw [f1]
  by_cases h : nw m = 0
  · obtain ⟨a, b⟩ := h1 h
    rw [if_pos h, if_neg (by omega), if_neg (by omega), if_pos h]
    exact ⟨b, fun _ => a⟩
  · obtain ⟨a, b⟩ := h2 h
    rw [if_neg h, if_pos rfl, if_pos rfl, if_neg h]
    exact ⟨a, fun _ => b⟩
theorem nslot_good (m : List B8) (hm : m.length = 88) (h : nw m ≠ -1) : rdC (nslot m) = none ∧ rdR (nslot m) = nr m := by
  obtain ⟨n1, n2, n3⟩ := nr_of m
  unfold nslot
  rcases nw_cases m hm with ⟨h1, _, _⟩ | ⟨h1, h2⟩ | ⟨h1, h2⟩
  · exact absurd h1 h
  · rw [if_pos h1]; exact ⟨h2, (n1 h1).symm⟩
  · rw [if_neg (by omega)]; exact ⟨h2, (n2 h1).symm⟩
theorem rdC_flip (r : Rec) (y j : Nat) (hy : y < 44) (hj : j < 8) : rdC ((recB r).set y (ix (recB r) y ^^^ 1#8 <<< j)) ≠ none := by
  have hb : (recB r).set y (ix (recB r) y ^^^ 1#8 <<< j) = bitTurned (recB r) (8 * y + j) := by
    unfold bitTurned
    rw [show (8 * y + j) / 8 = y by omega, show (8 * y + j) % 8 = j by omega]; rfl
  by_cases h : y = 0
  · subst h
    apply rdC_blank'
    rw [ix_set_eq _ _ _ (by rw [recB_len]; omega)]
    intro e
    rw [recB_head] at e
    exact flip_ne _ j hj e
  · rw [hb, rdC_turned r _ (by omega) (by omega)]
    simp
theorem flip_nw (m : List B8) (hm : m.length = 88) (R : Rec) (hs : nslot m = recB R) (ho : rdC (oslot m) = none) (y j : Nat) (hy : y < 44) (hj : j < 8) :
    (nw m = 0 → nw (m.set y (ix m y ^^^ 1#8 <<< j)) = 1 ∧ nr (m.set y (ix m y ^^^ 1#8 <<< j)) = rdR (oslot m) ∧ nw ((m.set y (ix m y ^^^ 1#8 <<< j)).set 44 0#8) = -1) ∧
    (nw m = 1 → nw (m.set (44 + y) (ix m (44 + y) ^^^ 1#8 <<< j)) = 0 ∧ nr (m.set (44 + y) (ix m (44 + y) ^^^ 1#8 <<< j)) = rdR (oslot m) ∧ nw ((m.set (44 + y) (ix m (44 + y) ^^^ 1#8 <<< j)).set 0 0#8) = -1) := by
  have hlen := recB_len R
  constructor
  · intro h
    unfold nslot at hs
    unfold oslot at ho ⊢
    rw [if_pos h] at hs ho ⊢
    generalize hX : ix m y ^^^ 1#8 <<< j = X at *
    have hX' : X = ix (recB R) y ^^^ 1#8 <<< j := by rw [← hX, ← hs, ix_take _ _ _ hy]
    have a1 : (m.set y X).take 44 = (recB R).set y X := by rw [List.take_set, hs]
    have a2 : (m.set y X).drop 44 = m.drop 44 := by rw [List.drop_set, if_pos hy]
    have bad : rdC ((m.set y X).take 44) ≠ none := by rw [a1, hX']; exact rdC_flip R y j hy hj
    have e := nw_eq (m.set y X) (by rw [List.length_set, hm])
    have e1 : nw (m.set y X) = 1 := by
      rw [e]; unfold nwP; rw [if_pos bad, a2, if_neg (by simp [ho])]
    refine ⟨e1, by rw [(nr_of _).2.1 e1, a2], ?_⟩
    rw [nw_eq _ (by rw [List.length_set, List.length_set, hm])]
    unfold nwP
    rw [if_pos (by rw [List.take_set, List.set_eq_of_length_le (by rw [List.length_take]; omega)]; exact bad), if_pos]
    apply rdC_blank'
    rw [ix_drop, ix_set_eq _ _ _ (by rw [List.length_set]; omega)]
    decide
  · intro h
    unfold nslot at hs
    unfold oslot at ho ⊢
    rw [if_neg (by omega)] at hs ho ⊢
    generalize hX : ix m (44 + y) ^^^ 1#8 <<< j = X at *
    have hX' : X = ix (recB R) y ^^^ 1#8 <<< j := by rw [← hX, ← hs, ix_drop]
    have a1 : (m.set (44 + y) X).drop 44 = (recB R).set y X := by rw [List.drop_set, if_neg (by omega), hs, show 44 + y - 44 = y by omega]
    have a2 : (m.set (44 + y) X).take 44 = m.take 44 := by rw [List.take_set, List.set_eq_of_length_le (by rw [List.length_take]; omega)]
    have bad : rdC ((m.set (44 + y) X).drop 44) ≠ none := by rw [a1, hX']; exact rdC_flip R y j hy hj
    have e := nw_eq (m.set (44 + y) X) (by rw [List.length_set, hm])
    have e1 : nw (m.set (44 + y) X) = 0 := by
      rw [e]; unfold nwP; rw [a2, if_neg (by simp [ho]), if_pos bad]
    refine ⟨e1, by rw [(nr_of _).1 e1, a2], ?_⟩
    rw [nw_eq _ (by rw [List.length_set, List.length_set, hm])]
    unfold nwP
    rw [if_pos, if_pos (by rw [List.drop_set, if_pos (by omega)]; exact bad)]
    apply rdC_blank'
    rw [ix_take _ _ _ (by omega), ix_set_eq _ _ _ (by rw [List.length_set]; omega)]
    decide
def rL (l : List Rec) : List Value := (l.map Rec.L).flatten
theorem rL_app (l k : List Rec) : rL (l ++ k) = rL l ++ rL k := by simp [rL]
theorem rL_get : ∀ (l : List Rec) (j : Nat) (r : Rec), l[j]? = some r → j * 7 + 7 ≤ (rL l).length ∧ ((rL l).drop (j * 7)).take 7 = r.L := by
  intro l
  induction l with
  | nil => intro j p h; simp at h
  | cons a l ih =>
    intro j p h
    have hc : rL (a :: l) = a.L ++ rL l := by simp [rL]
    have ha : a.L.length = 7 := rfl
    cases j with
    | zero =>
      rw [List.getElem?_cons_zero] at h
      injection h with h
      subst h
      rw [hc]
      refine ⟨by simp [ha], ?_⟩
      rw [Nat.zero_mul, List.drop_zero, List.take_left' ha]
    | succ j =>
      rw [List.getElem?_cons_succ] at h
      obtain ⟨h1, h2⟩ := ih j p h
      rw [hc]
      refine ⟨by simp [ha]; omega, ?_⟩
      rw [show (j + 1) * 7 = 7 + j * 7 by omega, ← List.drop_drop, List.drop_left' ha]
      exact h2
def RcO (H G : Heap) (w : Value) (l : List Rec) : Prop := SM 26 7 H G w l.length (rL l)
theorem Rec.L_one (r : Rec) : r.L.all Value.oneCell' = true := rfl
theorem RcO.app1 {H G : Heap} {w v : Value} {l : List Rec} {m : List B8} (h : RcO H G w l) (hG : Ext H G) (hl : l.length ≤ 1000000) (hb : BO H G v m) (r : Rec) : ∃ w' F', appendV 26 7 56 (G ++ [some ⟨true, 26, r.L⟩]) w (.slice (some ⟨G.length, 0, none⟩) 1 7) = some (w', F') ∧ RcO H F' w' (l ++ [r]) ∧ Ext H F' ∧ BO H F' v m := by
  obtain ⟨w', F', h1, h2, h3, h4, _⟩ := SM.append (bytes := 56) h hG (Ext.more G [some ⟨true, 26, r.L⟩]) (j := G.length) (m := 1) (e := 7) ((live_app_len _ _).trans rfl) (by omega) (by rfl) (by omega) (Rec.L_one r)
  refine ⟨w', F', h1, ?_, h3, ?_⟩
  · unfold RcO
    rw [rL_app, List.length_append, show rL [r] = r.L by simp [rL]]
    exact h2
  · rcases hb with hb | ⟨c, c1, c2, c3, c4⟩
    · exact .inl hb
    · refine .inr ⟨c, c1, c2, h4 c _ ?_ ((Ext.more G _).live c3), c4⟩
      rintro ⟨n, e, rfl⟩
      rcases h with ⟨_, h, _⟩ | ⟨d, _, h, d3, _⟩
      · cases h
      · injection h with h; injection h with h; injection h with h
        subst h
        rw [c3] at d3
        injection d3 with d3
        injection d3 with _ d3
        cases d3
theorem RcO.ext {H G F : Heap} {w : Value} {l : List Rec} (h : RcO H G w l) (e : Ext G F) : RcO H F w l := SM.ext h e
theorem RcO.idx {H G : Heap} {w : Value} {l : List Rec} (h : RcO H G w l) {j : Nat} {r : Rec} (hr : l[j]? = some r) : ∃ i, idxSV 7 w (.int .i64 j) = some (.pointer (some ⟨i, j * 7, none⟩)) ∧ ∃ cells, live G i = some ⟨true, 26, cells⟩ ∧ j * 7 + 7 ≤ cells.length ∧ (cells.drop (j * 7)).take 7 = r.L ∧ cells[j * 7]? = some (.int .u32 r.s) := by
  have hj : j < l.length := by
    rcases Nat.lt_or_ge j l.length with q | q
    · exact q
    · rw [List.getElem?_eq_none q] at hr; cases hr
  rcases h with ⟨h, _, _⟩ | ⟨i, _, rfl, h3, _⟩
  · omega
  · obtain ⟨g1, g2⟩ := rL_get l j r hr
    have a1 : (List.take 7 (List.drop (j * 7) (rL l)))[0]? = some (.int .u32 r.s) := by rw [g2]; rfl
    rw [List.getElem?_take, if_pos (by omega), List.getElem?_drop] at a1
    refine ⟨i, ?_, rL l, h3, g1, g2, by simpa using a1⟩
    rw [idxS_s _ _ _ _ _ _ _ (by omega) (by omega)]
    simp
structure I11 (H0 : Heap) (i : Nat) (w lw : Value) (m : List B8) (L : List Rec) (ρ : Fr) (G : Heap) : Prop where
  q14 : ρ 14 = .int .i64 i
  q12 : ρ 12 = w
  q13 : ρ 13 = lw
  ex : Ext H0 G
  hb : BO H0 G w m
  ho : RcO H0 G lw L
  hm : m.length = 88
  hn : nw m = Jn i
  hs : (nr m).s = i
  hL : L.length = i
  h1 : 1 ≤ i → L[i - 1]? = some (nr m) ∧ nslot m = recB (nr m)
  h2 : 2 ≤ i → rdC (oslot m) = none ∧ L[i - 2]? = some (rdR (oslot m)) ∧ (rdR (oslot m)).s = (i - 1 : Nat)
theorem Jn_ge (i : Nat) (h : 1 ≤ i) : Jn i = 0 ∨ Jn i = 1 := by
  unfold Jn
  rw [if_neg (by omega)]
  omega
theorem step11 (H0 : Heap) (hE0 : EH all7 H0) (t : Int) (n i : Nat) (hi : i < n) (hn6 : n ≤ 6) (w lw : Value) (m : List B8) (L : List Rec) (ρ : Fr) (G : Heap) (hI : I11 H0 i w lw m L ρ G) (q0 : ρ 0 = .int .i64 (n : Nat)) (q1 : ρ 1 = .int .i64 t) :
    ∃ ρ' F w' lw' m' L', E Tryd.prog hints l11_0 ρ G = some (.normal, ρ', F) ∧ I11 H0 (i + 1) w' lw' m' L' ρ' F := by
  obtain ⟨q14, q12, q13, ex, hb, ho, hm, hn, hs, hL, h1, h2⟩ := hI
  have hE := hE0.ext ex
  have hlt : (i : Int) < (n : Int) := by omega
  have wi := wrap64 ((i : Int) + 1) (by omega) (by omega)
  generalize hT : IntKind.i64.wrap (t + (i : Int)) = T at *
  obtain ⟨X1, e1⟩ := record_f i T G (by omega) (by omega)
  obtain ⟨G1, hG1⟩ : ∃ G1, G1 = G ++ X1 := ⟨_, rfl⟩
  rw [← hG1] at e1
  have y1 : Ext G G1 := ⟨_, hG1⟩
  have gd := recO_good i T
  have l0 : 0 ≤ (recO i T).l := by unfold recO; simp only; omega
  generalize recO i T = R at *
  have E1 := hE.ext y1
  obtain ⟨ws, F1, e2, z1, hW⟩ := writes_f w m hm R gd G1 E1 (hb.BS.ext y1)
  have hwl := wrs_len (rn m R) (aw m)
  have lww := hW.len
  rw [hwl] at lww
  have lw' : lenV false ws = some (.int .i64 45) := lww
  obtain ⟨w4, F4, e4, z4, hb4⟩ := apply_f w ws m (by omega) (wrs (rn m R) (aw m)) (by omega) 45 F1 ((hb.BS.ext y1).ext z1) hW
  rw [List.take_of_length_le (by rw [hwl]; decide)] at hb4
  obtain ⟨f1, f2⟩ := full_nw m hm R gd l0
  obtain ⟨f3, f4⟩ := slots_full m hm R gd l0
  generalize hm' : ap m (wrs (rn m R) (aw m)) = m' at *
  have hml : m'.length = 88 := by rw [← hm', ap_len, hm]
  have E4 := (E1.ext z1).ext z4
  obtain ⟨X5, e5⟩ := recover_f w4 m' (by omega) F4 E4 hb4.BS
  obtain ⟨F5, hF5⟩ : ∃ F5, F5 = F4 ++ X5 := ⟨_, rfl⟩
  rw [← hF5] at e5
  have z5 : Ext F4 F5 := ⟨_, hF5⟩
  have hnn := nw_full m
  rw [← f1] at hnn
  obtain ⟨r1, r2⟩ := rc_of m' hml
  rw [if_neg hnn] at r1 r2
  rw [r1, r2] at e5
  simp only [EV] at e5
  obtain ⟨F6, hF6⟩ : ∃ F6, F6 = F5 ++ [some ⟨true, 26, (nr m').L⟩] := ⟨_, rfl⟩
  have z6 : Ext F5 F6 := ⟨_, hF6⟩
  have k17 : live F6 F5.length = some ⟨true, 26, (nr m').L⟩ := by rw [hF6]; exact (live_app_len _ _).trans rfl
  have i17 := live_ltG k17
  have hs' : (nr m').s = ((i + 1 : Nat) : Int) := by
    rw [f2]
    show IntKind.u32.wrap ((nr m).s + 1) = _
    rw [hs, wrapu32]; omega
  have ex1 : Ext H0 F1 := (ex.trans y1).trans z1
  have ex6 : Ext H0 F6 := ((ex1.trans z4).trans z5).trans z6
  have hb6 : BO H0 F6 w4 m' := (hb4.low' ex1).ext (z5.trans z6)
  have ho6 : RcO H0 F6 lw L := ho.ext (((((y1.trans z1).trans z4).trans z5).trans z6))
  obtain ⟨lw2, F7, ea, ho7, ex7, hb7⟩ := ho6.app1 ex6 (by omega) hb6 (nr m')
  have hn' : nw m' = Jn (i + 1) := by rw [f1, hn, Jn_step]
  have end11 : ∀ ρ', ρ' 14 = .int .i64 (i + 1 : Nat) → ρ' 12 = w4 → ρ' 13 = lw2 → I11 H0 (i + 1) w4 lw2 m' (L ++ [nr m']) ρ' F7 := by
    intro ρ' a14 a12 a13
    refine ⟨a14, a12, a13, ex7, hb7, ho7, hml, hn', hs', by rw [List.length_append, hL]; rfl, fun _ => ⟨?_, ?_⟩, fun h => ?_⟩
    · rw [Nat.add_sub_cancel, List.getElem?_append_right (by omega), hL, Nat.sub_self]; rfl
    · rw [f3, f2]
    · have hi1 : 1 ≤ i := by omega
      have hne : nw m ≠ -1 := by rw [hn]; have := Jn_ge i hi1; omega
      obtain ⟨g1, g2⟩ := nslot_good m hm hne
      rw [f4 hne]
      refine ⟨g1, ?_, by rw [g2, hs]; omega⟩
      rw [g2, List.getElem?_append_left (by omega), show i + 1 - 2 = i - 1 by omega]
      exact (h1 hi1).1
  have hsw : IntKind.i64.wrap (nr m').s = (i : Int) + 1 := by rw [hs', wrap64 _ (by omega) (by omega)]; rfl
  generalize nr m' = Q at *
  obtain ⟨s2', m2, l2, a2, b2, c2, d2⟩ := Q
  obtain ⟨s3', m3, l3, a3, b3, c3, d3⟩ := R
  simp only [Rec.L] at e1 e2 e5 hF6 k17 ea
  simp only at hsw
  refine ⟨?ρ1, F7, w4, lw2, m', _, ?run1, end11 ?ρ1 ?_ ?_ ?_⟩
  case run1 =>
    simp (maxDischargeDepth := 8) only [l11_0, c11_0, c11_1, c11_2, c11_3, c11_4, c11_5, c11_6, c11_7, c11_8, c11_9, c11_10, c11_11, c11_12, c11_13, c11_14, c11_15, c11_16, c11_17, c11_18, c11_19, c11_20, c11_21, c11_22, c11_23, c11_24, c11_25, c11_26, c11_27, c11_28, c11_29, q0, q1, q12, q13, q14, hlt, hT, e1, e2, lw', e4, e5, ← hF6, k17, i17, hsw, wi, fillL, ea, RUN, Ed, knd, kndR, resV, binInt, mnmxV, mnmx2, fillL, unV, extractV, partV, loadAt, Nat.reduceAdd, Nat.reduceBEq, Nat.reduceEqDiff, Nat.reduceLT, Nat.reduceLeDiff, Nat.reduceMul, Nat.reduceSub, reduceIte, Int.reduceEq, Int.reduceNe, Int.reduceLT, Int.reduceLE, Int.reduceAdd, Int.reduceSub, Int.reduceMul, Int.reduceNeg, Int.reduceMod, Int.reduceDiv, Int.reduceTMod, Int.reduceTDiv, Int.reduceToNat, okChain_i, okLoads_nil, okLoads_in, okLoads_eq]
    rfl
  all_goals first | (simp (maxDischargeDepth := 8) only [RUN, Ed, knd, kndR, resV, binInt, mnmxV, mnmx2, fillL, unV, lenV, extractV, partV, loadAt, Nat.reduceAdd, Nat.reduceBEq, Nat.reduceEqDiff, Nat.reduceLT, Nat.reduceLeDiff, Nat.reduceMul, Nat.reduceSub, reduceIte, Int.reduceEq, Int.reduceNe, Int.reduceLT, Int.reduceLE, Int.reduceAdd, Int.reduceSub, Int.reduceMul, Int.reduceNeg, Int.reduceMod, Int.reduceDiv, Int.reduceTMod, Int.reduceTDiv, Int.reduceToNat, okChain_i, okLoads_nil, okLoads_in, okLoads_eq]; done) | (simp (maxDischargeDepth := 8) only [RUN, Ed, knd, kndR, resV, binInt, mnmxV, mnmx2, fillL, unV, lenV, extractV, partV, loadAt, Nat.reduceAdd, Nat.reduceBEq, Nat.reduceEqDiff, Nat.reduceLT, Nat.reduceLeDiff, Nat.reduceMul, Nat.reduceSub, reduceIte, Int.reduceEq, Int.reduceNe, Int.reduceLT, Int.reduceLE, Int.reduceAdd, Int.reduceSub, Int.reduceMul, Int.reduceNeg, Int.reduceMod, Int.reduceDiv, Int.reduceTMod, Int.reduceTDiv, Int.reduceToNat, okChain_i, okLoads_nil, okLoads_in, okLoads_eq]; rfl)
end Go.Proofs.YtdipdpkdmiokeaaDoor.Sim
