/- The plain law of a journal: what a torn write leaves, and what a whole one brings. -/
import Derived.Test.YtdipdpkdmiokeaaDoorJo3
namespace Go.Proofs.YtdipdpkdmiokeaaDoor.Sim
open Go Go.Proofs.YtdipdpkdmiokeaaDoor.CrcMath
set_option linter.unusedSimpArgs false
set_option linter.unusedVariables false
theorem ext_ix (l m : List B8) (h : l.length = m.length) (g : ∀ i, i < l.length → ix l i = ix m i) : l = m := by
  apply List.ext_getElem? 
  intro i
  rcases Nat.lt_or_ge i l.length with hi | hi
  · rw [ix_get hi, ix_get (by omega), g i hi]
  · rw [List.getElem?_eq_none hi, List.getElem?_eq_none (by omega)]
theorem ix_take (m : List B8) (k i : Nat) (h : i < k) : ix (m.take k) i = ix m i := by
  unfold ix
  rw [List.getD_eq_getElem?_getD, List.getD_eq_getElem?_getD, List.getElem?_take, if_pos h]
theorem ix_drop (m : List B8) (k i : Nat) : ix (m.drop k) i = ix m (k + i) := by
  unfold ix
  rw [List.getD_eq_getElem?_getD, List.getD_eq_getElem?_getD, List.getElem?_drop]
theorem st_at (m : List B8) (k : Nat) (x : B8) (h : k < m.length) : st m (((k : Nat) : Int), x) = m.set k x := by
  unfold st
  simp only
  rw [if_pos (by omega), Int.toNat_natCast]
theorem ap_one (m : List B8) (p : Wr) : ap m [p] = st m p := rfl
theorem ap_wrk (m : List B8) (r : Rec) (k : Nat) (hk : k + 44 ≤ m.length) : ∀ j, j ≤ 43 → ∀ i, ix (ap m (wrk r k j)) i = if i = k then 0#8 else if k < i ∧ i ≤ k + j then ix (recB r) (i - k) else ix m i := by
  intro j
  induction j with
  | zero =>
    intro _ i
    have : ap m (wrk r k 0) = m.set k 0#8 := st_at m k 0#8 (by omega)
    rw [this]
    by_cases hi : i = k
    · rw [if_pos hi, hi, ix_set_eq _ _ _ (by omega)]
    · rw [if_neg hi, if_neg (by omega), ix_set_ne _ _ _ _ (by omega)]
  | succ j ih =>
    intro hj i
    have hs : ap m (wrk r k (j + 1)) = (ap m (wrk r k j)).set (k + 1 + j) (ix (recB r) (j + 1)) := by
      rw [wrk_succ, ap_app, ap_one, st_at _ _ _ (by rw [ap_len]; omega)]
    rw [hs]
    by_cases hi : i = k + 1 + j
    · rw [hi, ix_set_eq _ _ _ (by rw [ap_len]; omega), if_neg (by omega), if_pos (by omega), show k + 1 + j - k = j + 1 by omega]
    · rw [ix_set_ne _ _ _ _ (by omega), ih (by omega) i]
      by_cases h2 : i = k
      · rw [if_pos h2, if_pos h2]
      · rw [if_neg h2, if_neg h2]
        by_cases h3 : k < i ∧ i ≤ k + j
        · rw [if_pos h3, if_pos (by omega)]
        · rw [if_neg h3, if_neg (by omega)]
theorem wrs_eq (r : Rec) (k : Nat) : wrs r k = wrk r k 43 ++ [(((k : Nat) : Int), 0xa5#8)] := rfl
theorem ap_wrs (m : List B8) (r : Rec) (k : Nat) (hk : k + 44 ≤ m.length) (i : Nat) : ix (ap m (wrs r k)) i = if k ≤ i ∧ i < k + 44 then ix (recB r) (i - k) else ix m i := by
  have hs : ap m (wrs r k) = (ap m (wrk r k 43)).set k 0xa5#8 := by
    rw [wrs_eq, ap_app, ap_one, st_at _ _ _ (by rw [ap_len]; omega)]
  rw [hs]
  by_cases hi : i = k
  · rw [hi, ix_set_eq _ _ _ (by rw [ap_len]; omega), if_pos (by omega), Nat.sub_self]; rfl
  · rw [ix_set_ne _ _ _ _ (by omega), ap_wrk m r k hk 43 (by omega) i, if_neg hi]
    by_cases h3 : k < i ∧ i ≤ k + 43
    · rw [if_pos h3, if_pos (by omega)]
    · rw [if_neg h3, if_neg (by omega)]
theorem wrk_take (r : Rec) (k j n : Nat) (h : n ≤ j) : (wrk r k j).take (n + 1) = wrk r k n := by
  unfold wrk
  rw [List.take_succ_cons, ← List.map_take, List.take_range, Nat.min_eq_left h]
theorem wrs_take (r : Rec) (k n : Nat) (h1 : 1 ≤ n) (h2 : n ≤ 44) : (wrs r k).take n = wrk r k (n - 1) := by
  rw [wrs_eq, List.take_append_of_le_length (by rw [wrk_len]; omega), show n = (n - 1) + 1 by omega, wrk_take r k 43 (n - 1) (by omega)]
  rfl
theorem rdC_blank' (m : List B8) (h : ix m 0 ≠ 0xa5#8) : rdC m ≠ none := by
  unfold rdC
  split
  · simp
  · split
    · simp
    · first | (rw [if_pos h]; simp; done) | simp
theorem halves (m l : List B8) (hm : m.length = 88) (hl : l.length = 88) : (∀ i, i < 44 → ix l i = ix m i) → l.take 44 = m.take 44 := fun h =>
  ext_ix _ _ (by simp [hm, hl]) (fun i hi => by
    have hi' : i < 44 := by simp at hi; omega
    rw [ix_take _ _ _ hi', ix_take _ _ _ hi', h i hi'])
theorem halves2 (m l : List B8) (hm : m.length = 88) (hl : l.length = 88) : (∀ i, 44 ≤ i → ix l i = ix m i) → l.drop 44 = m.drop 44 := fun h =>
  ext_ix _ _ (by simp [hm, hl]) (fun i hi => by
    rw [ix_drop, ix_drop, h _ (by omega)])
/-- What the newest slot is, said of the two halves. -/
def nwP (lo hi : Option Nat) (a b : Rec) : Int := if lo ≠ none then (if hi ≠ none then -1 else 1) else if hi ≠ none then 0 else if later b.s a.s = true then 1 else 0
theorem nw_eq (m : List B8) (hm : m.length = 88) : nw m = nwP (rdC (m.take 44)) (rdC (m.drop 44)) (rdR (m.take 44)) (rdR (m.drop 44)) := by
  unfold nw nwP
  rw [if_neg (by omega)]
theorem nw_cases (m : List B8) (hm : m.length = 88) : (nw m = -1 ∧ rdC (m.take 44) ≠ none ∧ rdC (m.drop 44) ≠ none) ∨ (nw m = 0 ∧ rdC (m.take 44) = none) ∨ (nw m = 1 ∧ rdC (m.drop 44) = none) := by
  rw [nw_eq m hm]
  unfold nwP
  by_cases h1 : rdC (m.take 44) = none
  · by_cases h2 : rdC (m.drop 44) = none
    · by_cases h3 : later (rdR (m.drop 44)).s (rdR (m.take 44)).s = true
      · rw [if_neg (by simp [h1]), if_neg (by simp [h2]), if_pos h3]; exact .inr (.inr ⟨rfl, h2⟩)
      · rw [if_neg (by simp [h1]), if_neg (by simp [h2]), if_neg h3]; exact .inr (.inl ⟨rfl, h1⟩)
    · rw [if_neg (by simp [h1]), if_pos h2]; exact .inr (.inl ⟨rfl, h1⟩)
  · by_cases h2 : rdC (m.drop 44) = none
    · rw [if_pos h1, if_neg (by simp [h2])]; exact .inr (.inr ⟨rfl, h2⟩)
    · rw [if_pos h1, if_pos h2]; exact .inl ⟨rfl, h1, h2⟩
theorem nr_of (m : List B8) : (nw m = 0 → nr m = rdR (m.take 44)) ∧ (nw m = 1 → nr m = rdR (m.drop 44)) ∧ (nw m = -1 → nr m = Rec.z) := by
  refine ⟨fun h => ?_, fun h => ?_, fun h => ?_⟩
  · unfold nr; rw [h]; rfl
  · unfold nr; rw [h]; rfl
  · unfold nr; rw [h]; rfl
/-- A torn write leaves what was. -/
theorem torn_nw (m : List B8) (hm : m.length = 88) (r : Rec) (j : Nat) (hj : j ≤ 43) : nw (ap m (wrk r (aw m) j)) = nw m ∧ nr (ap m (wrk r (aw m) j)) = nr m := by
  have hl : (ap m (wrk r (aw m) j)).length = 88 := by rw [ap_len, hm]
  obtain ⟨n1, n2, n3⟩ := nr_of m
  obtain ⟨p1, p2, p3⟩ := nr_of (ap m (wrk r (aw m) j))
  have hx := ap_wrk m r (aw m) (by unfold aw; split <;> omega) j hj
  have e := nw_eq _ hl
  rcases nw_cases m hm with ⟨h, c1, c2⟩ | ⟨h, c1⟩ | ⟨h, c1⟩
  · have ha : aw m = 0 := by unfold aw; rw [h]; rfl
    rw [ha] at hx e p1 p2 p3 hl ⊢
    have d1 := rdC_blank' ((ap m (wrk r 0 j)).take 44) (by rw [ix_take _ _ _ (by omega), hx 0, if_pos rfl]; decide)
    have d2 : (ap m (wrk r 0 j)).drop 44 = m.drop 44 := halves2 _ _ hm hl (fun i hi => by rw [hx i, if_neg (by omega), if_neg (by omega)])
    rw [d2] at e
    unfold nwP at e
    rw [if_pos d1, if_pos c2] at e
    exact ⟨by rw [e, h], by rw [p3 e, n3 h]⟩
  · have ha : aw m = 44 := by unfold aw; rw [h]; rfl
    rw [ha] at hx e p1 p2 p3 hl ⊢
    have d1 := rdC_blank' ((ap m (wrk r 44 j)).drop 44) (by rw [ix_drop, hx 44, if_pos rfl]; decide)
    have d2 : (ap m (wrk r 44 j)).take 44 = m.take 44 := halves _ _ hm hl (fun i hi => by rw [hx i, if_neg (by omega), if_neg (by omega)])
    rw [d2] at e p1
    unfold nwP at e
    rw [if_neg (by simp [c1]), if_pos d1] at e
    exact ⟨by rw [e, h], by rw [p1 e, n1 h]⟩
  · have ha : aw m = 0 := by unfold aw; rw [h]; rfl
    rw [ha] at hx e p1 p2 p3 hl ⊢
    have d1 := rdC_blank' ((ap m (wrk r 0 j)).take 44) (by rw [ix_take _ _ _ (by omega), hx 0, if_pos rfl]; decide)
    have d2 : (ap m (wrk r 0 j)).drop 44 = m.drop 44 := halves2 _ _ hm hl (fun i hi => by rw [hx i, if_neg (by omega), if_neg (by omega)])
    rw [d2] at e p2
    unfold nwP at e
    rw [if_pos d1, if_neg (by simp [c1])] at e
    exact ⟨by rw [e, h], by rw [p2 e, n2 h]⟩
theorem later_up (s : Int) : later (IntKind.u32.wrap (s + 1)) s = true := by
  unfold later
  simp only [wrapu32, Bool.and_eq_true, decide_eq_true_eq]
  omega
theorem later_dn (s : Int) : later s (IntKind.u32.wrap (s + 1)) = false := by
  unfold later
  simp only [wrapu32, Bool.and_eq_false_iff, decide_eq_false_iff_not]
  omega
/-- A whole write brings the record. -/
theorem full_nw (m : List B8) (hm : m.length = 88) (r : Rec) (hg : good r = true) (hl0 : 0 ≤ r.l) : nw (ap m (wrs (rn m r) (aw m))) = (if nw m = 0 then 1 else 0) ∧ nr (ap m (wrs (rn m r) (aw m))) = rn m r := by
  have hl : (ap m (wrs (rn m r) (aw m))).length = 88 := by rw [ap_len, hm]
  have hlen := recB_len (rn m r)
  obtain ⟨n1, n2, n3⟩ := nr_of m
  obtain ⟨p1, p2, p3⟩ := nr_of (ap m (wrs (rn m r) (aw m)))
  have hx := ap_wrs m (rn m r) (aw m) (by unfold aw; split <;> omega)
  have e := nw_eq _ hl
  obtain ⟨g1, g2⟩ := rdC_recB (rn m r) (rn_wf m r hl0) hg
  have hs : (rn m r).s = IntKind.u32.wrap ((nr m).s + 1) := rfl
  rcases nw_cases m hm with ⟨h, c1, c2⟩ | ⟨h, c1⟩ | ⟨h, c1⟩
  · have ha : aw m = 0 := by unfold aw; rw [h]; rfl
    rw [ha] at hx e p1 p2 p3 hl ⊢
    have d1 : (ap m (wrs (rn m r) 0)).take 44 = recB (rn m r) := ext_ix _ _ (by simp [hl, hlen]) (fun i hi => by
      have hi' : i < 44 := by simp at hi; omega
      rw [ix_take _ _ _ hi', hx i, if_pos (by omega), Nat.sub_zero])
    have d2 : (ap m (wrs (rn m r) 0)).drop 44 = m.drop 44 := halves2 _ _ hm hl (fun i hi => by rw [hx i, if_neg (by omega)])
    rw [d1, d2, g1, g2] at e
    rw [d1, g2] at p1
    unfold nwP at e
    rw [if_neg (by simp), if_pos c2] at e
    rw [h]
    exact ⟨e, p1 e⟩
  · have ha : aw m = 44 := by unfold aw; rw [h]; rfl
    rw [ha] at hx e p1 p2 p3 hl ⊢
    have d1 : (ap m (wrs (rn m r) 44)).drop 44 = recB (rn m r) := ext_ix _ _ (by simp [hl, hlen]) (fun i hi => by
      have hi' : i < 44 := by simp [hl] at hi; omega
      rw [ix_drop, hx (44 + i), if_pos (by omega), show 44 + i - 44 = i by omega])
    have d2 : (ap m (wrs (rn m r) 44)).take 44 = m.take 44 := halves _ _ hm hl (fun i hi => by rw [hx i, if_neg (by omega)])
    rw [d1, d2, g1, g2, ← n1 h] at e
    rw [d1, g2] at p2
    unfold nwP at e
    rw [if_neg (by simp [c1]), if_neg (by simp), hs, if_pos (later_up _)] at e
    rw [h]
    exact ⟨e, p2 e⟩
  · have ha : aw m = 0 := by unfold aw; rw [h]; rfl
    rw [ha] at hx e p1 p2 p3 hl ⊢
    have d1 : (ap m (wrs (rn m r) 0)).take 44 = recB (rn m r) := ext_ix _ _ (by simp [hl, hlen]) (fun i hi => by
      have hi' : i < 44 := by simp at hi; omega
      rw [ix_take _ _ _ hi', hx i, if_pos (by omega), Nat.sub_zero])
    have d2 : (ap m (wrs (rn m r) 0)).drop 44 = m.drop 44 := halves2 _ _ hm hl (fun i hi => by rw [hx i, if_neg (by omega)])
    rw [d1, d2, g1, g2, ← n2 h] at e
    rw [d1, g2] at p1
    unfold nwP at e
    rw [if_neg (by simp), if_neg (by simp [c1]), hs, if_neg (by rw [later_dn]; simp)] at e
    rw [h]
    exact ⟨e, p1 e⟩
theorem rc_of (m : List B8) (hm : m.length = 88) : rcC m = (if nw m < 0 then some 6 else none) ∧ rcR m = (if nw m < 0 then Rec.z else nr m) := by
  have h : rcC m = (if nw m < 0 then some 6 else none) := by
    unfold rcC
    rw [if_neg (by omega), if_neg (by omega)]
  refine ⟨h, ?_⟩
  unfold rcR
  rw [h]
  by_cases hn : nw m < 0
  · rw [if_pos hn, if_pos hn, if_neg (by simp)]
  · rw [if_neg hn, if_neg hn, if_pos rfl]
end Go.Proofs.YtdipdpkdmiokeaaDoor.Sim
