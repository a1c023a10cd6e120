/- The votes of chapter 4: what the cover is, in plain words. -/
import Derived.Test.YtbamnfladjkkcaaVot4
namespace Go.Proofs.Ytbamnfladjkkcaa.Sim
open Go
set_option linter.unusedSimpArgs false
set_option linter.unusedVariables false
def Cs (L : List Sp) (m : Int) (E : List Int) (st : Sp × Bool) : Prop :=
  (st.2 = false ∧ ∀ e ∈ E, (cnt L e : Int) < m) ∨ (st.2 = true ∧ st.1.1 ∈ E ∧ m ≤ cnt L st.1.1 ∧ st.1.2 ∈ E ∧ m ≤ cnt L st.1.2 ∧ ∀ e ∈ E, m ≤ cnt L e → st.1.1 ≤ e ∧ e ≤ st.1.2)
theorem Cs.add {L : List Sp} {m : Int} {E : List Int} {st : Sp × Bool} (h : Cs L m E st) (x : Int) : Cs L m (E ++ [x]) (addE L m st x) := by
  obtain ⟨⟨a, b⟩, f⟩ := st
  unfold addE
  by_cases hc : (cnt L x : Int) < m
  · rw [if_pos hc]
    rcases h with ⟨h1, h2⟩ | ⟨h1, h2, h3, h4, h5, h6⟩
    · refine .inl ⟨h1, fun e he => ?_⟩
      rcases List.mem_append.1 he with he | he
      · exact h2 e he
      · simp at he; subst he; exact hc
    · refine .inr ⟨h1, List.mem_append_left _ h2, h3, List.mem_append_left _ h4, h5, fun e he hm => ?_⟩
      rcases List.mem_append.1 he with he | he
      · exact h6 e he hm
      · simp at he; subst he; omega
  · rw [if_neg hc]
    rcases h with ⟨h1, h2⟩ | ⟨h1, h2, h3, h4, h5, h6⟩
    · simp only at h1
      subst h1
      refine .inr ⟨rfl, ?_⟩
      simp only [hull, Bool.false_eq_true, if_false, Int.min_self, Int.max_self]
      refine ⟨by simp, by omega, by simp, by omega, fun e he hm => ?_⟩
      rcases List.mem_append.1 he with he | he
      · have := h2 e he; omega
      · simp at he; subst he; omega
    · simp only at h1 h2 h3 h4 h5 h6
      subst h1
      refine .inr ⟨rfl, ?_⟩
      simp only [hull, if_true]
      have c1 : min a x = a ∨ min a x = x := by omega
      have c2 : max b x = b ∨ max b x = x := by omega
      refine ⟨?_, ?_, ?_, ?_, fun e he hm => ?_⟩
      · rcases c1 with c | c <;> rw [c] <;> simp [h2]
      · rcases c1 with c | c <;> rw [c] <;> omega
      · rcases c2 with c | c <;> rw [c] <;> simp [h4]
      · rcases c2 with c | c <;> rw [c] <;> omega
      · rcases List.mem_append.1 he with he | he
        · have := h6 e he hm; omega
        · simp at he; subst he; omega
def ends (M : List Sp) : List Int := M.flatMap fun s => [s.1, s.2]
theorem Cs.fold {L : List Sp} {m : Int} : ∀ (M : List Sp) (E : List Int) (st : Sp × Bool), Cs L m E st → Cs L m (E ++ ends M) (M.foldl (addS L m) st) := by
  intro M
  induction M with
  | nil => intro E st h; simpa [ends] using h
  | cons s M ih =>
    intro E st h
    have := ih _ _ ((h.add s.1).add s.2)
    simpa [ends, addS] using this
theorem cov_Cs (L : List Sp) (m : Int) : Cs L m (ends L) (cov L m L) := by
  have := Cs.fold (L := L) (m := m) L [] ((0, 0), false) (.inl ⟨rfl, by simp⟩)
  simpa [cov] using this
theorem mem_ends {L : List Sp} {e : Int} (h : e ∈ ends L) : ∃ s ∈ L, e = s.1 ∨ e = s.2 := by
  unfold ends at h
  rw [List.mem_flatMap] at h
  obtain ⟨s, h1, h2⟩ := h
  simp at h2
  exact ⟨s, h1, h2⟩
theorem ends_lo {L : List Sp} {s : Sp} (h : s ∈ L) : s.1 ∈ ends L := by unfold ends; rw [List.mem_flatMap]; exact ⟨s, h, by simp⟩
theorem ends_hi {L : List Sp} {s : Sp} (h : s ∈ L) : s.2 ∈ ends L := by unfold ends; rw [List.mem_flatMap]; exact ⟨s, h, by simp⟩
theorem cnt_mono {L : List Sp} {x y : Int} (h : ∀ s ∈ L, stn s x = true → stn s y = true) : cnt L x ≤ cnt L y := by
  unfold cnt
  rw [← List.countP_eq_length_filter, ← List.countP_eq_length_filter]
  exact List.countP_mono_left h
theorem exMax (f : Sp → Int) : ∀ (F : List Sp), F ≠ [] → ∃ s ∈ F, ∀ t ∈ F, f t ≤ f s := by
  intro F
  induction F with
  | nil => intro h; exact (h rfl).elim
  | cons a F ih =>
    intro _
    by_cases hF : F = []
    · subst hF; exact ⟨a, by simp, fun t ht => by simp at ht; subst ht; omega⟩
    · obtain ⟨s, h1, h2⟩ := ih hF
      by_cases hc : f s ≤ f a
      · refine ⟨a, by simp, fun t ht => ?_⟩
        rcases List.mem_cons.1 ht with rfl | ht
        · omega
        · have := h2 t ht; omega
      · refine ⟨s, by simp [h1], fun t ht => ?_⟩
        rcases List.mem_cons.1 ht with rfl | ht
        · omega
        · exact h2 t ht
theorem stn_iff (s : Sp) (x : Int) : stn s x = true ↔ s.1 ≤ x ∧ x ≤ s.2 := by simp [stn]
theorem cnt_pos {L : List Sp} {x : Int} (h : 1 ≤ cnt L x) : L.filter (fun s => stn s x) ≠ [] := by
  intro e
  unfold cnt at h
  rw [e] at h
  simp at h
theorem cnt_lo {L : List Sp} {x : Int} (h : 1 ≤ cnt L x) : ∃ s ∈ L, s.1 ≤ x ∧ cnt L x ≤ cnt L s.1 := by
  obtain ⟨s, h1, h2⟩ := exMax (fun s => s.1) _ (cnt_pos h)
  rw [List.mem_filter, stn_iff] at h1
  refine ⟨s, h1.1, h1.2.1, cnt_mono fun t ht hx => ?_⟩
  have := h2 t (List.mem_filter.2 ⟨ht, hx⟩)
  rw [stn_iff] at hx ⊢
  omega
theorem cnt_hi {L : List Sp} {x : Int} (h : 1 ≤ cnt L x) : ∃ s ∈ L, x ≤ s.2 ∧ cnt L x ≤ cnt L s.2 := by
  obtain ⟨s, h1, h2⟩ := exMax (fun s => - s.2) _ (cnt_pos h)
  rw [List.mem_filter, stn_iff] at h1
  refine ⟨s, h1.1, h1.2.2, cnt_mono fun t ht hx => ?_⟩
  have := h2 t (List.mem_filter.2 ⟨ht, hx⟩)
  rw [stn_iff] at hx ⊢
  omega
theorem mst_fold (L : List Sp) : ∀ (M : List Sp) (n : Int), n ≤ M.foldl (fun n s => max n (cnt L s.1 : Int)) n ∧ (∀ s ∈ M, (cnt L s.1 : Int) ≤ M.foldl (fun n s => max n (cnt L s.1 : Int)) n) ∧ (M.foldl (fun n s => max n (cnt L s.1 : Int)) n = n ∨ ∃ s ∈ M, M.foldl (fun n s => max n (cnt L s.1 : Int)) n = cnt L s.1) := by
  intro M
  induction M with
  | nil => intro n; simp
  | cons a M ih =>
    intro n
    obtain ⟨h1, h2, h3⟩ := ih (max n (cnt L a.1 : Int))
    simp only [List.foldl_cons]
    refine ⟨by omega, fun s hs => ?_, ?_⟩
    · rcases List.mem_cons.1 hs with rfl | hs
      · omega
      · exact h2 s hs
    · rcases h3 with h3 | ⟨s, hs, h3⟩
      · rcases (show max n (cnt L a.1 : Int) = n ∨ max n (cnt L a.1 : Int) = cnt L a.1 by omega) with h | h
        · left; omega
        · right; exact ⟨a, by simp, by omega⟩
      · right; exact ⟨s, by simp [hs], h3⟩
theorem mst_ge {L : List Sp} {s : Sp} (h : s ∈ L) : (cnt L s.1 : Int) ≤ mst L L := (mst_fold L L 0).2.1 s h
theorem mst_nonneg (L : List Sp) : 0 ≤ mst L L := (mst_fold L L 0).1
theorem mst_is (L : List Sp) : mst L L = 0 ∨ ∃ s ∈ L, mst L L = cnt L s.1 := (mst_fold L L 0).2.2
theorem cnt_mst (L : List Sp) (x : Int) : (cnt L x : Int) ≤ mst L L := by
  by_cases h : 1 ≤ cnt L x
  · obtain ⟨s, h1, _, h2⟩ := cnt_lo h
    have := mst_ge h1
    omega
  · have := mst_nonneg L; omega
theorem cov_in (L : List Sp) (m : Int) (hm : 1 ≤ m) (x : Int) (h : m ≤ cnt L x) : (cov L m L).2 = true ∧ (cov L m L).1.1 ≤ x ∧ x ≤ (cov L m L).1.2 := by
  obtain ⟨s, s1, s2, s3⟩ := cnt_lo (L := L) (x := x) (by omega)
  obtain ⟨t, t1, t2, t3⟩ := cnt_hi (L := L) (x := x) (by omega)
  rcases cov_Cs L m with ⟨h1, h2⟩ | ⟨h1, _, _, _, _, h6⟩
  · have := h2 _ (ends_lo s1); omega
  · have a := h6 _ (ends_lo s1) (by omega)
    have b := h6 _ (ends_hi t1) (by omega)
    exact ⟨h1, by omega, by omega⟩
theorem cov_is (L : List Sp) (m : Int) (hm : 1 ≤ m) : (cov L m L).2 = decide (m ≤ mst L L) := by
  rcases cov_Cs L m with ⟨h1, h2⟩ | ⟨h1, h2, h3, _⟩
  · rw [h1]
    symm
    rw [decide_eq_false_iff_not]
    intro h
    rcases mst_is L with e | ⟨s, hs, e⟩
    · omega
    · have := h2 _ (ends_lo hs); omega
  · rw [h1]
    symm
    rw [decide_eq_true_iff]
    have := cnt_mst L (cov L m L).1.1
    omega
/- What VoteCovers asks. -/
theorem cov_less (L : List Sp) (m : Int) (hm : 1 ≤ m) (h : (cov L (m + 1) L).2 = true) : (cov L m L).2 = true ∧ inP (cov L (m + 1) L).1 (cov L m L).1 = true := by
  rcases cov_Cs L (m + 1) with ⟨h1, _⟩ | ⟨_, h2, h3, h4, h5, _⟩
  · rw [h1] at h; cases h
  · rcases cov_Cs L m with ⟨g1, g2⟩ | ⟨g1, _, _, _, _, g6⟩
    · have := g2 _ h2; omega
    · have a := g6 _ h2 (by omega)
      have b := g6 _ h4 (by omega)
      refine ⟨g1, ?_⟩
      simp only [inP, decide_eq_true_eq]
      omega
def Norm (L : List Sp) : Prop := ∀ s ∈ L, s.1 ≤ s.2
theorem hull_fold : ∀ (R : List Sp) (s0 : Sp), (∃ s ∈ s0 :: R, (R.foldl hull s0).1 = s.1) ∧ (∀ s ∈ s0 :: R, (R.foldl hull s0).1 ≤ s.1) ∧ (∃ s ∈ s0 :: R, (R.foldl hull s0).2 = s.2) ∧ (∀ s ∈ s0 :: R, s.2 ≤ (R.foldl hull s0).2) := by
  intro R
  induction R with
  | nil => intro s0; simp
  | cons a R ih =>
    intro s0
    obtain ⟨⟨s, hs, h1⟩, h2, ⟨t, ht, h3⟩, h4⟩ := ih (hull s0 a)
    simp only [List.foldl_cons]
    have e1 : (hull s0 a).1 = min s0.1 a.1 := rfl
    have e2 : (hull s0 a).2 = max s0.2 a.2 := rfl
    have b1 := h2 (hull s0 a) (by simp)
    have b2 := h4 (hull s0 a) (by simp)
    refine ⟨?_, fun u hu => ?_, ?_, fun u hu => ?_⟩
    · rcases List.mem_cons.1 hs with rfl | hs
      · rcases (show min s0.1 a.1 = s0.1 ∨ min s0.1 a.1 = a.1 by omega) with c | c
        · exact ⟨s0, by simp, by omega⟩
        · exact ⟨a, by simp, by omega⟩
      · exact ⟨s, by simp [hs], h1⟩
    · rcases List.mem_cons.1 hu with rfl | hu
      · omega
      · rcases List.mem_cons.1 hu with rfl | hu
        · omega
        · exact h2 u (by simp [hu])
    · rcases List.mem_cons.1 ht with rfl | ht
      · rcases (show max s0.2 a.2 = s0.2 ∨ max s0.2 a.2 = a.2 by omega) with c | c
        · exact ⟨s0, by simp, by omega⟩
        · exact ⟨a, by simp, by omega⟩
      · exact ⟨t, by simp [ht], h3⟩
    · rcases List.mem_cons.1 hu with rfl | hu
      · omega
      · rcases List.mem_cons.1 hu with rfl | hu
        · omega
        · exact h4 u (by simp [hu])
theorem cnt_one {L : List Sp} {s : Sp} {x : Int} (hs : s ∈ L) (h : stn s x = true) : 1 ≤ cnt L x := by
  unfold cnt
  exact List.length_pos_of_mem (List.mem_filter.2 ⟨hs, h⟩)
theorem cov_one (s0 : Sp) (R : List Sp) (hn : Norm (s0 :: R)) : (cov (s0 :: R) 1 (s0 :: R)).2 = true ∧ (cov (s0 :: R) 1 (s0 :: R)).1 = R.foldl hull s0 := by
  have lo : ∀ s ∈ s0 :: R, (1 : Int) ≤ cnt (s0 :: R) s.1 := fun s hs => by
    have := cnt_one hs ((stn_iff s s.1).2 ⟨by omega, hn s hs⟩); omega
  have hi : ∀ s ∈ s0 :: R, (1 : Int) ≤ cnt (s0 :: R) s.2 := fun s hs => by
    have := cnt_one hs ((stn_iff s s.2).2 ⟨hn s hs, by omega⟩); omega
  obtain ⟨⟨a, ha, a1⟩, h2, ⟨b, hb, b1⟩, h4⟩ := hull_fold R s0
  rcases cov_Cs (s0 :: R) 1 with ⟨h1, h2⟩ | ⟨g1, g2, g3, g4, g5, g6⟩
  · have := h2 s0.1 (ends_lo (by simp)); have := lo s0 (by simp); omega
  · refine ⟨g1, ?_⟩
    generalize R.foldl hull s0 = h at *
    generalize cov (s0 :: R) 1 (s0 :: R) = st at *
    obtain ⟨s, hs, hsE⟩ := mem_ends g2
    obtain ⟨t, ht, htE⟩ := mem_ends g4
    have k1 := g6 _ (ends_lo ha) (lo a ha)
    have k2 := g6 _ (ends_hi hb) (hi b hb)
    have k3 := h2 s hs
    have k4 := h4 t ht
    have n1 := hn s hs
    have n2 := hn t ht
    have q1 : st.1.1 = h.1 := by omega
    have q2 : st.1.2 = h.2 := by omega
    exact Prod.ext q1 q2
theorem cov_all (L : List Sp) (h : (cov L L.length L).2 = true) (hL : L ≠ []) : (∀ s ∈ L, inP (cov L L.length L).1 s = true) ∧ ∃ x, ∀ s ∈ L, stn s x = true := by
  rcases cov_Cs L L.length with ⟨h1, _⟩ | ⟨_, h2, h3, h4, h5, _⟩
  · rw [h1] at h; cases h
  · have key : ∀ x, (L.length : Int) ≤ cnt L x → ∀ s ∈ L, stn s x = true := fun x hx => by
      have := cnt_le L x
      have e : cnt L x = L.length := by omega
      unfold cnt at e
      rw [← List.countP_eq_length_filter] at e
      exact List.countP_eq_length.1 e
    refine ⟨fun s hs => ?_, _, key _ h3⟩
    have a := (stn_iff _ _).1 (key _ h3 s hs)
    have b := (stn_iff _ _).1 (key _ h5 s hs)
    simp only [inP, decide_eq_true_eq]
    omega
def stepM (st : Sp × Bool) (s : Sp) : Sp × Bool := (if (meetP st.1 s).2 = true then (meetP st.1 s).1 else s, st.2 && (meetP st.1 s).2)
theorem meet_fold (x : Int) : ∀ (R : List Sp) (st : Sp × Bool), stn st.1 x = true → st.2 = true → (∀ s ∈ R, stn s x = true) → (R.foldl stepM st).2 = true := by
  intro R
  induction R with
  | nil => intro st _ h _; exact h
  | cons a R ih =>
    intro st h1 h2 h3
    have ha := (stn_iff _ _).1 (h3 a (by simp))
    have h0 := (stn_iff _ _).1 h1
    have e : meetP st.1 a = ((max st.1.1 a.1, min st.1.2 a.2), true) := by
      unfold meetP
      rw [if_neg (by omega)]
    refine ih (stepM st a) ?_ ?_ fun s hs => h3 s (by simp [hs])
    · unfold stepM
      rw [e]
      simp only [if_true]
      rw [stn_iff]
      simp only
      omega
    · unfold stepM
      rw [e, h2]
      rfl
theorem mst_one (s0 : Sp) (R : List Sp) (hn : Norm (s0 :: R)) : 1 ≤ mst (s0 :: R) (s0 :: R) := by
  have := cnt_one (L := s0 :: R) (s := s0) (x := s0.1) (by simp) ((stn_iff _ _).2 ⟨by omega, hn s0 (by simp)⟩)
  have := mst_ge (L := s0 :: R) (s := s0) (by simp)
  omega
end Go.Proofs.Ytbamnfladjkkcaa.Sim
