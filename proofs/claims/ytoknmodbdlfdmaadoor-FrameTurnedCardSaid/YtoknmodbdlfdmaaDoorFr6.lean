/- What Split gives of frames one behind another, in plain words. -/
import Derived.Test.YtoknmodbdlfdmaaDoorFr5
namespace Go.Proofs.YtoknmodbdlfdmaaDoor.Sim
open Go Go.Proofs.YtoknmodbdlfdmaaDoor.CrcMath
set_option linter.unusedSimpArgs false
set_option linter.unusedVariables false
theorem word_hi_lo (s : BitVec 16) : word (hi s) (lo s) = s := by
  unfold word hi lo up
  apply BitVec.eq_of_getElem_eq
  intro i hi
  by_cases h : i < 8
  · simp [h, BitVec.getLsbD_eq_getElem hi]
  · have h2 : 8 + (i - 8) = i := by omega
    have h3 : i - 8 < 8 := by omega
    simp [h, h2, h3, BitVec.getLsbD_eq_getElem hi]
theorem frB_app (f : Fra) (r : List B8) : frB f ++ r = 0x7e#8 :: f.1 :: f.2.1 :: BitVec.ofNat 8 f.2.2.length :: (f.2.2 ++ hi (crc (hdr f)) :: lo (crc (hdr f)) :: r) := by
  simp [frB, hdr]
theorem ix_cons (a : B8) (m : List B8) (i : Nat) : ix (a :: m) (i + 1) = ix m i := rfl
theorem ix_app (a b : List B8) (i : Nat) : ix (a ++ b) (a.length + i) = ix b i := by
  unfold ix
  rw [List.getD_eq_getElem?_getD, List.getD_eq_getElem?_getD, List.getElem?_append_right (by omega)]
  congr 2; omega
theorem beg_app (f : Fra) (r : List B8) (h : f.2.2.length ≤ 32) : begC (frB f ++ r) ∧ bodyN (frB f ++ r) = f.2.2.length ∧ begF (frB f ++ r) = f ∧ (frB f ++ r).drop (6 + f.2.2.length) = r := by
  have hl : (frB f ++ r).length = f.2.2.length + 6 + r.length := by rw [List.length_append, frB_len]
  have hn : bodyN (frB f ++ r) = f.2.2.length := by
    unfold bodyN
    rw [frB_app]
    show (BitVec.ofNat 8 f.2.2.length).toNat = _
    rw [BitVec.toNat_ofNat]; omega
  have hb : ((frB f ++ r).take (4 + f.2.2.length)).drop 1 = hdr f := by
    rw [frB_app, show 4 + f.2.2.length = f.2.2.length + 4 by omega]
    simp only [List.take_succ_cons, List.drop_succ_cons, List.drop_zero]
    rw [List.take_left' rfl]; rfl
  have hb4 : ((frB f ++ r).take (4 + f.2.2.length)).drop 4 = f.2.2 := by
    rw [frB_app, show 4 + f.2.2.length = f.2.2.length + 4 by omega]
    simp only [List.take_succ_cons, List.drop_succ_cons, List.drop_zero]
    rw [List.take_left' rfl]
  have i4 : ix (frB f ++ r) (4 + f.2.2.length) = hi (crc (hdr f)) := by
    rw [frB_app, show 4 + f.2.2.length = f.2.2.length + 0 + 1 + 1 + 1 + 1 by omega, ix_cons, ix_cons, ix_cons, ix_cons]; exact ix_app _ _ 0
  have i5 : ix (frB f ++ r) (5 + f.2.2.length) = lo (crc (hdr f)) := by
    rw [frB_app, show 5 + f.2.2.length = f.2.2.length + 1 + 1 + 1 + 1 + 1 by omega, ix_cons, ix_cons, ix_cons, ix_cons, ix_app]; rfl
  refine ⟨⟨by omega, by rw [frB_app]; rfl, by omega, by omega, ?_⟩, hn, ?_, ?_⟩
  · rw [hn, hb, i4, i5, word_hi_lo]
  · unfold begF
    rw [hn, hb4, frB_app]; rfl
  · rw [show 6 + f.2.2.length = (frB f).length by rw [frB_len]; omega, List.drop_left]
theorem splitP_frame (f : Fra) (r : List B8) (h : f.2.2.length ≤ 32) : splitP (frB f ++ r) = (f :: (splitP r).1, (splitP r).2) := by
  obtain ⟨h1, h2, h3, h4⟩ := beg_app f r h
  rw [splitP_beg h1, h2, h3, h4]
theorem splitP_gap (g : List B8) (r : List B8) (h : ∀ x ∈ g, x ≠ 0x7e#8) : splitP (g ++ r) = ((splitP r).1, (splitP r).2 + g.length) := by
  induction g with
  | nil => simp
  | cons x g ih =>
    have hx : ¬ begC ((x :: g) ++ r) := fun hb => h x (by simp) hb.2.1
    rw [splitP_not hx (by simp)]
    have := ih fun y hy => h y (by simp [hy])
    simp only [List.cons_append, List.drop_succ_cons, List.drop_zero]
    rw [this]
    simp; omega
def sizes (L : List Fra) : Nat := (L.map fun f => f.2.2.length + 6).sum
theorem splitP_size : ∀ (n : Nat) (m : List B8), m.length ≤ n → sizes (splitP m).1 + (splitP m).2 = m.length ∧ (∀ f ∈ (splitP m).1, f.2.2.length ≤ 32) ∧ (splitP m).1.length ≤ m.length := by
  intro n
  induction n with
  | zero =>
    intro m h
    have : m = [] := List.eq_nil_of_length_eq_zero (by omega)
    subst this
    rw [splitP_nil]
    exact ⟨rfl, by simp, by simp⟩
  | succ n ih =>
    intro m h
    by_cases hm : m = []
    · subst hm
      rw [splitP_nil]
      exact ⟨rfl, by simp, by simp⟩
    · have hp : 0 < m.length := List.length_pos_iff.2 hm
      by_cases hb : begC m
      · have h6 := hb.2.2.2.1
        have h3 := hb.2.2.1
        have hd : (m.drop (6 + bodyN m)).length = m.length - (6 + bodyN m) := List.length_drop
        obtain ⟨i1, i2, i3⟩ := ih (m.drop (6 + bodyN m)) (by omega)
        have hl : (begF m).2.2.length = bodyN m := by
          simp only [begF, List.length_drop, List.length_take]; omega
        rw [splitP_beg hb]
        refine ⟨?_, fun f hf => ?_, by simp only [List.length_cons]; omega⟩
        · simp only [sizes, List.map_cons, List.sum_cons] at i1 ⊢; omega
        · rcases List.mem_cons.1 hf with rfl | hf
          · omega
          · exact i2 f hf
      · have hd : (m.drop 1).length = m.length - 1 := List.length_drop
        obtain ⟨i1, i2, i3⟩ := ih (m.drop 1) (by omega)
        rw [splitP_not hb hm]
        exact ⟨by simp only; omega, i2, by simp only; omega⟩
theorem splitP_all (m : List B8) : sizes (splitP m).1 + (splitP m).2 = m.length ∧ (∀ f ∈ (splitP m).1, f.2.2.length ≤ 32) ∧ (splitP m).1.length ≤ m.length := splitP_size m.length m (Nat.le_refl _)
theorem sizes_mem {L : List Fra} {f : Fra} (h : f ∈ L) : f.2.2.length + 6 ≤ sizes L := by
  unfold sizes
  induction L with
  | nil => simp at h
  | cons g L ih =>
    simp only [List.map_cons, List.sum_cons]
    rcases List.mem_cons.1 h with rfl | h
    · omega
    · have := ih h; omega
/-- All frames' bytes. -/
def allB (L : List Fra) : List B8 := L.flatMap frB
theorem splitP_allB (L : List Fra) (h : ∀ f ∈ L, f.2.2.length ≤ 32) : splitP (allB L) = (L, 0) := by
  induction L with
  | nil => rfl
  | cons f L ih =>
    have : allB (f :: L) = frB f ++ allB L := by simp [allB]
    rw [this, splitP_frame f _ (h f (by simp)), ih fun g hg => h g (by simp [hg])]
theorem allB_len (L : List Fra) : (allB L).length = sizes L := by
  unfold allB sizes
  rw [List.length_flatMap]
  congr 1
  apply List.map_congr_left
  intro f _
  exact frB_len f
end Go.Proofs.YtoknmodbdlfdmaaDoor.Sim
