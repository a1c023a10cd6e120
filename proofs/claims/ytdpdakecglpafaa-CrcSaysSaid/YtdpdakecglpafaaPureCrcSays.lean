/- The plain law of CrcSays: the printed functions of the sums of bytes come to the shift register's own answer, and that register is linear, so the law holds for every input. -/
import Derived.Test.YtdpdakecglpafaaCrsx2
import Derived.Test.YtdpdakecglpafaaCrcMath
namespace Go.Proofs.Ytdpdakecglpafaa.Pure
open Go Go.RowKit Go.Proofs.Ytdpdakecglpafaa.Crs Go.Proofs.YtdpdakecglpafaaW.PrintWords Go.Proofs.YtdpdakecglpafaaW.PrintLast Go.Proofs.YtdpdakecglpafaaW.PrintMore
open Go.Proofs.Ytdpdakecglpafaa.CrcMath (w8 w16 regs reg up byte more row bitTurned bitTurned_length xors dbl16 and16 turned16 xor16 xor8 up16 w16_inj wf16 wf8 wf8s wrap16 more_append more_own more_zeros one_bit two_bits byte_row row_zero more_xors hi8 lo8 shl8)

theorem rd_at (p : List (BitVec 8)) (x : BitVec 8) (q : List (BitVec 8)) : rd ((p ++ x :: q).map w8) (p.length : Int) = w8 x := by
  unfold rd
  simp [List.getD]
theorem wrap_next {n : Nat} (h : n < 9000000000000000000) : wrap64 ((n : Int) + 1) = ((n + 1 : Nat) : Int) := by
  unfold wrap64
  omega
theorem more_l1 (n : Nat) : ∀ (s : BitVec 16) (l : List Int) (len at_ i r : Int), 0 ≤ i → i + n = 8 → Ev (fun k => crc_More.l0 k (w16 (regs n s)) l len (wrap64 (at_ + 1))) r → Ev (fun k => crc_More.l1 k (w16 s) l len at_ i) r := by
  induction n with
  | zero =>
    intro s l len at_ i r h0 h1 h
    exact Ev.step (fun k => by simp only [crc_More.l1]; rw [if_neg (by omega)]; rfl) h
  | succ n ih =>
    intro s l len at_ i r h0 h1 h
    have hw : wrap64 (i + 1) = i + 1 := by unfold wrap64; omega
    refine Ev.step (f := fun k => crc_More.l1 k (w16 (reg s)) l len at_ (i + 1)) (fun k => ?_) (ih (reg s) l len at_ (i + 1) r (by omega) (by omega) h)
    simp only [crc_More.l1]
    rw [if_pos (by omega), hw, dbl16]
    unfold reg
    by_cases hm : s.msb = true
    · rw [if_neg (by rw [and16, hm]; decide), if_pos hm, turned16, xor16]
    · rw [if_pos (by rw [and16]; simpa using hm), if_neg hm]
theorem more_l0 (q : List (BitVec 8)) : ∀ (p : List (BitVec 8)) (s : BitVec 16), (p ++ q).length < 9000000000000000000 → Ev (fun k => crc_More.l0 k (w16 s) ((p ++ q).map w8) ((p ++ q).length : Int) (p.length : Int)) (w16 (more s q)) := by
  induction q with
  | nil =>
    intro p s hl
    exact Ev.step (f := fun _ => some (w16 s)) (fun k => by simp only [crc_More.l0]; rw [if_neg (by simp)]) (Ev.now _)
  | cons x q ih =>
    intro p s hl
    have h2 := ih (p ++ [x]) (byte s x) (by simpa using hl)
    simp only [List.append_assoc, List.singleton_append, List.length_append, List.length_cons, List.length_nil] at h2
    refine Ev.step (f := fun k => crc_More.l1 k (w16 (s ^^^ up x)) ((p ++ x :: q).map w8) ((p ++ x :: q).length : Int) (p.length : Int) 0) (fun k => ?_) ?_
    · simp only [crc_More.l0]
      rw [if_pos (by simp; omega), if_pos (by omega), if_pos (by simp; omega), rd_at, up16, xor16]
    · refine more_l1 8 _ _ _ _ 0 _ (by omega) (by omega) ?_
      rw [wrap_next (by simp at hl; omega)]
      simpa [more, byte] using h2
theorem more_f (s : BitVec 16) (q : List (BitVec 8)) (h : q.length < 9000000000000000000) : Ev (fun k => crc_More.f k (w16 s) (q.map w8)) (w16 (more s q)) := by
  have h2 := more_l0 q [] s (by simpa using h)
  unfold crc_More.f
  simpa using h2
theorem sum_f (q : List (BitVec 8)) (h : q.length < 9000000000000000000) : Ev (fun k => crc_Sum.f k (q.map w8)) (w16 (more 0xffff#16 q)) := by
  unfold crc_Sum.f
  exact Ev.bind (more_f 0xffff#16 q h) (Ev.now _)
theorem row_f (x : BitVec 8) : Ev (fun k => crc_Row.f k (w8 x)) (w16 (row x)) := by
  unfold crc_Row.f
  have := more_f 0 [x] (by simp)
  exact Ev.bind this (Ev.now _)
theorem first_f : Ev (fun k => dynamolaw5_first.f k) true := by
  unfold dynamolaw5_first.f
  refine Ev.bind (sum_f [] (by simp)) ?_
  have h : w16 (more 0xffff#16 []) = 65535 := rfl
  simp only [h, if_pos]
  refine Ev.bind (row_f 1#8) ?_
  have h2 : w16 (row 1#8) = 4129 := by decide +kernel
  simp only [h2]
  exact Ev.now _
theorem number_f (a n : Int) (h : 0 < n) (h2 : n < 4000000000000000000) : ∃ i, dynamoworld_Number.f a n = some i ∧ 0 ≤ i ∧ i < n := by
  have h3 : Int.tmod a n < n := Int.tmod_lt_of_pos a h
  have h4 : -n < Int.tmod a n := by have := Int.lt_tmod_of_pos a h; omega
  unfold dynamoworld_Number.f
  rw [if_neg (by omega)]
  by_cases hn : Int.tmod a n < 0
  · rw [if_pos hn]
    have hw : wrap64 (Int.tmod a n + n) = Int.tmod a n + n := by unfold wrap64; omega
    rw [hw]
    exact ⟨_, rfl, by omega, by omega⟩
  · rw [if_neg hn]
    exact ⟨_, rfl, by omega, by omega⟩

theorem ref_l1 (n : Nat) : ∀ (s : BitVec 16) (l : List Int) (at_ i r : Int), 0 ≤ i → i + n = 8 → Ev (fun k => dynamoref1_More.l0 k (w16 (regs n s)) l (wrap64 (at_ + 1))) r → Ev (fun k => dynamoref1_More.l1 k (w16 s) l at_ i) r := by
  induction n with
  | zero =>
    intro s l at_ i r h0 h1 h
    exact Ev.step (fun k => by simp only [dynamoref1_More.l1]; rw [if_neg (by omega)]; rfl) h
  | succ n ih =>
    intro s l at_ i r h0 h1 h
    have hw : wrap64 (i + 1) = i + 1 := by unfold wrap64; omega
    refine Ev.step (f := fun k => dynamoref1_More.l1 k (w16 (reg s)) l at_ (i + 1)) (fun k => ?_) (ih (reg s) l at_ (i + 1) r (by omega) (by omega) h)
    simp only [dynamoref1_More.l1]
    rw [if_pos (by omega), hw, dbl16]
    unfold reg
    by_cases hm : s.msb = true
    · rw [if_neg (by rw [and16, hm]; decide), if_pos hm, turned16, xor16]
    · rw [if_pos (by rw [and16]; simpa using hm), if_neg hm]
theorem ref_l0 (q : List (BitVec 8)) : ∀ (p : List (BitVec 8)) (s : BitVec 16), (p ++ q).length < 9000000000000000000 → Ev (fun k => dynamoref1_More.l0 k (w16 s) ((p ++ q).map w8) (p.length : Int)) (w16 (more s q)) := by
  induction q with
  | nil =>
    intro p s hl
    exact Ev.step (f := fun _ => some (w16 s)) (fun k => by simp only [dynamoref1_More.l0]; rw [if_neg (by simp)]) (Ev.now _)
  | cons x q ih =>
    intro p s hl
    have h2 := ih (p ++ [x]) (byte s x) (by simpa using hl)
    simp only [List.append_assoc, List.singleton_append, List.length_append, List.length_cons, List.length_nil] at h2
    refine Ev.step (f := fun k => dynamoref1_More.l1 k (w16 (s ^^^ up x)) ((p ++ x :: q).map w8) (p.length : Int) 0) (fun k => ?_) ?_
    · simp only [dynamoref1_More.l0]
      rw [if_pos (by simp; omega), if_pos (by omega), rd_at, up16, xor16]
    · refine ref_l1 8 _ _ _ 0 _ (by omega) (by omega) ?_
      rw [wrap_next (by simp at hl; omega)]
      simpa [more, byte] using h2
theorem ref_f (s : BitVec 16) (q : List (BitVec 8)) (h : q.length < 9000000000000000000) : Ev (fun k => dynamoref1_More.f k (w16 s) (q.map w8)) (w16 (more s q)) := by
  have h2 := ref_l0 q [] s (by simpa using h)
  unfold dynamoref1_More.f
  simpa using h2
theorem refsum_f (q : List (BitVec 8)) (h : q.length < 9000000000000000000) : Ev (fun k => dynamoref1_Sum.f k (q.map w8)) (w16 (more 0xffff#16 q)) := by
  unfold dynamoref1_Sum.f
  exact Ev.bind (ref_f 0xffff#16 q h) (Ev.now _)

theorem CrcSays : dynamolaw5_CrcSays.Pure := by
  intro a0 l1 a2 a3 h0 _ _ h1 _ h3
  obtain ⟨s, rfl⟩ := wf16 a0 h0
  obtain ⟨q, rfl⟩ := wf8s l1 h1
  obtain ⟨x, rfl⟩ := wf8 a3 h3
  apply Ev.rounds
  unfold dynamolaw5_CrcSays.f
  refine Ev.bind first_f ?_
  simp only [if_pos]
  by_cases hl : ((q.map w8).length : Int) > 300
  · simp only [if_pos hl]
    exact Ev.now _
  · simp only [if_neg hl]
    have hlen : ((q.map w8).length : Int) = (q.length : Int) := by simp
    have hq : q.length ≤ 300 := by omega
    have hw : wrap64 (((q.map w8).length : Int) + 1) = (q.length : Int) + 1 := by rw [hlen]; unfold wrap64; omega
    obtain ⟨i, hi, hi0, hi1⟩ := number_f a2 ((q.length : Int) + 1) (by omega) (by omega)
    rw [hw]
    simp only [hi, Option.bind_some]
    refine Ev.bind (sum_f q (by omega)) ?_
    refine Ev.bind (refsum_f q (by omega)) ?_
    simp only [if_pos]
    refine Ev.bind (more_f s q (by omega)) ?_
    refine Ev.bind (ref_f s q (by omega)) ?_
    simp only [if_pos, if_pos hi0, if_pos (show i ≤ ((q.map w8).length : Int) by omega)]
    rw [← List.map_take, ← List.map_drop]
    refine Ev.bind (more_f s _ (by rw [List.length_take]; omega)) ?_
    refine Ev.bind (more_f _ _ (by rw [List.length_drop]; omega)) ?_
    refine Ev.bind (more_f s q (by omega)) ?_
    rw [← more_append, List.take_append_drop]
    simp only [if_pos]
    refine Ev.bind (row_f x) ?_
    have h := ref_f 0 [x] (by simp)
    refine Ev.bind h ?_
    have e : row x = more 0 [x] := rfl
    rw [e]
    simp only [BEq.rfl]
    exact Ev.now _

end Go.Proofs.Ytdpdakecglpafaa.Pure
