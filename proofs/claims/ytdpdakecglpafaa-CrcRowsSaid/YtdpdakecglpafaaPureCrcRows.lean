/- The plain law of CrcRows: the printed functions of the sums of bytes come to the shift register's own answer, and that register is linear, so the law holds for every input. -/
import Derived.Test.YtdpdakecglpafaaCrwx2
import Derived.Test.YtdpdakecglpafaaCrcMath
namespace Go.Proofs.Ytdpdakecglpafaa.Pure
open Go Go.RowKit Go.Proofs.Ytdpdakecglpafaa.Crw Go.Proofs.YtdpdakecglpafaaW.PrintWords Go.Proofs.YtdpdakecglpafaaW.PrintLast Go.Proofs.YtdpdakecglpafaaW.PrintMore
open Go.Proofs.Ytdpdakecglpafaa.CrcMath (w8 w16 regs reg up byte more row bitTurned bitTurned_length xors dbl16 and16 turned16 xor16 xor8 up16 w16_inj wf16 wf8 wf8s wrap16 more_append more_own more_zeros one_bit two_bits byte_row row_zero more_xors hi8 lo8 shl8)

theorem rd_at (p : List (BitVec 8)) (x : BitVec 8) (q : List (BitVec 8)) : rd ((p ++ x :: q).map w8) (p.length : Int) = w8 x := by
  unfold rd
  simp [List.getD]
theorem wrap_next {n : Nat} (h : n < 9000000000000000000) : wrap64 ((n : Int) + 1) = ((n + 1 : Nat) : Int) := by
  unfold wrap64
  omega
theorem more_l1 (n : Nat) : ∀ (s : BitVec 16) (l : List Int) (len at_ i r : Int), 0 ≤ i → i + n = 8 → Ev (fun k => crc_More.l0 k (w16 (regs n s)) l len (wrap64 (at_ + 1))) r → Ev (fun k => crc_More.l1 k (w16 s) l len at_ i) r := by
  induction n with
  | zero =>
    intro s l len at_ i r h0 h1 h
    exact Ev.step (fun k => by simp only [crc_More.l1]; rw [if_neg (by omega)]; rfl) h
  | succ n ih =>
    intro s l len at_ i r h0 h1 h
    have hw : wrap64 (i + 1) = i + 1 := by unfold wrap64; omega
    refine Ev.step (f := fun k => crc_More.l1 k (w16 (reg s)) l len at_ (i + 1)) (fun k => ?_) (ih (reg s) l len at_ (i + 1) r (by omega) (by omega) h)
    simp only [crc_More.l1]
    rw [if_pos (by omega), hw, dbl16]
    unfold reg
    by_cases hm : s.msb = true
    · rw [if_neg (by rw [and16, hm]; decide), if_pos hm, turned16, xor16]
    · rw [if_pos (by rw [and16]; simpa using hm), if_neg hm]
theorem more_l0 (q : List (BitVec 8)) : ∀ (p : List (BitVec 8)) (s : BitVec 16), (p ++ q).length < 9000000000000000000 → Ev (fun k => crc_More.l0 k (w16 s) ((p ++ q).map w8) ((p ++ q).length : Int) (p.length : Int)) (w16 (more s q)) := by
  induction q with
  | nil =>
    intro p s hl
    exact Ev.step (f := fun _ => some (w16 s)) (fun k => by simp only [crc_More.l0]; rw [if_neg (by simp)]) (Ev.now _)
  | cons x q ih =>
    intro p s hl
    have h2 := ih (p ++ [x]) (byte s x) (by simpa using hl)
    simp only [List.append_assoc, List.singleton_append, List.length_append, List.length_cons, List.length_nil] at h2
    refine Ev.step (f := fun k => crc_More.l1 k (w16 (s ^^^ up x)) ((p ++ x :: q).map w8) ((p ++ x :: q).length : Int) (p.length : Int) 0) (fun k => ?_) ?_
    · simp only [crc_More.l0]
      rw [if_pos (by simp; omega), if_pos (by omega), if_pos (by simp; omega), rd_at, up16, xor16]
    · refine more_l1 8 _ _ _ _ 0 _ (by omega) (by omega) ?_
      rw [wrap_next (by simp at hl; omega)]
      simpa [more, byte] using h2
theorem more_f (s : BitVec 16) (q : List (BitVec 8)) (h : q.length < 9000000000000000000) : Ev (fun k => crc_More.f k (w16 s) (q.map w8)) (w16 (more s q)) := by
  have h2 := more_l0 q [] s (by simpa using h)
  unfold crc_More.f
  simpa using h2
theorem sum_f (q : List (BitVec 8)) (h : q.length < 9000000000000000000) : Ev (fun k => crc_Sum.f k (q.map w8)) (w16 (more 0xffff#16 q)) := by
  unfold crc_Sum.f
  exact Ev.bind (more_f 0xffff#16 q h) (Ev.now _)
theorem row_f (x : BitVec 8) : Ev (fun k => crc_Row.f k (w8 x)) (w16 (row x)) := by
  unfold crc_Row.f
  have := more_f 0 [x] (by simp)
  exact Ev.bind this (Ev.now _)
theorem first_f : Ev (fun k => dynamolaw5_first.f k) true := by
  unfold dynamolaw5_first.f
  refine Ev.bind (sum_f [] (by simp)) ?_
  have h : w16 (more 0xffff#16 []) = 65535 := rfl
  simp only [h, if_pos]
  refine Ev.bind (row_f 1#8) ?_
  have h2 : w16 (row 1#8) = 4129 := by decide +kernel
  simp only [h2]
  exact Ev.now _

theorem xors_take (q : List (BitVec 8)) : ∀ (m : List (BitVec 8)), xors q m = xors q (m.take q.length) := by
  induction q with
  | nil => intro m; rfl
  | cons x q ih =>
    intro m
    cases m with
    | nil => rfl
    | cons y m => simp only [xors, List.length_cons, List.take_succ_cons]; rw [← ih]
theorem put_at (cs : List (BitVec 8)) (z : BitVec 8) (n m : Nat) (h : cs.length = m) : (cs.map w8 ++ List.replicate (n + 1) (0 : Int)).set ((m : Nat) : Int).toNat (w8 z) = (cs ++ [z]).map w8 ++ List.replicate n 0 := by
  subst h
  rw [Int.toNat_natCast, List.replicate_succ]
  simp
theorem rows_l0 (q : List (BitVec 8)) : ∀ (p pp : List (BitVec 8)) (qq : List (BitVec 8)) (s0 s : BitVec 16) (cs : List (BitVec 8)) (r : Bool), p.length = pp.length → q.length ≤ qq.length → cs.length = p.length → (p ++ q).length ≤ 100 →
    Ev (fun k => dynamolaw5_CrcRows.l0 k (w16 s0) ((p ++ q).map w8) ((pp ++ qq).map w8) true (w16 (more s q)) ((cs ++ xors q qq).map w8) ((p ++ q).length : Int)) r →
    Ev (fun k => dynamolaw5_CrcRows.l0 k (w16 s0) ((p ++ q).map w8) ((pp ++ qq).map w8) true (w16 s) (cs.map w8 ++ List.replicate q.length 0) (p.length : Int)) r := by
  induction q with
  | nil =>
    intro p pp qq s0 s cs r h1 h2 h3 h4 h
    simpa [more, xors] using h
  | cons x q ih =>
    intro p pp qq s0 s cs r h1 h2 h3 h4 h
    cases qq with
    | nil => simp at h2
    | cons y qq =>
      have c1 : (p.length : Int) < (((p ++ x :: q).map w8).length : Int) := by simp; omega
      have c2 : (0 : Int) ≤ (p.length : Int) := Int.natCast_nonneg _
      have c3 : (p.length : Int) < (((pp ++ y :: qq).map w8).length : Int) := by simp; omega
      have c4 : (p.length : Int) < ((cs.map w8 ++ List.replicate (x :: q).length (0 : Int)).length : Int) := by simp; omega
      have hw : wrap64 ((p.length : Int) + 1) = ((p.length + 1 : Nat) : Int) := by simp at h4; unfold wrap64; omega
      have h5 := ih (p ++ [x]) (pp ++ [y]) qq s0 (byte s x) (cs ++ [x ^^^ y]) r (by simp [h1]) (by simpa using h2) (by simp [h3]) (by simpa using h4) (by simpa [more, xors] using h)
      simp only [List.append_assoc, List.singleton_append, List.length_append, List.length_cons, List.length_nil] at h5
      refine Ev.step (f := fun k => (crc_Row.f k (w8 ((s >>> 8).setWidth 8 ^^^ x))).bind fun t114 => dynamolaw5_CrcRows.l0 k (w16 s0) ((p ++ x :: q).map w8) ((pp ++ y :: qq).map w8) true (Go.bits .xor .u16 (w16 (s <<< 8)) t114) ((cs ++ [x ^^^ y]).map w8 ++ List.replicate q.length 0) ((p.length + 1 : Nat) : Int)) (fun k => ?_) ?_
      · simp only [dynamolaw5_CrcRows.l0]
        have e3 : rd ((pp ++ y :: qq).map w8) (p.length : Int) = w8 y := by rw [h1]; exact rd_at pp y qq
        have e4 : (cs.map w8 ++ List.replicate (x :: q).length (0 : Int)).set ((p.length : Int)).toNat (w8 (x ^^^ y)) = (cs ++ [x ^^^ y]).map w8 ++ List.replicate q.length 0 := put_at cs (x ^^^ y) q.length p.length h3
        rw [if_pos c1, if_pos c2, rd_at p x q, hi8, xor8, shl8 s, e3, xor8]
        simp only [if_pos c3, if_pos c4, e4, hw]
      · refine Ev.bind (row_f _) ?_
        rw [xor16, ← byte_row s x]
        simpa using h5
theorem CrcRows : dynamolaw5_CrcRows.Pure := by
  intro a0 l1 l2 h0 _ _ h1 _ _ h2
  obtain ⟨s, rfl⟩ := wf16 a0 h0
  obtain ⟨q, rfl⟩ := wf8s l1 h1
  obtain ⟨m, rfl⟩ := wf8s l2 h2
  apply Ev.rounds
  unfold dynamolaw5_CrcRows.f
  refine Ev.bind first_f ?_
  simp only [if_pos]
  have hlen : ((q.map w8).length : Int) = (q.length : Int) := by simp
  have hlen2 : ((m.map w8).length : Int) = (m.length : Int) := by simp
  by_cases hl : ((q.map w8).length : Int) > 100
  · simp only [if_pos hl]
    exact Ev.step (f := fun _ => some true) (fun k => by simp only [dynamolaw5_CrcRows.j0]; rw [if_pos trivial]) (Ev.now _)
  · simp only [if_neg hl]
    by_cases hz : ((m.map w8).length : Int) < ((q.map w8).length : Int)
    · simp only [decide_eq_true hz]
      exact Ev.step (f := fun _ => some true) (fun k => by simp only [dynamolaw5_CrcRows.j0]; rw [if_pos trivial]) (Ev.now _)
    · simp only [decide_eq_false hz]
      have hq : q.length ≤ 100 := by omega
      have hm : q.length ≤ m.length := by omega
      refine Ev.step (f := fun k => dynamolaw5_CrcRows.l0 k (w16 s) (q.map w8) (m.map w8) true (w16 s) (List.replicate q.length 0) 0) (fun k => ?_) ?_
      · simp only [dynamolaw5_CrcRows.j0]
        rw [if_neg (by decide), if_pos (by omega), if_pos (by simp; omega)]
        simp
      · have h := rows_l0 q [] [] m s s [] true rfl hm rfl (by simpa using hq)
        simp only [List.nil_append, List.map_nil, List.length_nil] at h
        refine h ?_
        refine Ev.step (f := fun k => (crc_More.f k (w16 s) (q.map w8)).bind fun t118 => if w16 (more s q) = t118 then (crc_More.f k 0 ((xors q m).map w8)).bind fun t119 => (crc_More.f k 0 (q.map w8)).bind fun t120 => (crc_More.f k 0 ((m.take q.length).map w8)).bind fun t122 => if t119 = (Go.bits .xor .u16 t120 t122) then (crc_Row.f k 0).bind fun t123 => some (t123 == 0) else some false else some false) (fun k => ?_) ?_
        · simp only [dynamolaw5_CrcRows.l0]
          rw [if_neg (by omega), if_pos trivial]
          simp only [if_pos (show (0 : Int) ≤ ((q.map w8).length : Int) by omega), if_pos (show ((q.map w8).length : Int) ≤ ((m.map w8).length : Int) by omega)]
          rw [hlen, Int.toNat_natCast, List.map_take]
        · refine Ev.bind (more_f s q (by omega)) ?_
          simp only [if_pos]
          have hx : (xors q m).length ≤ 100 := by
            have : ∀ (a b : List (BitVec 8)), (xors a b).length ≤ a.length := by
              intro a
              induction a with
              | nil => intro b; simp [xors]
              | cons x a ih => intro b; cases b with
                | nil => simp [xors]
                | cons y b => simp [xors]; exact ih b
            have := this q m; omega
          refine Ev.bind (more_f 0 _ (by omega)) ?_
          refine Ev.bind (more_f 0 q (by omega)) ?_
          refine Ev.bind (more_f 0 _ (by rw [List.length_take]; omega)) ?_
          have hxx : more 0 (xors q m) = more 0 q ^^^ more 0 (m.take q.length) := by
            rw [xors_take]
            have := more_xors q (m.take q.length) (by rw [List.length_take]; omega) 0 0
            simpa using this
          rw [xor16, hxx]
          simp only [if_pos]
          refine Ev.bind (row_f 0) ?_
          rw [row_zero]
          exact Ev.now _

end Go.Proofs.Ytdpdakecglpafaa.Pure
