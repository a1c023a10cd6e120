/- Told to open a contactor is proved open behind so many cycles, and not ahead of them; told to close, no more: the walk through the law's Go text, for all arguments. -/
import Derived.Test.YtbamnfladjkkcaaConLaws
namespace Go.Proofs.Ytbamnfladjkkcaa.Con
open Go Go.RowKit Go.Proofs.YtbamnfladjkkcaaW.PrintWords Go.Proofs.YtbamnfladjkkcaaW.PrintLast Go.Proofs.YtbamnfladjkkcaaW.PrintMore
set_option linter.unusedVariables false
set_option linter.unusedSimpArgs false
theorem number_c (a n : Int) (w : World) (h1 : 0 < n) (h2 : n < 4000000000000000000) : ∃ i : Int, 0 ≤ i ∧ i < n ∧ Calls Try.prog 27 #[.int .i64 a, .int .i64 n] w fun e w' => e = .returned (.int .i64 i) ∧ w = w' := by
  have h3 : Int.tmod a n < n := Int.tmod_lt_of_pos a h1
  have h4 : -n < Int.tmod a n := by have := Int.lt_tmod_of_pos a h1; omega
  have z : (n == 0) = false := beq_eq_false_iff_ne.mpr (by omega)
  by_cases hn : Int.tmod a n < 0
  · refine ⟨Int.tmod a n + n, by omega, by omega, ?_⟩
    have d : decide (Int.tmod a n < 0) = true := decide_eq_true hn
    go_enter Try.func27, Try.ntmps27
    go_wp2
    go_ret
    exact ⟨rfl, rfl⟩
  · refine ⟨Int.tmod a n, by omega, by omega, ?_⟩
    have d : decide (Int.tmod a n < 0) = false := decide_eq_false hn
    go_enter Try.func27, Try.ntmps27
    go_wp2
    go_ret
    exact ⟨rfl, rfl⟩
def shutK (d : Int) (k : Nat) : CS := if k = 0 then ⟨d, 1000, false, -2, 0, 0, false, false, false⟩ else ⟨d, 1000, true, (k : Int) - 1, 0, 1, true, false, false⟩
def openK (d : Int) (k : Nat) : CS := if k = 0 then shutK d 5 else ⟨d, 1000, false, (k : Int) - 1, 0, 0, true, false, false⟩
theorem shut_step (d : Int) (k : Nat) (h : k < 900) : (shutK d k).step true 1 true = shutK d (k + 1) := by
  unfold shutK
  by_cases h0 : k = 0
  · subst h0; simp [CS.step, nSince, nWrong, nWrong0, mn]
  · rw [if_neg h0, if_neg (by omega)]
    simp [CS.step, nSince, nWrong, nWrong0, mn]
    omega
theorem open_step (d : Int) (k : Nat) (h : k < 900) : (openK d k).step false 0 true = openK d (k + 1) := by
  unfold openK
  by_cases h0 : k = 0
  · subst h0; simp [shutK, CS.step, nSince, nWrong, nWrong0, mn]
  · rw [if_neg h0, if_neg (by omega)]
    simp [CS.step, nSince, nWrong, nWrong0, mn]
    omega
def lastK (d : Int) : CS := ⟨d, 1000, true, 0, 0, 0, true, false, false⟩
theorem last_step (d : Int) (k : Nat) (hd : 1 ≤ d) : (openK d (k + 1)).step true 0 true = lastK d := by
  unfold openK lastK
  rw [if_neg (by omega)]
  simp [CS.step, nSince, nWrong, nWrong0, mn]
  omega
theorem shut_ok (d : Int) (k : Nat) (h : k < 900) : (shutK d k).Ok := by
  unfold shutK
  split
  · exact ⟨show (-2 : Int) ≤ -2 by decide, show (-2 : Int) ≤ 1000 by decide, show (0 : Int) ≤ 0 by decide, show (0 : Int) ≤ 1000 by decide⟩
  · exact ⟨show (-2 : Int) ≤ (k : Int) - 1 by omega, show (k : Int) - 1 ≤ 1000 by omega, show (0 : Int) ≤ 0 by decide, show (0 : Int) ≤ 1000 by decide⟩
theorem open_ok (d : Int) (k : Nat) (h : k < 900) : (openK d k).Ok := by
  unfold openK
  split
  · exact shut_ok d 5 (by decide)
  · exact ⟨show (-2 : Int) ≤ (k : Int) - 1 by omega, show (k : Int) - 1 ≤ 1000 by omega, show (0 : Int) ≤ 0 by decide, show (0 : Int) ≤ 1000 by decide⟩
theorem open_is (d : Int) (k : Nat) : (openK d (k + 1)).isOpen = decide (d ≤ (k : Int)) ∧ (openK d (k + 1)).isClosed = false := by
  unfold openK CS.isOpen CS.isClosed
  rw [if_neg (by omega)]
  have e : (((k + 1 : Nat) : Int) - 1) = (k : Int) := by omega
  simp [e]
set_option maxHeartbeats 4000000 in
set_option maxRecDepth 100000 in
theorem opens_calls (a b : Int) (w : World) (_ : (Lit.int .i64 a).wf = true) (_ : (Lit.int .i64 b).wf = true) :
    Calls Try.prog 7 #[.int .i64 a, .int .i64 b] w fun e w' => e = .returned (.bool true) ∧ Below w.heap.size w w' := by
  have HB := Aside0.mk (Below.refl w.heap.size w)
  have hu := Try.underlying36
  go_enter Try.func7, Try.ntmps7
  go_wp2_with fail
  refine (first_c _).mono ?_
  rintro e w1 ⟨rfl, hb⟩
  have B1 := Aside0.mk hb
  clear hb
  go_wp2_with fail
  obtain ⟨i, hi0, hi1, hc⟩ := number_c a 30 w1 (by decide) (by decide)
  refine hc.mono ?_
  clear hc
  rintro e w1' ⟨rfl, rfl⟩
  go_wp2_with fail
  obtain ⟨m, hm0, hm1, hc⟩ := number_c b 70 w1 (by decide) (by decide)
  refine hc.mono ?_
  clear hc
  rintro e w1' ⟨rfl, rfl⟩
  go_wp2_with fail
  with_reducible refine (newk_c (i + 1) 1000 w _ B1.out).mono ?_
  rintro e w2 ⟨g, rfl, hcc, hb, _, _⟩
  have e0 : CS.new (i + 1) 1000 = shutK (i + 1) 0 := by
    unfold CS.new shutK
    rw [if_pos rfl, clamp_id (i + 1) (by omega) (by omega)]
    rfl
  rw [e0] at hcc
  clear e0
  have C2 := Aside0.mk hcc
  have B2 := Aside0.mk hb
  clear hcc hb B1
  go_wp2_with fail
  have B3 : Aside0 (Below w.heap.size w ((w2.alloc (.cells #[.int .i64 0, .bool true] 36)).alloc (.cells #[.int .i64 1, .bool true] 36))) := ⟨below_step B2.out (below_alloc (below_alloc (Below.refl _ _) _) _)⟩
  have C3 : Aside0 (Con w ((w2.alloc (.cells #[.int .i64 0, .bool true] 36)).alloc (.cells #[.int .i64 1, .bool true] 36)) g (shutK (i + 1) 0)) := ⟨IsS80.alloc (IsS80.alloc C2.out _) _⟩
  have T1 : (w2.alloc (.cells #[.int .i64 0, .bool true] 36)).heap[w2.heap.size]? = some (.cells #[.int .i64 0, .bool true] 36 (0, 0)) := by simpa using heap_alloc_new w2 _
  have T2 : ((w2.alloc (.cells #[.int .i64 0, .bool true] 36)).alloc (.cells #[.int .i64 1, .bool true] 36)).heap[w2.heap.size + 1]? = some (.cells #[.int .i64 1, .bool true] 36 (0, 0)) := by
    have := heap_alloc_new (w2.alloc (.cells #[.int .i64 0, .bool true] 36)) (.cells #[.int .i64 1, .bool true] 36)
    simpa using this
  have S3 : Aside0 (((w2.alloc (.cells #[.int .i64 0, .bool true] 36)).alloc (.cells #[.int .i64 1, .bool true] 36)).heap[w2.heap.size]? = some (.cells #[.int .i64 0, .bool true] 36 (0, 0)) ∧ ((w2.alloc (.cells #[.int .i64 0, .bool true] 36)).alloc (.cells #[.int .i64 1, .bool true] 36)).heap[w2.heap.size + 1]? = some (.cells #[.int .i64 1, .bool true] 36 (0, 0))) := ⟨⟨blk_grown T1 (World.grownBy_alloc _ _ none) (by simp), T2⟩⟩
  have G3 : Aside0 (w2.heap.size ≠ g ∧ w2.heap.size + 1 ≠ g) := ⟨⟨Nat.ne_of_gt C2.out.lt, Nat.ne_of_gt (Nat.lt_succ_of_lt C2.out.lt)⟩⟩
  clear T1 T2
  generalize (w2.alloc (.cells #[.int .i64 0, .bool true] 36)).alloc (.cells #[.int .i64 1, .bool true] 36) = w3 at B3 C3 S3 ⊢
  generalize w2.heap.size = h at S3 G3 ⊢
  go_loopw [9] (fun v wr => ∃ k : Nat, k ≤ 5 ∧ v = .int .i64 k ∧ Aside0 (Con w wr g (shutK (i + 1) k)) ∧ Aside0 (wr.heap[h]? = some (.cells #[.int .i64 0, .bool true] 36 (0, 0)) ∧ wr.heap[h + 1]? = some (.cells #[.int .i64 1, .bool true] 36 (0, 0))) ∧ Aside0 (Below w.heap.size w wr)) (fun v _ => 5 - (intOf v).toNat)
  case atStart => exact ⟨0, by omega, rfl, C3, S3, B3⟩
  case round =>
    obtain ⟨k, hk, rfl, HC, S4, HBr⟩ := hrel
    by_cases hlt : k < 5
    · have hlt1 : decide ((k : Int) < 5) = true := decide_eq_true (by omega)
      have y0 : wr.cell? ⟨h + 1, 0, none⟩ = some (.int .i64 1) := (blk_cell S4.out.2 0).trans rfl
      have y1 : wr.cell? ⟨h + 1, 1, none⟩ = some (.bool true) := (blk_cell S4.out.2 1).trans rfl
      go_wp2_with fail
      with_reducible refine (stepk_c g (shutK (i + 1) k) true 1 true w _ HC.out HBr.out (shut_ok _ _ (by omega))).mono ?_
      rintro e w5 ⟨rfl, hc, hb, hk⟩
      rw [shut_step _ _ (by omega)] at hc
      have C5 := Aside0.mk hc
      have B5 := Aside0.mk hb
      have P5 := Aside0.mk (hk.blk S4.out.1 G3.out.1 (by simp))
      have Q5 := Aside0.mk (hk.blk S4.out.2 G3.out.2 (by simp))
      have S5 := Aside0.mk (And.intro P5.out Q5.out)
      clear hc hb hk P5 Q5
      go_wp2_with fail
      go_roundw
      case rel => exact ⟨k + 1, by omega, by go_num, C5, S5, B5⟩
      case measure => simp [intOf]; omega
    · obtain rfl : k = 5 := by omega
      go_wp2_with fail
      with_reducible refine (open_c g (shutK (i + 1) 5) w _ HC.out HBr.out).mono ?_
      rintro e w5 ⟨rfl, hc, hb, hk⟩
      have o1 : (shutK (i + 1) 5).isOpen = false := rfl
      rw [o1]
      have C5 := Aside0.mk hc
      have B5 := Aside0.mk hb
      have P5 := Aside0.mk (hk.blk S4.out.1 G3.out.1 (by simp))
      have Q5 := Aside0.mk (hk.blk S4.out.2 G3.out.2 (by simp))
      have S5 := Aside0.mk (And.intro P5.out Q5.out)
      clear hc hb hk P5 Q5
      go_wp2_with fail
      with_reducible refine (closed_c g (shutK (i + 1) 5) w _ C5.out B5.out).mono ?_
      rintro e w6 ⟨rfl, hc, hb, hk⟩
      have o2 : (shutK (i + 1) 5).isClosed = true := rfl
      rw [o2]
      have C6 := Aside0.mk hc
      have B6 := Aside0.mk hb
      have P6 := Aside0.mk (hk.blk S5.out.1 G3.out.1 (by simp))
      have Q6 := Aside0.mk (hk.blk S5.out.2 G3.out.2 (by simp))
      have S6 := Aside0.mk (And.intro P6.out Q6.out)
      clear hc hb hk P6 Q6
      go_wp2_with fail
      have C7 : Aside0 (Con w w6 g (openK (i + 1) 0)) := ⟨C6.out⟩
      clear HC S4 HBr C5 S5 B5 C6
      go_loopw [10] (fun v wr => ∃ k : Nat, (k : Int) ≤ m + 1 ∧ v = .int .i64 k ∧ Aside0 (Con w wr g (openK (i + 1) k)) ∧ Aside0 (wr.heap[h]? = some (.cells #[.int .i64 0, .bool true] 36 (0, 0)) ∧ wr.heap[h + 1]? = some (.cells #[.int .i64 1, .bool true] 36 (0, 0))) ∧ Aside0 (Below w.heap.size w wr)) (fun v _ => (m + 1).toNat - (intOf v).toNat)
      case atStart => exact ⟨0, by omega, rfl, C7, S6, B6⟩
      case round =>
        obtain ⟨k, hk, rfl, HC, S4, HBr⟩ := hrel
        by_cases hlt : (k : Int) ≤ m
        · have hlt1 : decide ((k : Int) ≤ m) = true := decide_eq_true hlt
          have y0 : wr.cell? ⟨h, 0, none⟩ = some (.int .i64 0) := (blk_cell S4.out.1 0).trans rfl
          have y1 : wr.cell? ⟨h, 1, none⟩ = some (.bool true) := (blk_cell S4.out.1 1).trans rfl
          go_wp2_with fail
          with_reducible refine (stepk_c g (openK (i + 1) k) false 0 true w _ HC.out HBr.out (open_ok _ _ (by omega))).mono ?_
          rintro e w8 ⟨rfl, hc, hb, hk⟩
          rw [open_step _ _ (by omega)] at hc
          have C8 := Aside0.mk hc
          have B8 := Aside0.mk hb
          have P8 := Aside0.mk (hk.blk S4.out.1 G3.out.1 (by simp))
          have Q8 := Aside0.mk (hk.blk S4.out.2 G3.out.2 (by simp))
          have S8 := Aside0.mk (And.intro P8.out Q8.out)
          clear hc hb hk P8 Q8
          go_wp2_with fail
          with_reducible refine (open_c g (openK (i + 1) (k + 1)) w _ C8.out B8.out).mono ?_
          rintro e w9 ⟨rfl, hc, hb, hk⟩
          rw [(open_is (i + 1) k).1]
          have C9 := Aside0.mk hc
          have B9 := Aside0.mk hb
          have P9 := Aside0.mk (hk.blk S8.out.1 G3.out.1 (by simp))
          have Q9 := Aside0.mk (hk.blk S8.out.2 G3.out.2 (by simp))
          have S9 := Aside0.mk (And.intro P9.out Q9.out)
          clear hc hb hk P9 Q9
          by_cases hge : i + 1 ≤ (k : Int)
          · have hge1 : decide (i + 1 ≤ (k : Int)) = true := decide_eq_true hge
            rw [hge1]
            go_wp2_with fail
            with_reducible refine (closed_c g (openK (i + 1) (k + 1)) w _ C9.out B9.out).mono ?_
            rintro e w10 ⟨rfl, hc, hb, hk⟩
            rw [(open_is (i + 1) k).2]
            have C10 := Aside0.mk hc
            have B10 := Aside0.mk hb
            have P10 := Aside0.mk (hk.blk S9.out.1 G3.out.1 (by simp))
            have Q10 := Aside0.mk (hk.blk S9.out.2 G3.out.2 (by simp))
            have S10 := Aside0.mk (And.intro P10.out Q10.out)
            clear hc hb hk P10 Q10
            go_wp2_with fail
            go_roundw
            case rel => exact ⟨k + 1, by omega, by go_num, C10, S10, B10⟩
            case measure => simp [intOf]; omega
          · have hge1 : decide (i + 1 ≤ (k : Int)) = false := decide_eq_false hge
            rw [hge1]
            go_wp2_with fail
            with_reducible refine (closed_c g (openK (i + 1) (k + 1)) w _ C9.out B9.out).mono ?_
            rintro e w10 ⟨rfl, hc, hb, hk⟩
            rw [(open_is (i + 1) k).2]
            have C10 := Aside0.mk hc
            have B10 := Aside0.mk hb
            have P10 := Aside0.mk (hk.blk S9.out.1 G3.out.1 (by simp))
            have Q10 := Aside0.mk (hk.blk S9.out.2 G3.out.2 (by simp))
            have S10 := Aside0.mk (And.intro P10.out Q10.out)
            clear hc hb hk P10 Q10
            go_wp2_with fail
            go_roundw
            case rel => exact ⟨k + 1, by omega, by go_num, C10, S10, B10⟩
            case measure => simp [intOf]; omega
        · have hlt1 : decide ((k : Int) ≤ m) = false := decide_eq_false hlt
          obtain ⟨k, rfl⟩ : ∃ n, k = n + 1 := ⟨k - 1, by omega⟩
          have y0 : wr.cell? ⟨h, 0, none⟩ = some (.int .i64 0) := (blk_cell S4.out.1 0).trans rfl
          have y1 : wr.cell? ⟨h, 1, none⟩ = some (.bool true) := (blk_cell S4.out.1 1).trans rfl
          go_wp2_with fail
          with_reducible refine (stepk_c g (openK (i + 1) (k + 1)) true 0 true w _ HC.out HBr.out (open_ok _ _ (by omega))).mono ?_
          rintro e w8 ⟨rfl, hc, hb, hk⟩
          rw [last_step _ _ (by omega)] at hc
          have C8 := Aside0.mk hc
          have B8 := Aside0.mk hb
          have P8 := Aside0.mk (hk.blk S4.out.1 G3.out.1 (by simp))
          have Q8 := Aside0.mk (hk.blk S4.out.2 G3.out.2 (by simp))
          have S8 := Aside0.mk (And.intro P8.out Q8.out)
          clear hc hb hk P8 Q8
          go_wp2_with fail
          with_reducible refine (jam_c g (lastK (i + 1)) w _ C8.out B8.out).mono ?_
          rintro e w9 ⟨rfl, hc, hb, hk⟩
          have o3 : (lastK (i + 1)).jo = false := rfl
          have o4 : (lastK (i + 1)).jn = false := rfl
          rw [o3, o4]
          have C9 := Aside0.mk hc
          have B9 := Aside0.mk hb
          have P9 := Aside0.mk (hk.blk S8.out.1 G3.out.1 (by simp))
          have Q9 := Aside0.mk (hk.blk S8.out.2 G3.out.2 (by simp))
          have S9 := Aside0.mk (And.intro P9.out Q9.out)
          clear hc hb hk P9 Q9
          go_wp2_with fail
          with_reducible refine (open_c g (lastK (i + 1)) w _ C9.out B9.out).mono ?_
          rintro e w10 ⟨rfl, hc, hb, hk⟩
          have o5 : (lastK (i + 1)).isOpen = false := rfl
          rw [o5]
          have C10 := Aside0.mk hc
          have B10 := Aside0.mk hb
          have P10 := Aside0.mk (hk.blk S9.out.1 G3.out.1 (by simp))
          have Q10 := Aside0.mk (hk.blk S9.out.2 G3.out.2 (by simp))
          have S10 := Aside0.mk (And.intro P10.out Q10.out)
          clear hc hb hk P10 Q10
          go_wp2_with fail
          go_ret
          exact ⟨rfl, B10.out⟩
end Go.Proofs.Ytbamnfladjkkcaa.Con
