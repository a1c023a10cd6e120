/- Of two filters that see the same the slower one never changes ahead of the quicker one: the walk through the law's Go text, for every slice of Bools that can be read. -/
import Derived.Test.YtdpdakecglpafaaDebWords
import Derived.Test.YtdpdakecglpafaaRowWords
namespace Go.Proofs.Ytdpdakecglpafaa.Deb
open Go Go.RowKit Go.Proofs.YtdpdakecglpafaaW.PrintWords Go.Proofs.YtdpdakecglpafaaW.PrintLast Go.Proofs.YtdpdakecglpafaaW.PrintMore
set_option linter.unusedVariables false
set_option linter.unusedSimpArgs false
set_option maxHeartbeats 4000000 in
set_option maxRecDepth 100000 in
theorem slow_calls (a b : Int) (A : Option Addr) (c : Nat) (l : List Bool) (s : Bool) (w : World) (_ : (Lit.int .i64 a).wf = true) (_ : (Lit.int .i64 b).wf = true) (hr : RowW.RdB w A l) (hc : l.length ≤ c) (hm : c ≤ maxLen) :
    Calls Try.prog 3 #[.int .i64 a, .int .i64 b, .slice A l.length c, .bool s] w fun e w' => e = .returned (.bool true) ∧ Below w.heap.size w w' := by
  have HR := Aside0.mk hr
  have HB := Aside0.mk (Below.refl w.heap.size w)
  clear hr
  obtain ⟨i, hi, hi0, hi1⟩ := number_f a 20 (by omega) (by omega)
  obtain ⟨j, hj, hj0, hj1⟩ := number_f b 20 (by omega) (by omega)
  have HI := Aside0.mk hi
  have HJ := Aside0.mk hj
  clear hi hj
  by_cases hl : l.length > 100
  · have hl1 : decide (100 < (l.length : Int)) = true := decide_eq_true (by omega)
    have hl2 : decide (100 < l.length) = true := decide_eq_true (by omega)
    go_enter Try.func3, Try.ntmps3
    go_wp2_with (go_at_call 14; refine (first_c _).mono ?_; rintro e w1 ⟨rfl, hb⟩; have HB1 := Aside0.mk (below_step HB.out hb); clear hb)
    go_ret
    exact ⟨rfl, HB1.out⟩
  · have hl1 : decide (100 < (l.length : Int)) = false := decide_eq_false (by omega)
    have hl2 : decide (100 < l.length) = false := decide_eq_false (by omega)
    have hw1 : wrap64 (i + 1) = i + 1 := by unfold wrap64; omega
    have hw2 : wrap64 (i + 1 + j) = i + 1 + j := by unfold wrap64; omega
    have e1 : mx (mn (i + 1) 1000) 1 = i + 1 := by unfold mx mn; omega
    have e2 : mx (mn (i + 1 + j) 1000) 1 = i + 1 + j := by unfold mx mn; omega
    have hw1 := Aside0.mk hw1
    have hw2 := Aside0.mk hw2
    have e1 := Aside0.mk e1
    have e2 := Aside0.mk e2
    go_enter Try.func3, Try.ntmps3
    go_wp2_with (first
      | (go_at_call 14; refine (first_c _).mono ?_; rintro e w1 ⟨rfl, hb⟩; have HB1 := Aside0.mk (below_step HB.out hb); clear hb)
      | (go_at_call 15; (with_reducible refine (number_c a 20 i _ HI.out ?s1 ?s2).mono ?_); (case s1 => omega); (case s2 => omega); rintro e w1 ⟨rfl, rfl⟩)
      | (go_at_call 15; (with_reducible refine (number_c b 20 j _ HJ.out ?s1 ?s2).mono ?_); (case s1 => omega); (case s2 => omega); rintro e w1 ⟨rfl, rfl⟩))
    have HB1' := HB1
    with_reducible refine (new_c (i + 1) w _ HB1.out).mono ?_
    rintro e w2 ⟨g, rfl, hi2, hb2, hb2', hg2⟩
    rw [e1.out] at hi2
    have HI2 := Aside0.mk hi2
    have HB2 := Aside0.mk hb2
    clear hi2 hb2 hb2' hg2
    go_wp2_with fail
    with_reducible refine (new_c (i + 1 + j) w _ HB2.out).mono ?_
    rintro e w3 ⟨g', rfl, hi3, hb3, hb3', hg3⟩
    rw [e2.out] at hi3
    have HG := Aside0.mk (show g ≠ g' from Nat.ne_of_lt (Nat.lt_of_lt_of_le HI2.out.lt hg3))
    have HJ3 := Aside0.mk hi3
    have HI3 := Aside0.mk (below_s HI2.out hb3')
    have HB3 := Aside0.mk hb3
    clear hi3 hb3 hb3' hg3 HI2 HB2
    go_wp2_with fail
    with_reducible refine (force_c g _ _ _ s w _ HI3.out HB3.out).mono ?_
    rintro e w4 ⟨rfl, hi4, hb4, hk4⟩
    have HI4 := Aside0.mk hi4
    have HJ4 := Aside0.mk (keep_s HJ3.out hk4 HG.out.symm)
    have HB4 := Aside0.mk hb4
    clear hi4 hb4 hk4 HI3 HJ3 HB3
    go_wp2_with fail
    with_reducible refine (force_c g' _ _ _ s w _ HJ4.out HB4.out).mono ?_
    rintro e w5 ⟨rfl, hi5, hb5, hk5⟩
    have HJ5 := Aside0.mk hi5
    have HI5 := Aside0.mk (keep_s HI4.out hk5 HG.out)
    have HB5 := Aside0.mk hb5
    clear hi5 hb5 hk5 HI4 HJ4 HB4
    go_wp2_with fail
    go_loopw [12, 13, 14] (fun v _ _ wr => ∃ (k : Nat) (n : Int), k ≤ l.length ∧ v = .int .i64 k ∧ 0 ≤ n ∧ n < i + 1 ∧ Aside0 (IsS67 w wr g (i + 1) n s) ∧ Aside0 (IsS67 w wr g' (i + 1 + j) n s) ∧ Aside0 (Below w.heap.size w wr)) (fun v _ _ _ => l.length - (intOf v).toNat)
    case atStart => exact ⟨0, 0, Nat.zero_le _, rfl, by omega, by omega, HI5, HJ5, HB5⟩
    case round =>
      obtain ⟨k, n, hk, rfl, hn0, hn1, HI, HJ, HB⟩ := hrel
      by_cases hlt : k < l.length
      · have hlt1 : decide ((k : Int) < (l.length : Int)) = true := decide_eq_true (by omega)
        obtain ⟨ad, e, hx⟩ := HR.out k hlt
        cases e
        generalize hX : l.getD k false = x at hx
        clear hX
        have HX := Aside0.mk hx
        have hx1 := (HB.out.cell (World.block_lt_of_cell? w _ hx)).trans hx
        clear hx
        go_wp2_with fail
        with_reducible refine (step_c g _ _ _ x w _ HI.out HB.out ?s1 ?s2).mono ?_
        case s1 => omega
        case s2 => omega
        rintro e w6 ⟨rfl, hi6, hb6, hk6⟩
        have HJ6 := Aside0.mk (keep_s HJ.out hk6 HG.out.symm)
        have HI6 := Aside0.mk hi6
        have HB6 := Aside0.mk hb6
        clear hi6 hb6 hk6 hx1
        have hx1 := (HB6.out.cell (World.block_lt_of_cell? w _ HX.out)).trans HX.out
        go_wp2_with fail
        with_reducible refine (step_c g' _ _ _ x w _ HJ6.out HB6.out ?s1 ?s2).mono ?_
        case s1 => omega
        case s2 => omega
        rintro e w7 ⟨rfl, hi7, hb7, hk7⟩
        have HI7 := Aside0.mk (keep_s HI6.out hk7 HG.out)
        have HJ7 := Aside0.mk hi7
        have HB7 := Aside0.mk hb7
        clear hi7 hb7 hk7 hx1
        have hc0 := stC_lo (i + 1) n s x hn0
        have hc1 := stC_hi (i + 1) n s x (by omega)
        by_cases hxs : x = s
        · have q1 : stS (i + 1) n s x = s := by simp [stS, hxs]
          have q2 : stS (i + 1 + j) n s x = s := by simp [stS, hxs]
          have q3 : stC (i + 1) n s x = 0 := by simp [stC, hxs]
          have q4 : stC (i + 1 + j) n s x = 0 := by simp [stC, hxs]
          rw [q1, q3] at HI7
          rw [q2, q4] at HJ7
          rw [q1, q2]
          clear hc0 hc1 q1 q2 q3 q4 hxs
          cases s
          all_goals
            go_wp2_with fail
            go_roundw
            case rel => exact ⟨k + 1, 0, by omega, by go_num, by omega, by omega, HI7, HJ7, HB7⟩
            case measure => simp [intOf]; omega
        · by_cases hge : i + 1 ≤ n + 1
          · have q1 : stS (i + 1) n s x = !s := by simp only [stS, if_neg hxs, if_pos hge]; cases x <;> cases s <;> simp_all
            rw [q1]
            by_cases hjj : j = 0
            · have q2 : stS (i + 1 + j) n s x = !s := by simp only [stS, if_neg hxs, if_pos (show i + 1 + j ≤ n + 1 by omega)]; cases x <;> cases s <;> simp_all
              have q3 : (i + 1 + j == i + 1) = true := beq_iff_eq.mpr (by omega)
              rw [q2]
              clear hc0 hc1 q1 q2 hxs
              cases s
              all_goals
                go_wp2_with fail
                go_ret
                exact ⟨by first | rfl | simp | simp_all, HB7.out⟩
            · have q2 : stS (i + 1 + j) n s x = s := by simp only [stS, if_neg hxs, if_neg (show ¬ i + 1 + j ≤ n + 1 by omega)]
              have q3 : (i + 1 + j == i + 1) = false := beq_eq_false_iff_ne.mpr (by omega)
              rw [q2]
              clear hc0 hc1 q1 q2 hxs
              cases s
              all_goals
                go_wp2_with fail
                go_ret
                exact ⟨by first | rfl | simp | simp_all, HB7.out⟩
          · have q1 : stS (i + 1) n s x = s := by simp only [stS, if_neg hxs, if_neg hge]
            have q2 : stS (i + 1 + j) n s x = s := by simp only [stS, if_neg hxs, if_neg (show ¬ i + 1 + j ≤ n + 1 by omega)]
            have q3 : stC (i + 1) n s x = n + 1 := by simp only [stC, if_neg hxs, if_neg hge]
            have q4 : stC (i + 1 + j) n s x = n + 1 := by simp only [stC, if_neg hxs, if_neg (show ¬ i + 1 + j ≤ n + 1 by omega)]
            rw [q1, q3] at HI7
            rw [q2, q4] at HJ7
            rw [q1, q2]
            clear hc0 hc1 q1 q2 q3 q4 hxs
            cases s
            all_goals
              go_wp2_with fail
              go_roundw
              case rel => exact ⟨k + 1, n + 1, by omega, by go_num, by omega, by omega, HI7, HJ7, HB7⟩
              case measure => simp [intOf]; omega
      · go_wp2_with fail
        go_ret
        exact ⟨rfl, HB.out⟩
end Go.Proofs.Ytdpdakecglpafaa.Deb
