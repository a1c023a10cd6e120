/- What flips to and fro more often than that never changes a filter; forced it is as it was forced: the walk through the law's Go text, for every slice of Bools that can be read. -/
import Derived.Test.YtdpdakecglpafaaDebRows
import Derived.Test.YtdpdakecglpafaaRowWords
namespace Go.Proofs.Ytdpdakecglpafaa.Deb
open Go Go.RowKit Go.Proofs.YtdpdakecglpafaaW.PrintWords Go.Proofs.YtdpdakecglpafaaW.PrintLast Go.Proofs.YtdpdakecglpafaaW.PrintMore
set_option linter.unusedVariables false
set_option linter.unusedSimpArgs false
set_option maxHeartbeats 4000000 in
set_option maxRecDepth 100000 in
theorem flips_calls (a : Int) (A : Option Addr) (c : Nat) (l : List Bool) (s : Bool) (w : World) (_ : (Lit.int .i64 a).wf = true) (hr : RowW.RdB w A l) (hc : l.length ≤ c) (hm : c ≤ maxLen) :
    Calls Try.prog 6 #[.int .i64 a, .slice A l.length c, .bool s] w fun e w' => e = .returned (.bool true) ∧ Below w.heap.size w w' := by
  have HR := Aside0.mk hr
  have HB := Aside0.mk (Below.refl w.heap.size w)
  clear hr
  obtain ⟨i, hi, hi0, hi1⟩ := number_f a 20 (by omega) (by omega)
  have HI := Aside0.mk hi
  clear hi
  by_cases hl : l.length > 200
  · have hl1 : decide (200 < (l.length : Int)) = true := decide_eq_true (by omega)
    have hl2 : decide (200 < l.length) = true := decide_eq_true (by omega)
    go_enter Try.func6, Try.ntmps6
    go_wp2_with fail
    refine (first_c _).mono ?_
    rintro e w1 ⟨rfl, hb⟩
    have HB1 := Aside0.mk (below_step HB.out hb)
    clear hb
    go_wp2_with fail
    (with_reducible refine (number_c a 20 i _ HI.out ?s1 ?s2).mono ?_)
    case s1 => omega
    case s2 => omega
    rintro e w1' ⟨rfl, rfl⟩
    go_wp2_with fail
    go_ret
    exact ⟨rfl, HB1.out⟩
  · have hl1 : decide (200 < (l.length : Int)) = false := decide_eq_false (by omega)
    have hl2 : decide (200 < l.length) = false := decide_eq_false (by omega)
    have e1 : mx (mn (i + 2) 1000) 1 = i + 2 := by unfold mx mn; omega
    have e1 := Aside0.mk e1
    go_enter Try.func6, Try.ntmps6
    go_wp2_with fail
    refine (first_c _).mono ?_
    rintro e w1 ⟨rfl, hb⟩
    have HB1 := Aside0.mk (below_step HB.out hb)
    clear hb
    go_wp2_with fail
    (with_reducible refine (number_c a 20 i _ HI.out ?s1 ?s2).mono ?_)
    case s1 => omega
    case s2 => omega
    rintro e w1' ⟨rfl, rfl⟩
    go_wp2_with fail
    with_reducible refine (new_c (i + 2) w _ HB1.out).mono ?_
    rintro e w2 ⟨g, rfl, hi2, hb2, hb2', hg2⟩
    rw [e1.out] at hi2
    have HI2 := Aside0.mk hi2
    have HB2 := Aside0.mk hb2
    clear hi2 hb2 hb2' hg2
    go_wp2_with fail
    with_reducible refine (force_c g _ _ _ s w _ HI2.out HB2.out).mono ?_
    rintro e w4 ⟨rfl, hi4, hb4, hk4⟩
    have HI4 := Aside0.mk hi4
    have HB4 := Aside0.mk hb4
    clear hi4 hb4 hk4 HI2 HB2
    go_wp2_with fail
    go_loopw [9, 10, 11] (fun r v _ wr => ∃ (k : Nat) (n : Int), k ≤ l.length ∧ v = .int .i64 k ∧ r = .int .i64 n ∧ 0 ≤ n ∧ n < i + 2 ∧ Aside0 (IsS67 w wr g (i + 2) n s) ∧ Aside0 (Below w.heap.size w wr)) (fun _ v _ _ => l.length - (intOf v).toNat)
    case atStart => exact ⟨0, 0, Nat.zero_le _, rfl, rfl, by omega, by omega, HI4, HB4⟩
    case round =>
      obtain ⟨k, n, hk, rfl, rfl, hn0, hn1, HI, HB⟩ := hrel
      by_cases hlt : k < l.length
      · have hlt1 : decide ((k : Int) < (l.length : Int)) = true := decide_eq_true (by omega)
        obtain ⟨ad, e, hx⟩ := HR.out k hlt
        cases e
        generalize hX : l.getD k false = x at hx
        clear hX
        have hx1 := (HB.out.cell (World.block_lt_of_cell? w _ hx)).trans hx
        clear hx
        by_cases hxs : x = s
        · subst hxs
          cases x
          all_goals
            go_wp2_with fail
            (with_reducible refine (step_c g _ _ _ _ w _ HI.out HB.out ?s1 ?s2).mono ?_)
            case s1 => omega
            case s2 => omega
            rintro e w6 ⟨rfl, hi6, hb6, hk6⟩
            rw [(st_same _ _ _).1, (st_same _ _ _).2] at hi6
            rw [(st_same _ _ _).2]
            have HI6 := Aside0.mk hi6
            have HB6 := Aside0.mk hb6
            clear hi6 hb6 hk6 hx1
            go_wp2_with fail
            (with_reducible refine (state_c g _ _ _ w _ HI6.out HB6.out).mono ?_)
            rintro e w7 ⟨rfl, hi7, hb7, hk7⟩
            have HI7 := Aside0.mk hi7
            have HB7 := Aside0.mk hb7
            clear hi7 hb7 hk7
            go_wp2_with fail
            go_roundw
            case rel => exact ⟨k + 1, 0, by omega, by go_num, rfl, by omega, by omega, HI7, HB7⟩
            case measure => simp [intOf]; omega
        · by_cases hge : i + 2 ≤ n + 1
          · have hge1 : decide (i + 2 ≤ n + 1) = true := decide_eq_true hge
            cases x <;> cases s <;> first | (exact absurd rfl hxs) | clear hxs
            all_goals
              go_wp2_with fail
              (with_reducible refine (step_c g _ _ _ _ w _ HI.out HB.out ?s1 ?s2).mono ?_)
              case s1 => omega
              case s2 => omega
              rintro e w6 ⟨rfl, hi6, hb6, hk6⟩
              rw [(st_same _ _ _).1, (st_same _ _ _).2] at hi6
              rw [(st_same _ _ _).2]
              have HI6 := Aside0.mk hi6
              have HB6 := Aside0.mk hb6
              clear hi6 hb6 hk6 hx1
              go_wp2_with fail
              (with_reducible refine (state_c g _ _ _ w _ HI6.out HB6.out).mono ?_)
              rintro e w7 ⟨rfl, hi7, hb7, hk7⟩
              have HI7 := Aside0.mk hi7
              have HB7 := Aside0.mk hb7
              clear hi7 hb7 hk7
              go_wp2_with fail
              go_roundw
              case rel => exact ⟨k + 1, 0, by omega, by go_num, rfl, by omega, by omega, HI7, HB7⟩
              case measure => simp [intOf]; omega
          · have hge1 : decide (i + 2 ≤ n + 1) = false := decide_eq_false hge
            have hu := st_up (i + 2) n s x hxs (by omega)
            cases x <;> cases s <;> first | (exact absurd rfl hxs) | clear hxs
            all_goals
              obtain ⟨u1, u2⟩ := hu
              have U1 := Aside0.mk u1
              have U2 := Aside0.mk u2
              clear u1 u2
              go_wp2_with fail
              (with_reducible refine (step_c g _ _ _ _ w _ HI.out HB.out ?s1 ?s2).mono ?_)
              case s1 => omega
              case s2 => omega
              rintro e w6 ⟨rfl, hi6, hb6, hk6⟩
              rw [U1.out, U2.out] at hi6
              rw [U2.out]
              have HI6 := Aside0.mk hi6
              have HB6 := Aside0.mk hb6
              clear hi6 hb6 hk6 hx1
              go_wp2_with fail
              (with_reducible refine (state_c g _ _ _ w _ HI6.out HB6.out).mono ?_)
              rintro e w7 ⟨rfl, hi7, hb7, hk7⟩
              have HI7 := Aside0.mk hi7
              have HB7 := Aside0.mk hb7
              clear hi7 hb7 hk7
              go_wp2_with fail
              go_roundw
              case rel => exact ⟨k + 1, n + 1, by omega, by go_num, rfl, by omega, by omega, HI7, HB7⟩
              case measure => simp [intOf]; omega
      · cases s
        all_goals
          go_wp2_with fail
          (with_reducible refine (force_c g _ _ _ _ w _ HI.out HB.out).mono ?_)
          rintro e w8 ⟨rfl, hi8, hb8, hk8⟩
          have HI8 := Aside0.mk hi8
          have HB8 := Aside0.mk hb8
          clear hi8 hb8 hk8
          go_wp2_with fail
          (with_reducible refine (state_c g _ _ _ w _ HI8.out HB8.out).mono ?_)
          rintro e w9 ⟨rfl, hi9, hb9, hk9⟩
          have HB9 := Aside0.mk hb9
          clear hi9 hb9 hk9
          go_wp2_with fail
          go_ret
          exact ⟨by first | rfl | simp, HB9.out⟩
end Go.Proofs.Ytdpdakecglpafaa.Deb
