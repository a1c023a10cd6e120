/- Whatever comes in, and is forced, a filter says what the document's filter says: the walk through the law's Go text, for all slices that can be read. -/
import Derived.Test.YtdpdakecglpafaaDebWords
import Derived.Test.YtdpdakecglpafaaRowWords
import Derived.BigRegion
import Derived.Deep.DeepCutAuto
namespace Go.Proofs.Ytdpdakecglpafaa.Deb
open Go Go.RowKit Go.Proofs.YtdpdakecglpafaaW.PrintWords Go.Proofs.YtdpdakecglpafaaW.PrintLast Go.Proofs.YtdpdakecglpafaaW.PrintMore
set_option linter.unusedVariables false
set_option linter.unusedSimpArgs false
set_option maxHeartbeats 4000000 in
set_option maxRecDepth 100000 in
theorem plays_calls (a : Int) (A : Option Addr) (c : Nat) (l : List Bool) (B : Option Addr) (d : Nat) (q : List Int) (w : World) (_ : (Lit.int .i64 a).wf = true) (hr : RowW.RdB w A l) (hc : l.length ≤ c) (hm : c ≤ maxLen)
    (hq : RowW.RdI .i64 w B q) (hd : q.length ≤ d) (hm2 : d ≤ maxLen) (_ : ∀ n ∈ q, (Lit.int .i64 n).wf = true) :
    Calls Try.prog 4 #[.int .i64 a, .slice A l.length c, .slice B q.length d] w fun e w' => e = .returned (.bool true) ∧ Below w.heap.size w w' := by
  have HR := Aside0.mk hr
  have HQ := Aside0.mk hq
  have HB := Aside0.mk (Below.refl w.heap.size w)
  clear hr hq
  by_cases hl : l.length > 200
  · have hl1 : decide (200 < (l.length : Int)) = true := decide_eq_true (by omega)
    have hl2 : decide (200 < l.length) = true := decide_eq_true (by omega)
    go_enter Try.func4, Try.ntmps4
    go_wp2_with (go_at_call 14; refine (first_c _).mono ?_; rintro e w1 ⟨rfl, hb⟩; have HB1 := Aside0.mk (below_step HB.out hb); clear hb)
    go_ret
    exact ⟨rfl, HB1.out⟩
  · have hl1 : decide (200 < (l.length : Int)) = false := decide_eq_false (by omega)
    have hl2 : decide (200 < l.length) = false := decide_eq_false (by omega)
    by_cases hq : q.length > 200
    · have hq1 : decide (200 < (q.length : Int)) = true := decide_eq_true (by omega)
      have hq2 : decide (200 < q.length) = true := decide_eq_true (by omega)
      go_enter Try.func4, Try.ntmps4
      go_wp2_with (go_at_call 14; refine (first_c _).mono ?_; rintro e w1 ⟨rfl, hb⟩; have HB1 := Aside0.mk (below_step HB.out hb); clear hb)
      go_ret
      exact ⟨rfl, HB1.out⟩
    · have hq1 : decide (200 < (q.length : Int)) = false := decide_eq_false (by omega)
      have hq2 : decide (200 < q.length) = false := decide_eq_false (by omega)
      obtain ⟨N, hN⟩ : ∃ N, mx (mn a 1000) 1 = N := ⟨_, rfl⟩
      have hN0 : 1 ≤ N := hN ▸ n_lo a
      have hN1 : N ≤ 1000 := hN ▸ n_hi a
      have EN := Aside0.mk hN
      clear hN
      go_enter Try.func4, Try.ntmps4
      go_wp2_with (go_at_call 14; refine (first_c _).mono ?_; rintro e w1 ⟨rfl, hb⟩; have HB1 := Aside0.mk (below_step HB.out hb); clear hb)
      with_reducible refine (new_c a w _ HB1.out).mono ?_
      rintro e w2 ⟨g, rfl, hi2, hb2, hb2', hg2⟩
      rw [EN.out] at hi2
      have HI2 := Aside0.mk hi2
      have HB2 := Aside0.mk hb2
      clear hi2 hb2 hb2' hg2
      go_wp2_with fail
      with_reducible refine (rnew_c a w _ HB2.out).mono ?_
      rintro e w3 ⟨g', rfl, hi3, hb3, hb3', hg3⟩
      rw [EN.out] at hi3
      have HG := Aside0.mk (show g ≠ g' from Nat.ne_of_lt (Nat.lt_of_lt_of_le HI2.out.lt hg3))
      have HJ3 := Aside0.mk hi3
      have HI3 := Aside0.mk (below_s HI2.out hb3')
      have HB3 := Aside0.mk hb3
      clear hi3 hb3 hb3' hg3 HI2 HB2
      go_wp2_with fail
      go_loopw [10] (fun v wr => ∃ (k : Nat) (n : Int) (s : Bool), k ≤ l.length ∧ v = .int .i64 k ∧ 0 ≤ n ∧ n < N ∧ Aside0 (IsS67 w wr g N n s) ∧ Aside0 (IsS34 w wr g' N n s) ∧ Aside0 (Below w.heap.size w wr)) (fun v _ => l.length - (intOf v).toNat)
      case atStart => exact ⟨0, 0, false, Nat.zero_le _, rfl, by omega, by omega, HI3, HJ3, HB3⟩
      case round =>
        obtain ⟨k, n, s, hk, rfl, hn0, hn1, HI, HJ, HB⟩ := hrel
        by_cases hlt : k < l.length
        · have hlt1 : decide ((k : Int) < (l.length : Int)) = true := decide_eq_true (by omega)
          obtain ⟨ad, e, hx⟩ := HR.out k hlt
          cases e
          generalize hX : l.getD k false = x at hx
          clear hX
          have HX := Aside0.mk hx
          have hx1 := (HB.out.cell (World.block_lt_of_cell? w _ hx)).trans hx
          clear hx
          go_upto_region 13 with (fail)
          go_cut [46] (fun v46 wc => ∃ b : Bool, v46 = .bool b ∧ Aside0 (wr = wc))
          case first =>
            by_cases hkq : k < q.length
            · have hkq1 : decide ((k : Int) < (q.length : Int)) = true := decide_eq_true (by omega)
              obtain ⟨bd, e, hy⟩ := HQ.out k hkq
              cases e
              generalize hY : q.getD k 0 = y at hy
              clear hY
              have hy1 := (HB.out.cell (World.block_lt_of_cell? w _ hy)).trans hy
              clear hy
              go_wp2_with fail
              go_meet
              case rel => exact ⟨_, rfl, ⟨rfl⟩⟩
            · have hkq1 : decide ((k : Int) < (q.length : Int)) = false := decide_eq_false (by omega)
              go_wp2_with fail
              go_meet
              case rel => exact ⟨_, rfl, ⟨rfl⟩⟩
          case rest =>
            obtain ⟨b, rfl, hw⟩ := hcut
            obtain rfl := hw.out
            clear hw
            go_upto_if 46 with (fail)
            go_cut [] (fun wc => ∃ (n' : Int) (s' : Bool), Aside0 (0 ≤ n' ∧ n' < N) ∧ Aside0 (IsS67 w wc g N n' s') ∧ Aside0 (IsS34 w wc g' N n' s') ∧ Aside0 (Below w.heap.size w wc))
            case first =>
              cases b
              · go_wp2_with fail
                go_meet
                case rel => exact ⟨n, s, ⟨by omega⟩, HI, HJ, HB⟩
              · go_wp2_with fail
                with_reducible refine (force_c g _ _ _ x w _ HI.out HB.out).mono ?_
                rintro e w4 ⟨rfl, hi4, hb4, hk4⟩
                have HI4 := Aside0.mk hi4
                have HJ4 := Aside0.mk (keep_r HJ.out hk4 HG.out.symm)
                have HB4 := Aside0.mk hb4
                clear hi4 hb4 hk4 hx1
                have hx1 := (HB4.out.cell (World.block_lt_of_cell? w _ HX.out)).trans HX.out
                go_wp2_with fail
                with_reducible refine (rforce_c g' _ _ _ x w _ HJ4.out HB4.out).mono ?_
                rintro e w5 ⟨rfl, hi5, hb5, hk5⟩
                have HJ5 := Aside0.mk hi5
                have HI5 := Aside0.mk (keep_s HI4.out hk5 HG.out)
                have HB5 := Aside0.mk hb5
                clear hi5 hb5 hk5 hx1
                go_wp2_with fail
                go_meet
                case rel => exact ⟨0, x, ⟨by omega⟩, HI5, HJ5, HB5⟩
            case rest =>
              obtain ⟨n', s', HN, HI', HJ', HB'⟩ := hcut
              clear hx1
              have hx1 := (HB'.out.cell (World.block_lt_of_cell? w _ HX.out)).trans HX.out
              go_wp2_with fail
              have HI0 : Aside0 (IsS67 w wc.drew g N n' s') := ⟨HI'.out⟩
              have HJ0 : Aside0 (IsS34 w wc.drew g' N n' s') := ⟨HJ'.out⟩
              have HB0 : Aside0 (Below w.heap.size w wc.drew) := ⟨below_drew HB'.out⟩
              have hc1 := stC_hi N n' s' x (by omega)
              have hc0 := stC_lo N n' s' x HN.out.1
              go_region_with
                (first
                  | (go_at_call 18
                     (with_reducible refine (step_c g N n' s' x w _ HI0.out HB0.out HN.out.1 ?s1).mono ?_)
                     (case s1 => (have := HN.out; omega))
                     rintro e w6 ⟨rfl, hi6, hb6, hk6⟩
                     have HJ6 := Aside0.mk (keep_r HJ0.out hk6 HG.out.symm)
                     have HI6 := Aside0.mk hi6
                     have HB6 := Aside0.mk hb6
                     clear hi6 hb6 hk6
                     have hx2 := (HB6.out.cell (World.block_lt_of_cell? w _ HX.out)).trans HX.out)
                  | (go_at_call 21
                     (with_reducible refine (rstep_c g' N n' s' x w _ HJ6.out HB6.out HN.out.1 ?s1).mono ?_)
                     (case s1 => (have := HN.out; omega))
                     rintro e w7 ⟨rfl, hi7, hb7, hk7⟩
                     have HI7 := Aside0.mk (keep_s HI6.out hk7 HG.out)
                     have HJ7 := Aside0.mk hi7
                     have HB7 := Aside0.mk hb7
                     clear hi7 hb7 hk7
                     have hx3 := (HB7.out.cell (World.block_lt_of_cell? w _ HX.out)).trans HX.out
                     have hon := cellS34_2 HJ7.out.1)
                  | (go_at_call 22
                     (with_reducible refine (state_c g N (stC N n' s' x) (stS N n' s' x) w _ HI7.out HB7.out).mono ?_)
                     rintro e w8 ⟨rfl, hi8, hb8, hk8⟩
                     have HJ8 := Aside0.mk (keep_r HJ7.out hk8 HG.out.symm)
                     have HI8 := Aside0.mk hi8
                     have HB8 := Aside0.mk hb8
                     clear hi8 hb8 hk8
                     have hx4 := (HB8.out.cell (World.block_lt_of_cell? w _ HX.out)).trans HX.out
                     have hon2 := cellS34_2 HJ8.out.1))
              all_goals go_wp2_with fail
              all_goals exact ⟨⟨k + 1, _, _, by omega, by go_num, hc0, hc1, HI8, HJ8, HB8⟩, by simp [intOf]; omega⟩
        · go_wp2_with fail
          go_ret
          exact ⟨rfl, HB.out⟩
end Go.Proofs.Ytdpdakecglpafaa.Deb
