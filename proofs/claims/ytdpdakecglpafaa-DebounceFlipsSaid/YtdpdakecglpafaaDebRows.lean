/- So many alike in a row, and a filter is as they are, one fewer, and it is as it was: the walk through the law's Go text, for all arguments. -/
import Derived.Test.YtdpdakecglpafaaDebWords
namespace Go.Proofs.Ytdpdakecglpafaa.Deb
open Go Go.RowKit Go.Proofs.YtdpdakecglpafaaW.PrintWords Go.Proofs.YtdpdakecglpafaaW.PrintLast Go.Proofs.YtdpdakecglpafaaW.PrintMore
set_option linter.unusedVariables false
set_option linter.unusedSimpArgs false
theorem st_same (n c : Int) (s : Bool) : stC n c s s = 0 ∧ stS n c s s = s := by simp [stC, stS]
theorem st_up (n c : Int) (s x : Bool) (h : x ≠ s) (hc : c + 1 < n) : stC n c s x = c + 1 ∧ stS n c s x = s := by
  simp only [stC, stS, if_neg h, if_neg (show ¬ n ≤ c + 1 by omega)]; exact ⟨trivial, trivial⟩
theorem st_turn (n c : Int) (s x : Bool) (h : x ≠ s) (hc : n ≤ c + 1) : stC n c s x = 0 ∧ stS n c s x = x := by
  simp only [stC, stS, if_neg h, if_pos hc]; exact ⟨trivial, trivial⟩
set_option maxHeartbeats 4000000 in
set_option maxRecDepth 100000 in
theorem rows_calls (a b : Int) (t : Bool) (w : World) (_ : (Lit.int .i64 a).wf = true) (_ : (Lit.int .i64 b).wf = true) :
    Calls Try.prog 5 #[.int .i64 a, .int .i64 b, .bool t] w fun e w' => e = .returned (.bool true) ∧ Below w.heap.size w w' := by
  have HB := Aside0.mk (Below.refl w.heap.size w)
  obtain ⟨i, hi, hi0, hi1⟩ := number_f a 50 (by omega) (by omega)
  obtain ⟨m, hj, hj0, hj1⟩ := number_f b 60 (by omega) (by omega)
  have HI := Aside0.mk hi
  have HJ := Aside0.mk hj
  clear hi hj
  have e1 : mx (mn (i + 1) 1000) 1 = i + 1 := by unfold mx mn; omega
  have e1 := Aside0.mk e1
  go_enter Try.func5, Try.ntmps5
  go_wp2_with fail
  refine (first_c _).mono ?_
  rintro e w1 ⟨rfl, hb⟩
  have HB1 := Aside0.mk (below_step HB.out hb)
  clear hb
  go_wp2_with fail
  (with_reducible refine (number_c a 50 i _ HI.out ?s1 ?s2).mono ?_)
  case s1 => omega
  case s2 => omega
  rintro e w1' ⟨rfl, rfl⟩
  go_wp2_with fail
  (with_reducible refine (number_c b 60 m _ HJ.out ?s1 ?s2).mono ?_)
  case s1 => omega
  case s2 => omega
  rintro e w1' ⟨rfl, rfl⟩
  go_wp2_with fail
  with_reducible refine (new_c (i + 1) w _ HB1.out).mono ?_
  rintro e w2 ⟨g, rfl, hi2, hb2, hb2', hg2⟩
  rw [e1.out] at hi2
  have HI2 := Aside0.mk hi2
  have HB2 := Aside0.mk hb2
  clear hi2 hb2 hb2' hg2
  go_wp2_with fail
  with_reducible refine (force_c g _ _ _ (!t) w _ HI2.out HB2.out).mono ?_
  rintro e w4 ⟨rfl, hi4, hb4, hk4⟩
  have HI4 := Aside0.mk hi4
  have HB4 := Aside0.mk hb4
  clear hi4 hb4 hk4 HI2 HB2
  go_wp2_with fail
  go_loopw [9] (fun v wr => ∃ (k : Nat) (c : Int) (s : Bool), (k : Int) ≤ m ∧ v = .int .i64 k ∧ 0 ≤ c ∧ c < i + 1 ∧ Aside0 (((k : Int) < i + 1 → c = k ∧ s = !t) ∧ (i + 1 ≤ (k : Int) → c = 0 ∧ s = t)) ∧ Aside0 (IsS67 w wr g (i + 1) c s) ∧ Aside0 (Below w.heap.size w wr)) (fun v _ => m.toNat - (intOf v).toNat)
  case atStart => exact ⟨0, 0, !t, by omega, rfl, by omega, by omega, ⟨fun _ => ⟨rfl, rfl⟩, fun h => by simp at h; omega⟩, HI4, HB4⟩
  case round =>
    obtain ⟨k, c, s, hk, rfl, hc0, hc1, HC, HI, HB⟩ := hrel
    by_cases hlt : (k : Int) < m
    · have hlt1 : decide ((k : Int) < m) = true := decide_eq_true hlt
      go_wp2_with fail
      with_reducible refine (step_c g _ _ _ t w _ HI.out HB.out ?s1 ?s2).mono ?_
      case s1 => omega
      case s2 => omega
      rintro e w6 ⟨rfl, hi6, hb6, hk6⟩
      have HI6 := Aside0.mk hi6
      have HB6 := Aside0.mk hb6
      clear hi6 hb6 hk6
      have q0 := stC_lo (i + 1) c s t hc0
      have q1 := stC_hi (i + 1) c s t (by omega)
      have HC' : Aside0 ((((k + 1 : Nat) : Int) < i + 1 → stC (i + 1) c s t = ((k + 1 : Nat) : Int) ∧ stS (i + 1) c s t = !t) ∧ (i + 1 ≤ ((k + 1 : Nat) : Int) → stC (i + 1) c s t = 0 ∧ stS (i + 1) c s t = t)) := by
        obtain ⟨h1, h2⟩ := HC.out
        refine ⟨⟨fun h => ?_, fun h => ?_⟩⟩
        · obtain ⟨rfl, rfl⟩ := h1 (by omega)
          have := st_up (i + 1) (k : Int) (!t) t (by cases t <;> simp) (by omega)
          exact ⟨by rw [this.1]; omega, this.2⟩
        · by_cases hkk : (k : Int) < i + 1
          · obtain ⟨rfl, rfl⟩ := h1 hkk
            exact st_turn (i + 1) (k : Int) (!t) t (by cases t <;> simp) (by omega)
          · obtain ⟨rfl, rfl⟩ := h2 (by omega)
            exact st_same _ _ _
      go_wp2_with fail
      go_roundw
      case rel => exact ⟨k + 1, _, _, by omega, by go_num, q0, q1, HC', HI6, HB6⟩
      case measure => simp [intOf]; omega
    · obtain rfl : (k : Int) = m := by omega
      have hlt1 : decide ((k : Int) < (k : Int)) = false := decide_eq_false (by omega)
      go_wp2_with fail
      with_reducible refine (state_c g _ _ _ w _ HI.out HB.out).mono ?_
      rintro e w7 ⟨rfl, hi7, hb7, hk7⟩
      have HI7 := Aside0.mk hi7
      have HB7 := Aside0.mk hb7
      clear hi7 hb7 hk7
      go_wp2_with fail
      with_reducible refine (step_c g _ _ _ (!t) w _ HI7.out HB7.out ?s1 ?s2).mono ?_
      case s1 => omega
      case s2 => omega
      rintro e w8 ⟨rfl, hi8, hb8, hk8⟩
      have HI8 := Aside0.mk hi8
      have HB8 := Aside0.mk hb8
      clear hi8 hb8 hk8
      have q0 := stC_lo (i + 1) c s (!t) hc0
      have q1 := stC_hi (i + 1) c s (!t) (by omega)
      have HC' : Aside0 ((k : Int) < i + 1 → stC (i + 1) c s (!t) = ((0 : Nat) : Int) ∧ stS (i + 1) c s (!t) = !t) := by
        refine ⟨fun h => ?_⟩
        obtain ⟨rfl, rfl⟩ := HC.out.1 h
        exact st_same _ _ _
      have HS : Aside0 (((k : Int) < i + 1 → s = !t) ∧ (i + 1 ≤ (k : Int) → s = t)) := ⟨fun h => (HC.out.1 h).2, fun h => (HC.out.2 h).2⟩
      generalize hZ : stC (i + 1) c s (!t) = z at HI8 q0 q1 HC'
      generalize hY : stS (i + 1) c s (!t) = y at HI8 HC'
      clear hZ hY HI HB HI7 HB7 HC hc0 hc1
      go_wp2_with fail
      go_loopw [11] (fun v wr => ∃ (r : Nat) (c : Int) (u : Bool), (r : Int) ≤ i ∧ v = .int .i64 r ∧ 0 ≤ c ∧ c < i + 1 ∧ Aside0 ((k : Int) < i + 1 → c = (r : Int) ∧ u = !t) ∧ Aside0 (IsS67 w wr g (i + 1) c u) ∧ Aside0 (Below w.heap.size w wr)) (fun v _ => i.toNat - (intOf v).toNat)
      case atStart => exact ⟨0, z, y, by omega, rfl, q0, q1, HC', HI8, HB8⟩
      case round =>
        obtain ⟨r, c, u, hr, rfl, hc0, hc1, HC, HI, HB⟩ := hrel
        have hw : wrap64 (i + 1 - 1) = i := by unfold wrap64; omega
        by_cases hlt2 : (r : Int) < i
        · have hlt3 : decide ((r : Int) < i) = true := decide_eq_true hlt2
          have hlt4 : decide ((r : Int) < i + 1 - 1) = true := decide_eq_true (by omega)
          go_wp2_with fail
          with_reducible refine (step_c g _ _ _ t w _ HI.out HB.out ?s1 ?s2).mono ?_
          case s1 => omega
          case s2 => omega
          rintro e w9 ⟨rfl, hi9, hb9, hk9⟩
          have HI9 := Aside0.mk hi9
          have HB9 := Aside0.mk hb9
          clear hi9 hb9 hk9
          have q2 := stC_lo (i + 1) c u t hc0
          have q3 := stC_hi (i + 1) c u t (by omega)
          have HC'' : Aside0 ((k : Int) < i + 1 → stC (i + 1) c u t = ((r + 1 : Nat) : Int) ∧ stS (i + 1) c u t = !t) := by
            refine ⟨fun h => ?_⟩
            obtain ⟨rfl, rfl⟩ := HC.out h
            have := st_up (i + 1) (r : Int) (!t) t (by cases t <;> simp) (by omega)
            exact ⟨by rw [this.1]; omega, this.2⟩
          go_wp2_with fail
          go_roundw
          case rel => exact ⟨r + 1, _, _, by omega, by go_num, q2, q3, HC'', HI9, HB9⟩
          case measure => simp [intOf]; omega
        · have hlt3 : decide ((r : Int) < i) = false := decide_eq_false hlt2
          have hlt4 : decide ((r : Int) < i + 1 - 1) = false := decide_eq_false (by omega)
          by_cases hkk : (k : Int) < i + 1
          · obtain ⟨rfl⟩ := HS.out.1 hkk
            obtain ⟨_, rfl⟩ := HC.out hkk
            have g1 : decide (i + 1 ≤ (k : Int)) = false := decide_eq_false (by omega)
            cases t
            all_goals
              go_wp2_with fail
              with_reducible refine (state_c g _ _ _ w _ HI.out HB.out).mono ?_
              rintro e w10 ⟨rfl, hi10, hb10, hk10⟩
              have HB10 := Aside0.mk hb10
              clear hi10 hb10 hk10
              go_wp2_with fail
              go_ret
              exact ⟨by first | rfl | simp | simp_all, HB10.out⟩
          · obtain ⟨rfl⟩ := HS.out.2 (by omega)
            have g1 : decide (i + 1 ≤ (k : Int)) = true := decide_eq_true (by omega)
            cases t
            all_goals
              go_wp2_with fail
              go_ret
              exact ⟨by first | rfl | simp | simp_all, HB.out⟩
end Go.Proofs.Ytdpdakecglpafaa.Deb
