/- Coils at a right angle, as strong as each other, turn forward and are good as far as they are strong enough: the walk through the law's Go text, for all arguments. -/
import Derived.Test.YtdpdakecglpafaaPhaWords
namespace Go.Proofs.Ytdpdakecglpafaa.Pha
open Go Go.RowKit Go.Proofs.YtdpdakecglpafaaW.PrintWords Go.Proofs.YtdpdakecglpafaaW.PrintLast Go.Proofs.YtdpdakecglpafaaW.PrintMore Go.Proofs.Ytdpdakecglpafaa.Fl
set_option linter.unusedVariables false
set_option linter.unusedSimpArgs false
theorem good_self (z : Int × Int) (l : Int) : goodB z (qt 3 z) l = decide (l * l ≤ 4 * sq z) := by
  have h1 : sq (fw z (qt 3 z)) = 4 * sq z := by simp only [sq, fw, qt]; grind
  have h2 : sq (bk z (qt 3 z)) = 0 := by simp only [sq, bk, qt]; grind
  have := sq_lo z
  unfold goodB
  rw [h1, h2, decide_eq_true (show 16 * 0 ≤ 4 * sq z by omega), Bool.and_true]
theorem good_other (z : Int × Int) (l : Int) (h : 0 < sq z) : goodB (qt 3 z) z l = false := by
  have h1 : sq (fw (qt 3 z) z) = 0 := by simp only [sq, fw, qt]; grind
  have h2 : sq (bk (qt 3 z) z) = 4 * sq z := by simp only [sq, bk, qt]; grind
  unfold goodB
  rw [h1, h2, decide_eq_false (show ¬ 16 * (4 * sq z) ≤ 0 by omega), Bool.and_false]
theorem good_alone (z : Int × Int) (h : 0 < sq z) : goodB z (0, 0) 0 = false := by
  have h1 : sq (fw z (0, 0)) = sq z := by simp only [sq, fw]; grind
  have h2 : sq (bk z (0, 0)) = sq z := by simp only [sq, bk]; grind
  unfold goodB
  rw [h1, h2, decide_eq_false (show ¬ 16 * sq z ≤ sq z by omega), Bool.and_false]
theorem pow_self (z : Int × Int) : sq (fw z (qt 3 z)) = 4 * sq z ∧ sq (bk z (qt 3 z)) = 0 := by
  refine ⟨?_, ?_⟩
  · simp only [sq, fw, qt]; grind
  · simp only [sq, bk, qt]; grind
theorem c00 : CV 0 0 (0, 0) := ⟨nought, nought⟩
theorem l00 : LimZ (0, 0) 100000 := ⟨⟨by decide, by decide⟩, ⟨by decide, by decide⟩⟩
theorem l100 : Lim 0 100000 := ⟨by decide, by decide⟩
theorem sq_pos (r i : Int) (h : ¬ (r = 0 ∧ i = 0)) : 0 < sq (r, i) := by
  have h1 := sq_nonneg r
  have h2 := sq_nonneg i
  have e : sq (r, i) = r * r + i * i := rfl
  rcases Int.lt_or_eq_of_le h1 with h3 | h3
  · rw [e]; omega
  · rcases Int.lt_or_eq_of_le h2 with h4 | h4
    · rw [e]; omega
    · exfalso
      apply h
      rcases Int.mul_eq_zero.mp h3.symm with h5 | h5 <;> rcases Int.mul_eq_zero.mp h4.symm with h6 | h6 <;> exact ⟨h5, h6⟩
set_option maxHeartbeats 4000000 in
set_option maxRecDepth 100000 in
theorem pgood_calls (a b least q : Int) (w : World) (_ : (Lit.int .i64 a).wf = true) (_ : (Lit.int .i64 b).wf = true) (_ : (Lit.int .i64 least).wf = true) (_ : (Lit.int .i64 q).wf = true) :
    Calls Try.prog 13 #[.int .i64 a, .int .i64 b, .int .i64 least, .int .i64 q] w fun e w' => e = .returned (.bool true) ∧ Below w.heap.size w w' := by
  obtain ⟨A, hA⟩ : ∃ n, Int.tmod a 15001 = n := ⟨_, rfl⟩
  obtain ⟨B, hB⟩ : ∃ n, Int.tmod b 15001 = n := ⟨_, rfl⟩
  obtain ⟨M, hM⟩ : ∃ n, Int.tmod least 30001 = n := ⟨_, rfl⟩
  have hA1 : A < 15001 := hA ▸ Int.tmod_lt_of_pos a (by decide)
  have hA2 : -15001 < A := hA ▸ Int.lt_tmod_of_pos a (by decide)
  have hB1 : B < 15001 := hB ▸ Int.tmod_lt_of_pos b (by decide)
  have hB2 : -15001 < B := hB ▸ Int.lt_tmod_of_pos b (by decide)
  have hM1 : M < 30001 := hM ▸ Int.tmod_lt_of_pos least (by decide)
  have hM2 : -30001 < M := hM ▸ Int.lt_tmod_of_pos least (by decide)
  obtain ⟨L, hL⟩ : ∃ n, (M + 30001) % 30001 = n := ⟨_, rfl⟩
  have hL1 : 0 ≤ L := by omega
  have hL2 : L ≤ 30000 := by omega
  obtain ⟨R, hR⟩ : ∃ n, (if A = 0 ∧ B = 0 then 1 else A) = n := ⟨_, rfl⟩
  have hR1 : R < 15001 := by rw [← hR]; split <;> omega
  have hR2 : -15001 < R := by rw [← hR]; split <;> omega
  have hRB : ¬ (R = 0 ∧ B = 0) := by rw [← hR]; split <;> omega
  have SP := Aside0.mk (sq_pos R B hRB)
  have LR : Aside0 (Lim R 15000) := ⟨⟨by omega, by omega⟩⟩
  have LB : Aside0 (Lim B 15000) := ⟨⟨by omega, by omega⟩⟩
  have LL : Aside0 (Lim L 30000) := ⟨⟨by omega, by omega⟩⟩
  clear hRB
  have HR := Aside0.mk hR
  clear hR
  have hLL := Aside0.mk hL
  clear hL
  go_enter Try.func13, Try.ntmps13
  go_wp2_with fail
  with_reducible refine (first_c _).mono ?_
  rintro e w1 ⟨rfl, rfl⟩
  go_upto_region 6 with (fail)
  go_cut [29] (fun v29 wc => v29 = .bool (decide (A = 0 ∧ B = 0)) ∧ Aside0 (w = wc))
  case first =>
    by_cases hz : A = 0
    · subst hz
      by_cases hb : B = 0
      · subst hb
        go_wp2_with fail
        go_meet
        case rel => exact ⟨by simp, ⟨rfl⟩⟩
      · have hb1 : (B == 0) = false := beq_eq_false_iff_ne.mpr hb
        go_wp2_with fail
        go_meet
        case rel => exact ⟨by simp [hb], ⟨rfl⟩⟩
    · have hz1 : (A == 0) = false := beq_eq_false_iff_ne.mpr hz
      go_wp2_with fail
      go_meet
      case rel => exact ⟨by simp [hz], ⟨rfl⟩⟩
  case rest =>
    obtain ⟨rfl, hw⟩ := hcut
    obtain rfl := hw.out
    clear hw
    go_upto_if 29 with (fail)
    go_cut [0] (fun v0 wc => v0 = .int .i64 R ∧ Aside0 (w = wc))
    case first =>
      by_cases hz : A = 0 ∧ B = 0
      · have h1 : R = 1 := by rw [← HR.out, if_pos hz]
        have hd : decide (A = 0 ∧ B = 0) = true := decide_eq_true hz
        rw [hd]
        have H1 := Aside0.mk h1
        clear h1 hd
        go_wp2_with fail
        go_meet
        case rel => exact ⟨by rw [H1.out], ⟨rfl⟩⟩
      · have h1 : R = A := by rw [← HR.out, if_neg hz]
        have hd : decide (A = 0 ∧ B = 0) = false := decide_eq_false hz
        rw [hd]
        have H1 := Aside0.mk h1
        clear h1 hd
        go_wp2_with fail
        go_meet
        case rel => exact ⟨by rw [H1.out], ⟨rfl⟩⟩
    case rest =>
      obtain ⟨rfl, hw⟩ := hcut
      obtain rfl := hw.out
      clear hw
      have hLL2 := hLL.out
      go_wp2_with fail
      with_reducible refine (coilz_c R B _ (LR.out.mono (by decide)) (LB.out.mono (by decide))).mono ?_
      rintro e w1 ⟨⟨x1, x2, rfl, f⟩, rfl⟩
      have FX := Aside0.mk f
      clear f
      go_wp2_with fail
      with_reducible refine (turnz_c (-1) x1 x2 (R, B) _ FX.out).mono ?_
      rintro e w1 ⟨⟨y1, y2, rfl, f⟩, rfl⟩
      have FY : Aside0 (CV y1 y2 (qt 3 (R, B))) := ⟨f⟩
      clear f
      have LX : Aside0 (LimZ (R, B) 15000) := ⟨⟨LR.out, LB.out⟩⟩
      have LY : Aside0 (LimZ (qt 3 (R, B)) 15000) := ⟨qt_limz _ _ _ LX.out⟩
      have b1 : R * R ≤ 225000000 := (LR.out.mul LR.out).2
      have b2 : B * B ≤ 225000000 := (LB.out.mul LB.out).2
      have b3 := sq_nonneg R
      have b4 := sq_nonneg B
      have b5 : L * L ≤ 900000000 := (LL.out.mul LL.out).2
      have b6 := sq_nonneg L
      go_wp2_with fail
      have s1 : R * R + B * B = sq (R, B) := rfl
      have S1 := Aside0.mk s1
      clear s1
      (with_reducible refine (good_c x1 x2 y1 y2 _ _ L _ FX.out FY.out (LX.out.mono (by decide)) (LY.out.mono (by decide)) (LL.out.mono (by decide))).mono ?_)
      rintro e w1 ⟨rfl, rfl⟩
      rw [good_self]
      go_wp2_with fail
      (with_reducible refine (good_c y1 y2 x1 x2 _ _ L _ FY.out FX.out (LY.out.mono (by decide)) (LX.out.mono (by decide)) (LL.out.mono (by decide))).mono ?_)
      rintro e w1 ⟨rfl, rfl⟩
      rw [good_other _ _ SP.out]
      go_wp2_with fail
      (with_reducible refine (good_c x1 x2 0 0 _ _ 0 _ FX.out c00 (LX.out.mono (by decide)) l00 l100).mono ?_)
      rintro e w1 ⟨rfl, rfl⟩
      rw [good_alone _ SP.out]
      go_wp2_with fail
      (with_reducible refine (turnz_c _ x1 x2 (R, B) _ FX.out).mono ?_)
      rintro e w1 ⟨⟨t1, t2, rfl, f⟩, rfl⟩
      have FT := Aside0.mk f
      clear f
      go_wp2_with fail
      (with_reducible refine (forward_c x1 x2 y1 y2 _ _ _ FX.out FY.out (LX.out.mono (by decide)) (LY.out.mono (by decide))).mono ?_)
      rintro e w1 ⟨⟨f1, f2, rfl, f⟩, rfl⟩
      have FF := Aside0.mk f
      clear f
      have LF := Aside0.mk (fw_lim (R, B) (qt 3 (R, B)) (LX.out.mono (by decide)) (LY.out.mono (by decide)))
      have LG := Aside0.mk (bk_lim (R, B) (qt 3 (R, B)) (LX.out.mono (by decide)) (LY.out.mono (by decide)))
      go_wp2_with fail
      (with_reducible refine (pow_c f1 f2 _ _ FF.out LF.out).mono ?_)
      rintro e w1 ⟨rfl, rfl⟩
      rw [(pow_self _).1, ← S1.out]
      go_wp2_with fail
      (with_reducible refine (back_c x1 x2 y1 y2 _ _ _ FX.out FY.out (LX.out.mono (by decide)) (LY.out.mono (by decide))).mono ?_)
      rintro e w1 ⟨⟨g1, g2, rfl, f⟩, rfl⟩
      have FG := Aside0.mk f
      clear f
      go_wp2_with fail
      (with_reducible refine (pow_c g1 g2 _ _ FG.out LG.out).mono ?_)
      rintro e w1 ⟨rfl, rfl⟩
      rw [(pow_self _).2]
      go_wp2_with fail
      (with_reducible refine (pow_c t1 t2 _ _ FT.out ((qt_limz _ _ _ LX.out).mono (by decide))).mono ?_)
      rintro e w1 ⟨rfl, rfl⟩
      rw [sq_qt, ← S1.out]
      go_wp2_with fail
      (with_reducible refine (good_c 0 0 0 0 _ _ 0 _ c00 c00 l00 l00 l100).mono ?_)
      rintro e w1 ⟨rfl, rfl⟩
      go_wp2_with fail
      go_ret
      exact ⟨by first | rfl | decide, Below.refl _ _⟩
end Go.Proofs.Ytdpdakecglpafaa.Pha
