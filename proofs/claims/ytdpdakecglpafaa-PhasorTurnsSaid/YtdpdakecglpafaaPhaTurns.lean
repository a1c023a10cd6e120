/- Turned by quarters coils are as strong as they were, what is good is good however it stands, exchanged coils turn the other way: the walk through the law's Go text, for all arguments. -/
import Derived.Test.YtdpdakecglpafaaPhaWords
namespace Go.Proofs.Ytdpdakecglpafaa.Pha
open Go Go.RowKit Go.Proofs.YtdpdakecglpafaaW.PrintWords Go.Proofs.YtdpdakecglpafaaW.PrintLast Go.Proofs.YtdpdakecglpafaaW.PrintMore Go.Proofs.Ytdpdakecglpafaa.Fl
set_option linter.unusedVariables false
set_option linter.unusedSimpArgs false
set_option maxHeartbeats 4000000 in
set_option maxRecDepth 100000 in
theorem turns_calls (a b c d least q : Int) (w : World) (_ : (Lit.int .i64 a).wf = true) (_ : (Lit.int .i64 b).wf = true) (_ : (Lit.int .i64 c).wf = true) (_ : (Lit.int .i64 d).wf = true) (_ : (Lit.int .i64 least).wf = true) (_ : (Lit.int .i64 q).wf = true) :
    Calls Try.prog 12 #[.int .i64 a, .int .i64 b, .int .i64 c, .int .i64 d, .int .i64 least, .int .i64 q] w fun e w' => e = .returned (.bool true) ∧ Below w.heap.size w w' := by
  obtain ⟨A, hA⟩ : ∃ n, Int.tmod a 30001 = n := ⟨_, rfl⟩
  obtain ⟨B, hB⟩ : ∃ n, Int.tmod b 30001 = n := ⟨_, rfl⟩
  obtain ⟨C, hC⟩ : ∃ n, Int.tmod c 30001 = n := ⟨_, rfl⟩
  obtain ⟨D, hD⟩ : ∃ n, Int.tmod d 30001 = n := ⟨_, rfl⟩
  obtain ⟨L, hL⟩ : ∃ n, Int.tmod least 30001 = n := ⟨_, rfl⟩
  obtain ⟨Q, hQ⟩ : ∃ n, Int.tmod q 9 = n := ⟨_, rfl⟩
  have LA := Aside0.mk (hA ▸ cut_lim a)
  have LB := Aside0.mk (hB ▸ cut_lim b)
  have LC := Aside0.mk (hC ▸ cut_lim c)
  have LD := Aside0.mk (hD ▸ cut_lim d)
  have LL := Aside0.mk (hL ▸ cut_lim least)
  have hQ1 : Q < 9 := hQ ▸ Int.tmod_lt_of_pos q (by decide)
  have hQ2 : -9 < Q := hQ ▸ Int.lt_tmod_of_pos q (by decide)
  have HA := Aside0.mk hA
  have HB := Aside0.mk hB
  have HC := Aside0.mk hC
  have HD := Aside0.mk hD
  have HL := Aside0.mk hL
  clear hA hB hC hD hL
  go_enter Try.func12, Try.ntmps12
  go_wp2_with fail
  with_reducible refine (first_c _).mono ?_
  rintro e w1 ⟨rfl, rfl⟩
  go_wp2_with fail
  with_reducible refine (cut_c a _).mono ?_
  rintro e w1 ⟨rfl, rfl⟩
  rw [HA.out]
  go_wp2_with fail
  with_reducible refine (cut_c b _).mono ?_
  rintro e w1 ⟨rfl, rfl⟩
  rw [HB.out]
  go_wp2_with fail
  with_reducible refine (coilz_c A B _ (LA.out.mono (by decide)) (LB.out.mono (by decide))).mono ?_
  rintro e w1 ⟨⟨x1, x2, rfl, f⟩, rfl⟩
  have FX := Aside0.mk f
  clear f
  go_wp2_with fail
  with_reducible refine (cut_c c _).mono ?_
  rintro e w1 ⟨rfl, rfl⟩
  rw [HC.out]
  go_wp2_with fail
  with_reducible refine (cut_c d _).mono ?_
  rintro e w1 ⟨rfl, rfl⟩
  rw [HD.out]
  go_wp2_with fail
  with_reducible refine (coilz_c C D _ (LC.out.mono (by decide)) (LD.out.mono (by decide))).mono ?_
  rintro e w1 ⟨⟨y1, y2, rfl, f⟩, rfl⟩
  have FY := Aside0.mk f
  clear f
  go_wp2_with fail
  with_reducible refine (cut_c least _).mono ?_
  rintro e w1 ⟨rfl, rfl⟩
  rw [HL.out]
  have LX : Aside0 (LimZ (A, B) 30000) := ⟨⟨LA.out, LB.out⟩⟩
  have LY : Aside0 (LimZ (C, D) 30000) := ⟨⟨LC.out, LD.out⟩⟩
  generalize (A, B) = z at FX LX
  generalize (C, D) = t at FY LY
  clear LA LB LC LD HA HB HC HD
  have key : ∀ M : Int, Lim M 30000 → True := fun _ _ => trivial
  have hl1 := LL.out.1
  have hl2 := LL.out.2
  by_cases hneg : L < 0
  all_goals
    go_wp2_with fail
    (with_reducible refine (turnz_c Q x1 x2 z _ FX.out).mono ?_)
    rintro e w1 ⟨⟨u1, u2, rfl, f⟩, rfl⟩
    have FU := Aside0.mk f
    clear f
    go_wp2_with fail
    (with_reducible refine (turnz_c Q y1 y2 t _ FY.out).mono ?_)
    rintro e w1 ⟨⟨v1, v2, rfl, f⟩, rfl⟩
    have FV' := Aside0.mk f
    clear f
    go_wp2_with fail
    (with_reducible refine (forward_c x1 x2 y1 y2 z t _ FX.out FY.out (LX.out.mono (by decide)) (LY.out.mono (by decide))).mono ?_)
    rintro e w1 ⟨⟨f1, f2, rfl, f⟩, rfl⟩
    have FF := Aside0.mk f
    clear f
    go_wp2_with fail
    (with_reducible refine (back_c x1 x2 y1 y2 z t _ FX.out FY.out (LX.out.mono (by decide)) (LY.out.mono (by decide))).mono ?_)
    rintro e w1 ⟨⟨g1, g2, rfl, f⟩, rfl⟩
    have FG := Aside0.mk f
    clear f
    go_wp2_with fail
    (with_reducible refine (forward_c y1 y2 x1 x2 t z _ FY.out FX.out (LY.out.mono (by decide)) (LX.out.mono (by decide))).mono ?_)
    rintro e w1 ⟨⟨s1, s2, rfl, f⟩, rfl⟩
    have FS := Aside0.mk f
    clear f
    have LF := Aside0.mk (fw_lim z t (LX.out.mono (by decide)) (LY.out.mono (by decide)))
    have LG := Aside0.mk (bk_lim z t (LX.out.mono (by decide)) (LY.out.mono (by decide)))
    have LS := Aside0.mk (fw_lim t z (LY.out.mono (by decide)) (LX.out.mono (by decide)))
    go_wp2_with fail
    (with_reducible refine (pow_c s1 s2 (fw t z) _ FS.out LS.out).mono ?_)
    rintro e w1 ⟨rfl, rfl⟩
    rw [exch]
    go_wp2_with fail
    (with_reducible refine (pow_c u1 u2 (qt (rounds4 Q) z) _ FU.out ((qt_limz _ _ _ LX.out).mono (by decide))).mono ?_)
    rintro e w1 ⟨rfl, rfl⟩
    rw [sq_qt]
    go_wp2_with fail
    (with_reducible refine (pow_c x1 x2 z _ FX.out (LX.out.mono (by decide))).mono ?_)
    rintro e w1 ⟨rfl, rfl⟩
    go_wp2_with fail
    (with_reducible refine (turnz_c 4 x1 x2 z _ FX.out).mono ?_)
    rintro e w1 ⟨⟨p1, p2, rfl, f⟩, rfl⟩
    have FP : Aside0 (CV p1 p2 z) := ⟨f⟩
    clear f
    have o1 := ord_eq FP.out.fst FX.out.fst
    have o2 := ord_eq FP.out.snd FX.out.snd
    go_wp2_with fail
    (with_reducible refine (turnz_c Q x1 x2 z _ FX.out).mono ?_)
    rintro e w1 ⟨⟨i1, i2, rfl, f⟩, rfl⟩
    have FI := Aside0.mk f
    clear f
    go_wp2_with fail
    (with_reducible refine (turnz_c (-Q) i1 i2 _ _ FI.out).mono ?_)
    rintro e w1 ⟨⟨j1, j2, rfl, f⟩, rfl⟩
    rw [qt_back] at f
    have FJ := Aside0.mk f
    clear f
    have o3 := ord_eq FJ.out.fst FX.out.fst
    have o4 := ord_eq FJ.out.snd FX.out.snd
    go_wp2_with fail
    (with_reducible refine (good_c u1 u2 v1 v2 _ _ _ _ FU.out FV'.out ((qt_limz _ _ _ LX.out).mono (by decide)) ((qt_limz _ _ _ LY.out).mono (by decide)) ?s1).mono ?_)
    case s1 => exact (show Lim _ 30000 from ⟨by omega, by omega⟩).mono (by decide)
    rintro e w1 ⟨rfl, rfl⟩
    rw [good_qt]
    go_wp2_with fail
    (with_reducible refine (good_c x1 x2 y1 y2 z t _ _ FX.out FY.out (LX.out.mono (by decide)) (LY.out.mono (by decide)) ?s1).mono ?_)
    case s1 => exact (show Lim _ 30000 from ⟨by omega, by omega⟩).mono (by decide)
    rintro e w1 ⟨rfl, rfl⟩
    go_wp2_with fail
    (with_reducible refine (pow_c f1 f2 (fw z t) _ FF.out LF.out).mono ?_)
    rintro e w1 ⟨rfl, rfl⟩
    go_wp2_with fail
    (with_reducible refine (pow_c g1 g2 (bk z t) _ FG.out LG.out).mono ?_)
    rintro e w1 ⟨rfl, rfl⟩
    have b1 := sq_lo (fw z t)
    have b2 := sq_hi _ _ LF.out
    have b3 := sq_lo (bk z t)
    have b4 := sq_hi _ _ LG.out
    have b5 := sq_lo z
    have b6 := sq_hi _ _ LX.out
    have b7 := sq_lo t
    have b8 := sq_hi _ _ LY.out
    have S := Aside0.mk (sums z t)
    go_wp2_with fail
    (with_reducible refine (pow_c x1 x2 z _ FX.out (LX.out.mono (by decide))).mono ?_)
    rintro e w1 ⟨rfl, rfl⟩
    go_wp2_with fail
    (with_reducible refine (pow_c y1 y2 t _ FY.out (LY.out.mono (by decide))).mono ?_)
    rintro e w1 ⟨rfl, rfl⟩
    have s3 : (sq (fw z t) + sq (bk z t) == 2 * (sq z + sq t)) = true := beq_iff_eq.mpr S.out
    go_wp2_with fail
    (with_reducible refine (pow_c g1 g2 (bk z t) _ FG.out LG.out).mono ?_)
    rintro e w1 ⟨rfl, rfl⟩
    go_wp2_with fail
    go_ret
    exact ⟨rfl, Below.refl _ _⟩
end Go.Proofs.Ytdpdakecglpafaa.Pha
