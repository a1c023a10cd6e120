/- Of any coils, what turns forward, what turns back, how strong each is, whether they are good, are what the document says: the walk through the law's Go text, for all arguments. -/
import Derived.Test.YtdpdakecglpafaaPhaWords
import Derived.Deep.RegionHeld3
namespace Go.Proofs.Ytdpdakecglpafaa.Pha
open Go Go.RowKit Go.Proofs.YtdpdakecglpafaaW.PrintWords Go.Proofs.YtdpdakecglpafaaW.PrintLast Go.Proofs.YtdpdakecglpafaaW.PrintMore Go.Proofs.Ytdpdakecglpafaa.Fl
set_option linter.unusedVariables false
set_option linter.unusedSimpArgs false
theorem as_c (x1 x2 : Nat) (m n : Int) (w : World) (h : CV x1 x2 (m, n)) (hm : Lim m 200000) (hn : Lim n 200000) :
    Calls Try.prog 34 #[.complex .f64 x1 x2, .agg #[.int .i64 m, .int .i64 n]] w fun e w' => e = .returned (.bool true) ∧ Below w.heap.size w w' := by
  have o1 := ord_eq h.fst (int_fv m (hm.abs (by decide)))
  have o2 := ord_eq h.snd (int_fv n (hn.abs (by decide)))
  clear h hm hn
  have hu := Try.underlying54
  go_enter Try.func34, Try.ntmps34
  go_wp2
  go_ret
  exact ⟨rfl, (Below.refl _ _).alloc (Nat.le_refl _) _⟩
theorem w64 (n : Int) (h : Lim n 1000000000000000) : wrap64 n = n := by obtain ⟨h1, h2⟩ := h; unfold wrap64; omega
theorem rfw_c (m n p q : Int) (w : World) (hm : Lim m 100000) (hn : Lim n 100000) (hp : Lim p 100000) (hq : Lim q 100000) :
    Calls Try.prog 35 #[.agg #[.int .i64 m, .int .i64 n], .agg #[.int .i64 p, .int .i64 q]] w fun e w' => e = .returned (.agg #[.int .i64 (m - q), .int .i64 (n + p)]) ∧ Below w.heap.size w w' :=
  PPhasorSays.dynamoref1_Forward.calls m n p q _ _ w (by unfold PPhasorSays.dynamoref1_Forward.f; rw [w64 _ ((hm.sub hq).mono (by decide)), w64 _ ((hn.add hp).mono (by decide))])
theorem rbk_c (m n p q : Int) (w : World) (hm : Lim m 100000) (hn : Lim n 100000) (hp : Lim p 100000) (hq : Lim q 100000) :
    Calls Try.prog 36 #[.agg #[.int .i64 m, .int .i64 n], .agg #[.int .i64 p, .int .i64 q]] w fun e w' => e = .returned (.agg #[.int .i64 (m + q), .int .i64 (n - p)]) ∧ Below w.heap.size w w' :=
  PPhasorSays.dynamoref1_Back2.calls m n p q _ _ w (by unfold PPhasorSays.dynamoref1_Back2.f; rw [w64 _ ((hm.add hq).mono (by decide)), w64 _ ((hn.sub hp).mono (by decide))])
theorem rpow_f (m n : Int) (hm : Lim m 200000) (hn : Lim n 200000) : PPhasorSays.dynamoref1_Power.f m n = some (sq (m, n)) := by
  unfold PPhasorSays.dynamoref1_Power.f
  rw [w64 _ ((hm.mul hm).mono (by decide)), w64 _ ((hn.mul hn).mono (by decide)), w64 _ (((hm.mul hm).add (hn.mul hn)).mono (by decide))]
  rfl
theorem rpow_c (m n : Int) (w : World) (hm : Lim m 200000) (hn : Lim n 200000) :
    Calls Try.prog 38 #[.agg #[.int .i64 m, .int .i64 n]] w fun e w' => e = .returned (.int .i64 (sq (m, n))) ∧ Below w.heap.size w w' :=
  PPhasorSays.dynamoref1_Power.calls m n _ w (rpow_f m n hm hn)
theorem rgood_c (m n p q l : Int) (w : World) (hm : Lim m 100000) (hn : Lim n 100000) (hp : Lim p 100000) (hq : Lim q 100000) (hl : Lim l 100000) :
    Calls Try.prog 40 #[.agg #[.int .i64 m, .int .i64 n], .agg #[.int .i64 p, .int .i64 q], .int .i64 l] w fun e w' => e = .returned (.bool (goodB (m, n) (p, q) l)) ∧ Below w.heap.size w w' :=
  PPhasorSays.dynamoref1_GoodCoils.calls m n p q l _ w (by
    have h1 : PPhasorSays.dynamoref1_Forward.f m n p q = some (m - q, n + p) := by unfold PPhasorSays.dynamoref1_Forward.f; rw [w64 _ ((hm.sub hq).mono (by decide)), w64 _ ((hn.add hp).mono (by decide))]
    have h2 : PPhasorSays.dynamoref1_Back2.f m n p q = some (m + q, n - p) := by unfold PPhasorSays.dynamoref1_Back2.f; rw [w64 _ ((hm.add hq).mono (by decide)), w64 _ ((hn.sub hp).mono (by decide))]
    have h3 := rpow_f (m - q) (n + p) ((hm.sub hq).mono (by decide)) ((hn.add hp).mono (by decide))
    have h4 := rpow_f (m + q) (n - p) ((hm.add hq).mono (by decide)) ((hn.sub hp).mono (by decide))
    have h5 : wrap64 (l * l) = l * l := w64 _ ((hl.mul hl).mono (by decide))
    have q16 : Lim 16 16 := ⟨by decide, by decide⟩
    have lb : LimZ (m + q, n - p) 200000 := ⟨(hm.add hq).mono (by decide), (hn.sub hp).mono (by decide)⟩
    have h6 : wrap64 (16 * sq (m + q, n - p)) = 16 * sq (m + q, n - p) := w64 _ (by
      have a1 := sq_lo (m + q, n - p)
      have a2 := sq_hi _ _ lb
      exact ⟨by omega, by omega⟩)
    unfold PPhasorSays.dynamoref1_GoodCoils.f
    rw [h1]
    simp only [Option.bind_some]
    rw [h3]
    simp only [Option.bind_some]
    rw [h5]
    have e1 : sq (m - q, n + p) = sq (fw (m, n) (p, q)) := rfl
    have e2 : sq (m + q, n - p) = sq (bk (m, n) (p, q)) := rfl
    unfold goodB
    rw [← e1, ← e2]
    by_cases hc : l * l ≤ sq (m - q, n + p)
    · rw [if_pos hc, h2]
      simp only [Option.bind_some]
      rw [h4]
      simp only [Option.bind_some]
      rw [h6, decide_eq_true hc, Bool.true_and]
    · rw [if_neg hc, decide_eq_false hc, Bool.false_and])
/-- The two structs of the call's own hold their numbers, and nothing that was there has changed. -/
def Four (w W : World) (g g' : Nat) (A B C D : Int) : Prop := W.cell? ⟨g, 0, none⟩ = some (.int .i64 A) ∧ W.cell? ⟨g, 1, none⟩ = some (.int .i64 B) ∧ W.cell? ⟨g', 0, none⟩ = some (.int .i64 C) ∧ W.cell? ⟨g', 1, none⟩ = some (.int .i64 D) ∧ Below w.heap.size w W
theorem Four.step {w W W1 : World} {g g' : Nat} {A B C D : Int} (h : Four w W g g' A B C D) (hb : Below W.heap.size W W1) : Four w W1 g g' A B C D := by
  obtain ⟨h1, h2, h3, h4, h5⟩ := h
  exact ⟨(hb.cell (World.block_lt_of_cell? _ _ h1)).trans h1, (hb.cell (World.block_lt_of_cell? _ _ h2)).trans h2, (hb.cell (World.block_lt_of_cell? _ _ h3)).trans h3, (hb.cell (World.block_lt_of_cell? _ _ h4)).trans h4, below_step h5 hb⟩
set_option maxHeartbeats 4000000 in
set_option maxRecDepth 100000 in
theorem psays_calls (a b c d least : Int) (w : World) (_ : (Lit.int .i64 a).wf = true) (_ : (Lit.int .i64 b).wf = true) (_ : (Lit.int .i64 c).wf = true) (_ : (Lit.int .i64 d).wf = true) (_ : (Lit.int .i64 least).wf = true) :
    Calls Try.prog 11 #[.int .i64 a, .int .i64 b, .int .i64 c, .int .i64 d, .int .i64 least] w fun e w' => e = .returned (.bool true) ∧ Below w.heap.size w w' := by
  obtain ⟨A, hA⟩ : ∃ n, Int.tmod a 30001 = n := ⟨_, rfl⟩
  obtain ⟨B, hB⟩ : ∃ n, Int.tmod b 30001 = n := ⟨_, rfl⟩
  obtain ⟨C, hC⟩ : ∃ n, Int.tmod c 30001 = n := ⟨_, rfl⟩
  obtain ⟨D, hD⟩ : ∃ n, Int.tmod d 30001 = n := ⟨_, rfl⟩
  obtain ⟨L, hL⟩ : ∃ n, Int.tmod least 30001 = n := ⟨_, rfl⟩
  have LA := Aside0.mk (hA ▸ cut_lim a)
  have LB := Aside0.mk (hB ▸ cut_lim b)
  have LC := Aside0.mk (hC ▸ cut_lim c)
  have LD := Aside0.mk (hD ▸ cut_lim d)
  have LL := Aside0.mk (hL ▸ cut_lim least)
  have HA := Aside0.mk hA
  have HB := Aside0.mk hB
  have HC := Aside0.mk hC
  have HD := Aside0.mk hD
  have HL := Aside0.mk hL
  clear hA hB hC hD hL
  go_enter Try.func11, Try.ntmps11
  go_wp2_with fail
  with_reducible refine (first_c _).mono ?_
  rintro e w1 ⟨rfl, rfl⟩
  go_wp2_with fail
  with_reducible refine (cut_c a _).mono ?_
  rintro e w1 ⟨rfl, rfl⟩
  rw [HA.out]
  go_wp2_with fail
  with_reducible refine (cut_c b _).mono ?_
  rintro e w1 ⟨rfl, rfl⟩
  rw [HB.out]
  go_wp2_with fail
  with_reducible refine (cut_c c _).mono ?_
  rintro e w1 ⟨rfl, rfl⟩
  rw [HC.out]
  go_wp2_with fail
  with_reducible refine (cut_c d _).mono ?_
  rintro e w1 ⟨rfl, rfl⟩
  rw [HD.out]
  go_wp2_with fail
  with_reducible refine (cut_c least _).mono ?_
  rintro e w1 ⟨rfl, rfl⟩
  rw [HL.out]
  have hl1 := LL.out.1
  have hl2 := LL.out.2
  obtain ⟨M, hM⟩ : ∃ n, (if L < 0 then -L else L) = n := ⟨_, rfl⟩
  have LM : Aside0 (Lim M 30000) := ⟨by rw [← hM]; split <;> exact ⟨by omega, by omega⟩⟩
  have HM := Aside0.mk hM
  clear hM
  go_upto_if 32 with (fail)
  go_cut [4] (fun v4 wc => v4 = .int .i64 M ∧ Aside0 (w = wc))
  case first =>
    by_cases hneg : L < 0
    · have h1 : M = -L := by rw [← HM.out, if_pos hneg]
      have H1 := Aside0.mk h1
      clear h1
      go_wp2_with fail
      go_meet
      case rel => exact ⟨by rw [H1.out], ⟨rfl⟩⟩
    · have h1 : M = L := by rw [← HM.out, if_neg hneg]
      have H1 := Aside0.mk h1
      clear h1
      go_wp2_with fail
      go_meet
      case rel => exact ⟨by rw [H1.out], ⟨rfl⟩⟩
  case rest =>
    obtain ⟨rfl, hw⟩ := hcut
    obtain rfl := hw.out
    clear hw hl1 hl2
    go_wp2_with fail
    with_reducible refine (coilz_c A B _ (LA.out.mono (by decide)) (LB.out.mono (by decide))).mono ?_
    rintro e w1 ⟨⟨x1, x2, rfl, f⟩, rfl⟩
    have FX := Aside0.mk f
    clear f
    go_wp2_with fail
    with_reducible refine (coilz_c C D _ (LC.out.mono (by decide)) (LD.out.mono (by decide))).mono ?_
    rintro e w1 ⟨⟨y1, y2, rfl, f⟩, rfl⟩
    have FY := Aside0.mk f
    clear f
    have LX : Aside0 (LimZ (A, B) 30000) := ⟨⟨LA.out, LB.out⟩⟩
    have LY : Aside0 (LimZ (C, D) 30000) := ⟨⟨LC.out, LD.out⟩⟩
    have LF : Aside0 (LimZ (A - D, B + C) 200000) := Aside0.mk (fw_lim (A, B) (C, D) (LX.out.mono (by decide)) (LY.out.mono (by decide)))
    have LG : Aside0 (LimZ (A + D, B - C) 200000) := Aside0.mk (bk_lim (A, B) (C, D) (LX.out.mono (by decide)) (LY.out.mono (by decide)))
    go_wp2_with fail
    (with_reducible refine (forward_c x1 x2 y1 y2 _ _ _ FX.out FY.out (LX.out.mono (by decide)) (LY.out.mono (by decide))).mono ?_)
    rintro e w1 ⟨⟨f1, f2, rfl, f⟩, rfl⟩
    have FF : Aside0 (CV f1 f2 (A - D, B + C)) := ⟨f⟩
    clear f
    go_wp2_with fail
    (with_reducible refine (back_c x1 x2 y1 y2 _ _ _ FX.out FY.out (LX.out.mono (by decide)) (LY.out.mono (by decide))).mono ?_)
    rintro e w1 ⟨⟨g1, g2, rfl, f⟩, rfl⟩
    have FG : Aside0 (CV g1 g2 (A + D, B - C)) := ⟨f⟩
    clear f
    go_wp2_with fail
    have b0 : Below w.heap.size w ((w.alloc (Obj.cells #[Value.int IntKind.i64 A, Value.int IntKind.i64 B] 54)).alloc (Obj.cells #[Value.int IntKind.i64 C, Value.int IntKind.i64 D] 54)).drew := below_drew (below_alloc (below_alloc (Below.refl _ _) _) _)
    have s0 : sq (A, B) = A * A + B * B := rfl
    have S0 := Aside0.mk s0
    clear s0
    have b1 : A * A ≤ 900000000 := (LA.out.mul LA.out).2
    have b2 : B * B ≤ 900000000 := (LB.out.mul LB.out).2
    have b3 := sq_nonneg A
    have b4 := sq_nonneg B
    have k1 : IntKind.i64.wrap (A * A) = A * A := by rw [i64_w]; unfold wrap64; omega
    have k2 : IntKind.i64.wrap (B * B) = B * B := by rw [i64_w]; unfold wrap64; omega
    have k3 : IntKind.i64.wrap (A * A + B * B) = A * A + B * B := by rw [i64_w]; unfold wrap64; omega
    clear b1 b2 b3 b4
    go_region_held3 (fun w' => w'.cell? ⟨w.heap.size, 0, none⟩ = some (.int .i64 A) ∧ w'.cell? ⟨w.heap.size, 1, none⟩ = some (.int .i64 B) ∧ w'.cell? ⟨w.heap.size + 1, 0, none⟩ = some (.int .i64 C) ∧ w'.cell? ⟨w.heap.size + 1, 1, none⟩ = some (.int .i64 D) ∧ Below w.heap.size w w')
      (first | assumption | exact ⟨by assumption, by assumption, by assumption, by assumption, by assumption⟩ | (refine ⟨?_, ?_, ?_, ?_, b0⟩ <;> go_keep))
      (first
        | (go_at_call 34; (with_reducible refine (as_c x1 x2 A B _ FX.out (LA.out.mono (by decide)) (LB.out.mono (by decide))).mono ?_); rintro e w1 ⟨rfl, hb⟩; have F5 := Four.step (w := w) (g := w.heap.size) (g' := w.heap.size + 1) (A := A) (B := B) (C := C) (D := D) (by unfold Four; assumption) hb; obtain ⟨c1, c2, c3, c4, c5⟩ := F5; clear hb)
        | (go_at_call 34; (with_reducible refine (as_c f1 f2 (A - D) (B + C) _ FF.out LF.out.fst LF.out.snd).mono ?_); rintro e w1 ⟨rfl, hb⟩; have F5 := Four.step (w := w) (g := w.heap.size) (g' := w.heap.size + 1) (A := A) (B := B) (C := C) (D := D) (by unfold Four; assumption) hb; obtain ⟨c1, c2, c3, c4, c5⟩ := F5; clear hb)
        | (go_at_call 34; (with_reducible refine (as_c g1 g2 (A + D) (B - C) _ FG.out LG.out.fst LG.out.snd).mono ?_); rintro e w1 ⟨rfl, hb⟩; have F5 := Four.step (w := w) (g := w.heap.size) (g' := w.heap.size + 1) (A := A) (B := B) (C := C) (D := D) (by unfold Four; assumption) hb; obtain ⟨c1, c2, c3, c4, c5⟩ := F5; clear hb)
        | (go_at_call 35; (with_reducible refine (rfw_c A B C D _ (LA.out.mono (by decide)) (LB.out.mono (by decide)) (LC.out.mono (by decide)) (LD.out.mono (by decide))).mono ?_); rintro e w1 ⟨rfl, hb⟩; have F5 := Four.step (w := w) (g := w.heap.size) (g' := w.heap.size + 1) (A := A) (B := B) (C := C) (D := D) (by unfold Four; assumption) hb; obtain ⟨c1, c2, c3, c4, c5⟩ := F5; clear hb)
        | (go_at_call 36; (with_reducible refine (rbk_c A B C D _ (LA.out.mono (by decide)) (LB.out.mono (by decide)) (LC.out.mono (by decide)) (LD.out.mono (by decide))).mono ?_); rintro e w1 ⟨rfl, hb⟩; have F5 := Four.step (w := w) (g := w.heap.size) (g' := w.heap.size + 1) (A := A) (B := B) (C := C) (D := D) (by unfold Four; assumption) hb; obtain ⟨c1, c2, c3, c4, c5⟩ := F5; clear hb)
        | (go_at_call 37; (with_reducible refine (pow_c f1 f2 (A - D, B + C) _ FF.out LF.out).mono ?_); rintro e w1 ⟨rfl, rfl⟩)
        | (go_at_call 37; (with_reducible refine (pow_c g1 g2 (A + D, B - C) _ FG.out LG.out).mono ?_); rintro e w1 ⟨rfl, rfl⟩)
        | (go_at_call 37; (with_reducible refine (pow_c x1 x2 (A, B) _ FX.out (LX.out.mono (by decide))).mono ?_); rintro e w1 ⟨rfl, rfl⟩; rw [S0.out])
        | (go_at_call 38; (with_reducible refine (rpow_c (A - D) (B + C) _ LF.out.fst LF.out.snd).mono ?_); rintro e w1 ⟨rfl, hb⟩; have F5 := Four.step (w := w) (g := w.heap.size) (g' := w.heap.size + 1) (A := A) (B := B) (C := C) (D := D) (by unfold Four; assumption) hb; obtain ⟨c1, c2, c3, c4, c5⟩ := F5; clear hb)
        | (go_at_call 38; (with_reducible refine (rpow_c (A + D) (B - C) _ LG.out.fst LG.out.snd).mono ?_); rintro e w1 ⟨rfl, hb⟩; have F5 := Four.step (w := w) (g := w.heap.size) (g' := w.heap.size + 1) (A := A) (B := B) (C := C) (D := D) (by unfold Four; assumption) hb; obtain ⟨c1, c2, c3, c4, c5⟩ := F5; clear hb)
        | (go_at_call 39; (with_reducible refine (good_c x1 x2 y1 y2 (A, B) (C, D) M _ FX.out FY.out (LX.out.mono (by decide)) (LY.out.mono (by decide)) (LM.out.mono (by decide))).mono ?_); rintro e w1 ⟨rfl, rfl⟩)
        | (go_at_call 40; (with_reducible refine (rgood_c A B C D M _ (LA.out.mono (by decide)) (LB.out.mono (by decide)) (LC.out.mono (by decide)) (LD.out.mono (by decide)) (LM.out.mono (by decide))).mono ?_); rintro e w1 ⟨rfl, hb⟩; have F5 := Four.step (w := w) (g := w.heap.size) (g' := w.heap.size + 1) (A := A) (B := B) (C := C) (D := D) (by unfold Four; assumption) hb; obtain ⟨c1, c2, c3, c4, c5⟩ := F5; clear hb))
    all_goals
      go_wp2_with fail
      go_ret
      exact ⟨rfl, by assumption⟩
end Go.Proofs.Ytdpdakecglpafaa.Pha
