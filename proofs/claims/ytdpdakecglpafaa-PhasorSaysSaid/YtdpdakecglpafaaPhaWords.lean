/- The coils of chapter 14 as pairs of whole numbers: what the functions of package phasor do to words of float64 that stand for small whole numbers. -/
import Derived.Test.YtdpdakecglpafaaPPhasorSaysx1
import Derived.Test.YtdpdakecglpafaaFloat
import Derived.WalkLawsBesides
namespace Go.Proofs.Ytdpdakecglpafaa.Pha
open Go Go.RowKit Go.Proofs.YtdpdakecglpafaaW.PrintWords Go.Proofs.YtdpdakecglpafaaW.PrintLast Go.Proofs.YtdpdakecglpafaaW.PrintMore Go.Proofs.Ytdpdakecglpafaa.Fl
set_option linter.unusedVariables false
set_option linter.unusedSimpArgs false
/-- A number's size. -/
def Lim (n B : Int) : Prop := -B ≤ n ∧ n ≤ B
theorem Lim.abs {n B : Int} (h : Lim n B) (hB : B < 9007199254740992) : n.natAbs < B53 := by
  obtain ⟨h1, h2⟩ := h
  show n.natAbs < 9007199254740992
  omega
theorem Lim.neg {n B : Int} (h : Lim n B) : Lim (-n) B := by obtain ⟨h1, h2⟩ := h; exact ⟨by omega, by omega⟩
theorem Lim.add {n m B C : Int} (h : Lim n B) (k : Lim m C) : Lim (n + m) (B + C) := by obtain ⟨h1, h2⟩ := h; obtain ⟨k1, k2⟩ := k; exact ⟨by omega, by omega⟩
theorem Lim.sub {n m B C : Int} (h : Lim n B) (k : Lim m C) : Lim (n - m) (B + C) := by obtain ⟨h1, h2⟩ := h; obtain ⟨k1, k2⟩ := k; exact ⟨by omega, by omega⟩
theorem Lim.mono {n B C : Int} (h : Lim n B) (hB : B ≤ C) : Lim n C := by obtain ⟨h1, h2⟩ := h; exact ⟨by omega, by omega⟩
theorem Lim.mul {n m B C : Int} (h : Lim n B) (k : Lim m C) : Lim (n * m) (B * C) := by
  have h1 : n.natAbs ≤ B.toNat := by obtain ⟨h1, h2⟩ := h; omega
  have k1 : m.natAbs ≤ C.toNat := by obtain ⟨k1, k2⟩ := k; omega
  have h0 : 0 ≤ B := by obtain ⟨h1, h2⟩ := h; omega
  have k0 : 0 ≤ C := by obtain ⟨h1, h2⟩ := k; omega
  have e : (n * m).natAbs ≤ B.toNat * C.toNat := by rw [Int.natAbs_mul]; exact Nat.mul_le_mul h1 k1
  have e2 : ((B.toNat * C.toNat : Nat) : Int) = B * C := by rw [Int.natCast_mul]; congr 1 <;> omega
  generalize B * C = D at e2 ⊢
  generalize n * m = q at e ⊢
  exact ⟨by omega, by omega⟩
theorem sq_nonneg (n : Int) : 0 ≤ n * n := by
  rcases Int.le_total 0 n with h | h
  · exact Int.mul_nonneg h h
  · exact Int.mul_nonneg_of_nonpos_of_nonpos h h
section
variable {x y a b : _}
theorem arith_c (op : BinOp) (x y r : Nat) (h : floatBits op .f64 x y = some r) (w : World) : (Go.binOp op 68 (.float .f64 x) (.float .f64 y)).run Try.prog w = .ok (.float .f64 r) w := run_float_arith w op 68 .f64 x y r h
end
theorem coil_c (m n : Int) (w : World) : Calls Try.prog 31 #[.int .i64 m, .int .i64 n] w fun e w' => e = .returned (.complex .f64 (floatOfInt .f64 m) (floatOfInt .f64 n)) ∧ w = w' := by
  go_enter Try.func31, Try.ntmps31
  go_wp2
  go_ret
  exact ⟨rfl, rfl⟩
theorem square_c (x y : Nat) (a b : Int) (w : World) (hx : FV x a) (hy : FV y b) (ha : Lim a 200000) (hb : Lim b 200000) :
    Calls Try.prog 42 #[.complex .f64 x y] w fun e w' => (∃ r, e = .returned (.float .f64 r) ∧ FV r (a * a + b * b)) ∧ w = w' := by
  have la := ha.mul ha
  have lb := hb.mul hb
  obtain ⟨r1, h1, f1⟩ := mul_fv hx hx (la.abs (by decide))
  obtain ⟨r2, h2, f2⟩ := mul_fv hy hy (lb.abs (by decide))
  obtain ⟨r3, h3, f3⟩ := add_fv f1 f2 ((la.add lb).abs (by decide))
  have k1 := arith_c .mul x x r1 h1
  have k2 := arith_c .mul y y r2 h2
  have k3 := arith_c .add r1 r2 r3 h3
  have F := Aside0.mk f3
  clear h1 h2 h3 f1 f2 f3 la lb ha hb hx hy
  go_enter Try.func42, Try.ntmps42
  go_wp2
  go_ret
  exact ⟨⟨r3, rfl, F.out⟩, rfl⟩
theorem power_c (x y : Nat) (a b : Int) (w : World) (hx : FV x a) (hy : FV y b) (ha : Lim a 200000) (hb : Lim b 200000) :
    Calls Try.prog 37 #[.complex .f64 x y] w fun e w' => e = .returned (.int .i64 (a * a + b * b)) ∧ w = w' := by
  have l := (ha.mul ha).add (hb.mul hb)
  have HX := Aside0.mk hx
  have HY := Aside0.mk hy
  have HA := Aside0.mk ha
  have HB := Aside0.mk hb
  have HL := Aside0.mk l
  clear hx hy ha hb l
  go_enter Try.func37, Try.ntmps37
  go_wp2_with fail
  with_reducible refine (square_c x y a b _ HX.out HY.out HA.out HB.out).mono ?_
  rintro e w1 ⟨⟨r, rfl, f⟩, rfl⟩
  have hv : floatToIntVal .f64 r .i64 = some (a * a + b * b) := by
    have ht : (FloatKind.f64.decode r).toInt .zero = some (a * a + b * b) := toInt_fv f
    obtain ⟨l1, l2⟩ := HL.out
    unfold floatToIntVal
    rw [ht]
    simp only [IntKind.min, IntKind.max, IntKind.bits, IntKind.signed]
    generalize a * a + b * b = q at l1 l2
    rw [if_pos]
    exact ⟨by simp; omega, by simp; omega⟩
  have hk := fun w : World => run_convert_float_int (P := Try.prog) w 68 2 .f64 .i64 r (a * a + b * b) (by kernel_rfl) Try.underlying2 hv
  clear hv f
  go_wp2_with fail
  go_ret
  exact ⟨rfl, rfl⟩
/-- So many quarters round. -/
def qt : Nat → Int × Int → Int × Int
  | 0, z => z
  | k + 1, z => (-(qt k z).2, (qt k z).1)
theorem qt_lim (k : Nat) (z : Int × Int) (B : Int) (h1 : Lim z.1 B) (h2 : Lim z.2 B) : Lim (qt k z).1 B ∧ Lim (qt k z).2 B := by
  induction k with
  | zero => exact ⟨h1, h2⟩
  | succ k ih => exact ⟨ih.2.neg, ih.1⟩
/-- How many rounds a number of quarters is. -/
def rounds4 (q : Int) : Nat := ((Int.tmod q 4 + 4) % 4).toNat
theorem un_neg (k : FloatKind) (b : Nat) : Op.unary .neg (.float k b) = pure (.float k (Op.negFloat k b)) := rfl
attribute [local go_sem] un_neg
set_option maxHeartbeats 1000000 in
theorem turn_of (q c : Int) (r : Nat) (hq : Int.tmod q 4 = c) (hc : -4 < c) (hc2 : c < 4) (hr : (c + 4) % 4 = (r : Int)) (x y : Nat) (z : Int × Int) (w : World) (hx : FV x z.1) (hy : FV y z.2) :
    Calls Try.prog 41 #[.complex .f64 x y, .int .i64 q] w fun e w' => (∃ u v, e = .returned (.complex .f64 u v) ∧ FV u (qt r z).1 ∧ FV v (qt r z).2) ∧ w = w' := by
  have HX := Aside0.mk hx
  have HY := Aside0.mk hy
  have HR := Aside0.mk hr
  clear hx hy
  have hr2 : Int.tmod (c + 4) 4 = (r : Int) := by rw [Int.tmod_eq_emod_of_nonneg (by omega)]; exact hr
  go_enter Try.func41, Try.ntmps41
  go_wp2
  go_loop [0, 9] (fun s i => ∃ (k : Nat) (u v : Nat), k ≤ r ∧ i = .int .i64 k ∧ s = .complex .f64 u v ∧ Aside0 (FV u (qt k z).1 ∧ FV v (qt k z).2)) (fun _ i => r - (intOf i).toNat)
  case atStart => exact ⟨0, x, y, Nat.zero_le _, rfl, rfl, ⟨HX.out, HY.out⟩⟩
  case round =>
    obtain ⟨k, u, v, hk, rfl, rfl, HF⟩ := hrel
    by_cases hlt : k < r
    · have hlt1 : decide ((k : Int) < (r : Int)) = true := decide_eq_true (by omega)
      go_wp2
      go_round
      case rel => exact ⟨k + 1, _, _, by omega, by go_num, rfl, ⟨neg_fv HF.out.2, HF.out.1⟩⟩
      case measure => simp [intOf]; omega
    · obtain rfl : k = r := by omega
      have hlt1 : decide ((k : Int) < (k : Int)) = false := decide_eq_false (by omega)
      go_wp2
      go_ret
      exact ⟨⟨u, v, rfl, HF.out.1, HF.out.2⟩, rfl⟩
theorem turn_c (q : Int) (x y : Nat) (z : Int × Int) (w : World) (hx : FV x z.1) (hy : FV y z.2) :
    Calls Try.prog 41 #[.complex .f64 x y, .int .i64 q] w fun e w' => (∃ u v, e = .returned (.complex .f64 u v) ∧ FV u (qt (rounds4 q) z).1 ∧ FV v (qt (rounds4 q) z).2) ∧ w = w' := by
  have h1 : Int.tmod q 4 < 4 := Int.tmod_lt_of_pos q (by decide)
  have h2 : -4 < Int.tmod q 4 := Int.lt_tmod_of_pos q (by decide)
  exact turn_of q _ (rounds4 q) rfl h2 h1 (by unfold rounds4; omega) x y z w hx hy
theorem add_cplx (a b c d r i : Nat) (h1 : Ieee.double.add a c = some r) (h2 : Ieee.double.add b d = some i) (w : World) : (Go.binOp .add 51 (.complex .f64 a b) (.complex .f64 c d)).run Try.prog w = .ok (.complex .f64 r i) w :=
  run_complex_sum w .add (.inl rfl) 51 .f64 a b c d r i (by
    have k1 : floatBits .add .f64 a c = some r := h1
    have k2 : floatBits .add .f64 b d = some i := h2
    simp [cSumBits, k1, k2])
theorem sub_cplx (a b c d r i : Nat) (h1 : Ieee.double.sub a c = some r) (h2 : Ieee.double.sub b d = some i) (w : World) : (Go.binOp .sub 51 (.complex .f64 a b) (.complex .f64 c d)).run Try.prog w = .ok (.complex .f64 r i) w :=
  run_complex_sum w .sub (.inr rfl) 51 .f64 a b c d r i (by
    have k1 : floatBits .sub .f64 a c = some r := h1
    have k2 : floatBits .sub .f64 b d = some i := h2
    simp [cSumBits, k1, k2])
/-- What turns forward, what turns back: a + ib, a - ib. -/
def fw (z v : Int × Int) : Int × Int := (z.1 - v.2, z.2 + v.1)
def bk (z v : Int × Int) : Int × Int := (z.1 + v.2, z.2 - v.1)
structure LimZ (z : Int × Int) (B : Int) : Prop where mk :: (fst : Lim z.1 B) (snd : Lim z.2 B)
structure CV (x y : Nat) (z : Int × Int) : Prop where mk :: (fst : FV x z.1) (snd : FV y z.2)
theorem forward_c (x y u v : Nat) (z t : Int × Int) (w : World) (h : CV x y z) (k : CV u v t) (lz : LimZ z 100000) (lt : LimZ t 100000) :
    Calls Try.prog 32 #[.complex .f64 x y, .complex .f64 u v] w fun e w' => (∃ r i, e = .returned (.complex .f64 r i) ∧ CV r i (fw z t)) ∧ w = w' := by
  have H := Aside0.mk h
  have K := Aside0.mk k
  have L := Aside0.mk (And.intro lz lt)
  clear h k lz lt
  go_enter Try.func32, Try.ntmps32
  go_wp2_with fail
  with_reducible refine (turn_c 1 u v t _ K.out.fst K.out.snd).mono ?_
  rintro e w1 ⟨⟨u', v', rfl, f1, f2⟩, rfl⟩
  have e1 : rounds4 1 = 1 := by decide
  rw [e1] at f1 f2
  obtain ⟨r, h1, g1⟩ := add_fv H.out.fst f1 ((L.out.1.fst.add L.out.2.snd.neg).abs (by decide))
  obtain ⟨i, h2, g2⟩ := add_fv H.out.snd f2 ((L.out.1.snd.add L.out.2.fst).abs (by decide))
  have k1 := add_cplx x y u' v' r i h1 h2
  have e2 : z.1 + (qt 1 t).1 = (fw z t).1 := by simp only [fw, qt]; omega
  rw [e2] at g1
  have G : Aside0 (CV r i (fw z t)) := ⟨⟨g1, g2⟩⟩
  clear e2
  clear h1 h2 g1 g2 f1 f2 e1
  go_wp2_with fail
  go_ret
  exact ⟨⟨r, i, rfl, G.out⟩, rfl⟩
theorem back_c (x y u v : Nat) (z t : Int × Int) (w : World) (h : CV x y z) (k : CV u v t) (lz : LimZ z 100000) (lt : LimZ t 100000) :
    Calls Try.prog 33 #[.complex .f64 x y, .complex .f64 u v] w fun e w' => (∃ r i, e = .returned (.complex .f64 r i) ∧ CV r i (bk z t)) ∧ w = w' := by
  have H := Aside0.mk h
  have K := Aside0.mk k
  have L := Aside0.mk (And.intro lz lt)
  clear h k lz lt
  go_enter Try.func33, Try.ntmps33
  go_wp2_with fail
  with_reducible refine (turn_c 1 u v t _ K.out.fst K.out.snd).mono ?_
  rintro e w1 ⟨⟨u', v', rfl, f1, f2⟩, rfl⟩
  have e1 : rounds4 1 = 1 := by decide
  rw [e1] at f1 f2
  obtain ⟨r, h1, g1⟩ := sub_fv H.out.fst f1 ((L.out.1.fst.sub L.out.2.snd.neg).abs (by decide))
  obtain ⟨i, h2, g2⟩ := sub_fv H.out.snd f2 ((L.out.1.snd.sub L.out.2.fst).abs (by decide))
  have k1 := sub_cplx x y u' v' r i h1 h2
  have e2 : z.1 - (qt 1 t).1 = (bk z t).1 := by simp only [bk, qt]; omega
  rw [e2] at g1
  have G : Aside0 (CV r i (bk z t)) := ⟨⟨g1, g2⟩⟩
  clear e2
  clear h1 h2 g1 g2 f1 f2 e1
  go_wp2_with fail
  go_ret
  exact ⟨⟨r, i, rfl, G.out⟩, rfl⟩
/-- A length's square. -/
def sq (z : Int × Int) : Int := z.1 * z.1 + z.2 * z.2
theorem fw_lim (z t : Int × Int) (lz : LimZ z 100000) (lt : LimZ t 100000) : LimZ (fw z t) 200000 := ⟨(lz.fst.sub lt.snd).mono (by decide), (lz.snd.add lt.fst).mono (by decide)⟩
theorem bk_lim (z t : Int × Int) (lz : LimZ z 100000) (lt : LimZ t 100000) : LimZ (bk z t) 200000 := ⟨(lz.fst.add lt.snd).mono (by decide), (lz.snd.sub lt.fst).mono (by decide)⟩
def goodB (z t : Int × Int) (least : Int) : Bool := decide (least * least ≤ sq (fw z t)) && decide (16 * sq (bk z t) ≤ sq (fw z t))
theorem dec_ge (a b : Int) : decide (b ≤ a) = (compare a b).isGE := by
  simp only [compare, compareOfLessAndEq]
  by_cases h1 : a < b
  · rw [if_pos h1, decide_eq_false (by omega)]; rfl
  · rw [if_neg h1, decide_eq_true (by omega)]
    by_cases h2 : a = b
    · rw [if_pos h2]; rfl
    · rw [if_neg h2]; rfl
theorem dec_le (a b : Int) : decide (a ≤ b) = (compare a b).isLE := by
  simp only [compare, compareOfLessAndEq]
  by_cases h1 : a < b
  · rw [if_pos h1, decide_eq_true (by omega)]; rfl
  · rw [if_neg h1]
    by_cases h2 : a = b
    · rw [if_pos h2, decide_eq_true (by omega)]; rfl
    · rw [if_neg h2, decide_eq_false (by omega)]; rfl
theorem cmp_eq (a : Int) : compare a a = .eq := by simp [compare, compareOfLessAndEq]
theorem ord_eq {x y : Nat} {a : Int} (hx : FV x a) (hy : FV y a) : FloatKind.f64.format.order x y = some .eq := by
  have h : FloatKind.f64.format.order x y = some (compare a a) := order_fv hx hy
  rw [h, cmp_eq]
theorem bits16 : floatOfInt .f64 16 = 4625196817309499392 := by decide
theorem bits0 : floatOfInt .f64 0 = 0 := by decide
theorem bits2 : floatOfInt .f64 2 = 4611686018427387904 := by decide
theorem sixteen : FV 4625196817309499392 16 := bits16 ▸ int_fv 16 (by decide)
theorem nought : FV 0 0 := bits0 ▸ int_fv 0 (by decide)
theorem two : FV 4611686018427387904 2 := bits2 ▸ int_fv 2 (by decide)
set_option maxHeartbeats 1000000 in
theorem good_c (x y u v : Nat) (z t : Int × Int) (least : Int) (w : World) (h : CV x y z) (k : CV u v t) (lz : LimZ z 100000) (lt : LimZ t 100000) (hl : Lim least 100000) :
    Calls Try.prog 39 #[.complex .f64 x y, .complex .f64 u v, .int .i64 least] w fun e w' => e = .returned (.bool (goodB z t least)) ∧ w = w' := by
  have H := Aside0.mk h
  have K := Aside0.mk k
  have LZ := Aside0.mk lz
  have LT := Aside0.mk lt
  have HL := Aside0.mk hl
  clear h k lz lt hl
  go_enter Try.func39, Try.ntmps39
  go_wp2_with fail
  with_reducible refine (forward_c x y u v z t _ H.out K.out LZ.out LT.out).mono ?_
  rintro e w1 ⟨⟨r, i, rfl, f⟩, rfl⟩
  have F := Aside0.mk f
  clear f
  go_wp2_with fail
  with_reducible refine (square_c r i (fw z t).1 (fw z t).2 _ F.out.fst F.out.snd (fw_lim z t LZ.out LT.out).fst (fw_lim z t LZ.out LT.out).snd).mono ?_
  rintro e w1 ⟨⟨s, rfl, f⟩, rfl⟩
  have S := Aside0.mk f
  clear f
  go_wp2_with fail
  with_reducible refine (back_c x y u v z t _ H.out K.out LZ.out LT.out).mono ?_
  rintro e w1 ⟨⟨r2, i2, rfl, f⟩, rfl⟩
  have F2 := Aside0.mk f
  clear f
  go_wp2_with fail
  with_reducible refine (square_c r2 i2 (bk z t).1 (bk z t).2 _ F2.out.fst F2.out.snd (bk_lim z t LZ.out LT.out).fst (bk_lim z t LZ.out LT.out).snd).mono ?_
  rintro e w1 ⟨⟨s2, rfl, f⟩, rfl⟩
  have S2 := Aside0.mk f
  clear f
  have fl := int_fv least (HL.out.abs (by decide))
  obtain ⟨m, m1, m2⟩ := mul_fv fl fl ((HL.out.mul HL.out).abs (by decide))
  have LB := bk_lim z t LZ.out LT.out
  have q16 : Lim 16 16 := ⟨by decide, by decide⟩
  obtain ⟨p, p1, p2⟩ := mul_fv sixteen S2.out ((q16.mul ((LB.fst.mul LB.fst).add (LB.snd.mul LB.snd))).abs (by decide))
  have k1 := arith_c .mul _ _ m m1
  have k2 := arith_c .mul _ _ p p1
  have k3 : FloatKind.f64.format.order s m = some (compare ((fw z t).1 * (fw z t).1 + (fw z t).2 * (fw z t).2) (least * least)) := order_fv S.out m2
  have k4 : FloatKind.f64.format.order p s = some (compare (16 * ((bk z t).1 * (bk z t).1 + (bk z t).2 * (bk z t).2)) ((fw z t).1 * (fw z t).1 + (fw z t).2 * (fw z t).2)) := order_fv p2 S.out
  have E : Aside0 (goodB z t least = ((compare ((fw z t).1 * (fw z t).1 + (fw z t).2 * (fw z t).2) (least * least)).isGE && (compare (16 * ((bk z t).1 * (bk z t).1 + (bk z t).2 * (bk z t).2)) ((fw z t).1 * (fw z t).1 + (fw z t).2 * (fw z t).2)).isLE)) :=
    ⟨by rw [← dec_ge, ← dec_le]; rfl⟩
  clear m1 p1 m2 p2 fl LB q16
  generalize compare ((fw z t).1 * (fw z t).1 + (fw z t).2 * (fw z t).2) (least * least) = o1 at k3 E
  generalize compare (16 * ((bk z t).1 * (bk z t).1 + (bk z t).2 * (bk z t).2)) ((fw z t).1 * (fw z t).1 + (fw z t).2 * (fw z t).2) = o2 at k4 E
  cases o1 <;> cases o2
  all_goals
    go_wp2_with fail
    go_ret
    exact ⟨by rw [E.out]; first | rfl | simp, rfl⟩
theorem pow_c (x y : Nat) (z : Int × Int) (w : World) (h : CV x y z) (l : LimZ z 200000) :
    Calls Try.prog 37 #[.complex .f64 x y] w fun e w' => e = .returned (.int .i64 (sq z)) ∧ w = w' := power_c x y z.1 z.2 w h.fst h.snd l.fst l.snd
theorem coilz_c (m n : Int) (w : World) (hm : Lim m 200000) (hn : Lim n 200000) : Calls Try.prog 31 #[.int .i64 m, .int .i64 n] w fun e w' => (∃ x y, e = .returned (.complex .f64 x y) ∧ CV x y (m, n)) ∧ w = w' :=
  (coil_c m n w).mono fun _ _ ⟨he, hw⟩ => ⟨⟨_, _, he, ⟨int_fv m (hm.abs (by decide)), int_fv n (hn.abs (by decide))⟩⟩, hw⟩
theorem turnz_c (q : Int) (x y : Nat) (z : Int × Int) (w : World) (h : CV x y z) :
    Calls Try.prog 41 #[.complex .f64 x y, .int .i64 q] w fun e w' => (∃ u v, e = .returned (.complex .f64 u v) ∧ CV u v (qt (rounds4 q) z)) ∧ w = w' :=
  (turn_c q x y z w h.fst h.snd).mono fun _ _ ⟨⟨u, v, he, h1, h2⟩, hw⟩ => ⟨⟨u, v, he, ⟨h1, h2⟩⟩, hw⟩
theorem cut_lim (a : Int) : Lim (Int.tmod a 30001) 30000 := by
  have h1 : Int.tmod a 30001 < 30001 := Int.tmod_lt_of_pos a (by decide)
  have h2 : -30001 < Int.tmod a 30001 := Int.lt_tmod_of_pos a (by decide)
  exact ⟨by omega, by omega⟩
theorem cut_c (a : Int) (w : World) : Calls Try.prog 30 #[.int .i64 a] w fun e w' => e = .returned (.int .i64 (Int.tmod a 30001)) ∧ w = w' := by
  go_enter Try.func30, Try.ntmps30
  go_wp2
  go_ret
  exact ⟨rfl, rfl⟩
theorem one_lim : LimZ (1, 0) 100000 ∧ LimZ (0, -1) 100000 := ⟨⟨⟨by decide, by decide⟩, ⟨by decide, by decide⟩⟩, ⟨⟨by decide, by decide⟩, ⟨by decide, by decide⟩⟩⟩
theorem l1 : Lim 1 200000 := ⟨by decide, by decide⟩
theorem l0 : Lim 0 200000 := ⟨by decide, by decide⟩
theorem lm : Lim (-1) 200000 := ⟨by decide, by decide⟩
theorem l20 : LimZ (2, 0) 200000 := ⟨⟨by decide, by decide⟩, ⟨by decide, by decide⟩⟩
theorem first_c (w : World) : Calls Try.prog 29 #[] w fun e w' => e = .returned (.bool true) ∧ w = w' := by
  have OL := Aside0.mk one_lim
  go_enter Try.func29, Try.ntmps29
  go_wp2_with fail
  with_reducible refine (coilz_c 1 0 _ l1 l0).mono ?_
  rintro e w1 ⟨⟨x, y, rfl, f⟩, rfl⟩
  have F1 := Aside0.mk f
  clear f
  go_wp2_with fail
  with_reducible refine (coilz_c 0 (-1) _ l0 lm).mono ?_
  rintro e w1 ⟨⟨u, v, rfl, f⟩, rfl⟩
  have F2 := Aside0.mk f
  clear f
  go_wp2_with fail
  with_reducible refine (forward_c x y u v (1, 0) (0, -1) _ F1.out F2.out OL.out.1 OL.out.2).mono ?_
  rintro e w1 ⟨⟨r, i, rfl, f⟩, rfl⟩
  have F3 : Aside0 (CV r i (2, 0)) := ⟨f⟩
  clear f
  have h1 := ord_eq F3.out.fst two
  have h2 := ord_eq F3.out.snd nought
  go_wp2_with fail
  with_reducible refine (pow_c r i (2, 0) _ F3.out l20).mono ?_
  rintro e w1 ⟨rfl, rfl⟩
  have h3 : sq (2, 0) = 4 := by decide
  rw [h3]
  go_wp2_with fail
  go_ret
  exact ⟨rfl, rfl⟩
theorem sq_qt (r : Nat) (z : Int × Int) : sq (qt r z) = sq z := by
  induction r with
  | zero => rfl
  | succ r ih =>
    have h : sq (qt (r + 1) z) = sq (qt r z) := by
      simp only [sq, qt]
      rw [Int.neg_mul_neg, Int.add_comm]
    rw [h, ih]
theorem fw_qt (r : Nat) (z t : Int × Int) : fw (qt r z) (qt r t) = qt r (fw z t) ∧ bk (qt r z) (qt r t) = qt r (bk z t) := by
  induction r with
  | zero => exact ⟨rfl, rfl⟩
  | succ r ih =>
    obtain ⟨h1, h2⟩ := ih
    simp only [fw, bk, qt, Prod.mk.injEq, Prod.ext_iff] at h1 h2 ⊢
    refine ⟨⟨?_, ?_⟩, ⟨?_, ?_⟩⟩ <;> omega
theorem good_qt (r : Nat) (z t : Int × Int) (l : Int) : goodB (qt r z) (qt r t) l = goodB z t l := by
  unfold goodB
  rw [(fw_qt r z t).1, (fw_qt r z t).2, sq_qt, sq_qt]
theorem qt_add (r s : Nat) (z : Int × Int) : qt r (qt s z) = qt (r + s) z := by
  induction r with
  | zero => rw [Nat.zero_add]; rfl
  | succ r ih => rw [Nat.succ_add]; simp only [qt]; rw [ih]
theorem qt_four (z : Int × Int) : qt 4 z = z := by simp [qt]
theorem qt_back (q : Int) (z : Int × Int) : qt (rounds4 (-q)) (qt (rounds4 q) z) = z := by
  have h1 : Int.tmod q 4 < 4 := Int.tmod_lt_of_pos q (by decide)
  have h2 : -4 < Int.tmod q 4 := Int.lt_tmod_of_pos q (by decide)
  have h3 : Int.tmod (-q) 4 = -Int.tmod q 4 := Int.neg_tmod ..
  rw [qt_add]
  have : rounds4 (-q) + rounds4 q = 0 ∨ rounds4 (-q) + rounds4 q = 4 := by unfold rounds4; rw [h3]; omega
  rcases this with h | h
  · rw [h]; rfl
  · rw [h, qt_four]
theorem sums (z t : Int × Int) : sq (fw z t) + sq (bk z t) = 2 * (sq z + sq t) := by
  simp only [sq, fw, bk]
  grind
theorem exch (z t : Int × Int) : sq (fw t z) = sq (bk z t) := by
  simp only [sq, fw, bk]
  grind
theorem sq_lo (z : Int × Int) : 0 ≤ sq z := Int.add_nonneg (sq_nonneg _) (sq_nonneg _)
theorem sq_hi (z : Int × Int) (B : Int) (h : LimZ z B) : sq z ≤ 2 * (B * B) := by
  have h1 := (h.fst.mul h.fst).2
  have h2 := (h.snd.mul h.snd).2
  unfold sq
  omega
theorem qt_limz (r : Nat) (z : Int × Int) (B : Int) (h : LimZ z B) : LimZ (qt r z) B := ⟨(qt_lim r z B h.fst h.snd).1, (qt_lim r z B h.fst h.snd).2⟩
theorem LimZ.mono {z : Int × Int} {B C : Int} (h : LimZ z B) (k : B ≤ C) : LimZ z C := ⟨h.fst.mono k, h.snd.mono k⟩

end Go.Proofs.Ytdpdakecglpafaa.Pha
