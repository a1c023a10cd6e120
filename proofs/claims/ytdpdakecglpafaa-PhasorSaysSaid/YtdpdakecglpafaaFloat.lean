/- Words of float64 that stand for whole numbers below 2^53: sums, products, opposites and comparisons of them are exact. -/
import Derived.Laws.FloatArith
import Derived.Laws.ComplexArith
namespace Go.Proofs.Ytdpdakecglpafaa.Fl
open Go Ieee

abbrev B53 : Nat := 9007199254740992
/-- The word b stands for the whole number n. -/
def FV (b : Nat) (n : Int) : Prop := ∃ (s : Bool) (N e : Nat), Ieee.double.read b = .number s (N * 2 ^ e) (-(e : Int)) ∧ n = (if s then -(N : Int) else (N : Int))

theorem word_read (neg : Bool) (L c : Nat) (hL : L ≤ 52) (hc : c < 4503599627370496) :
    Ieee.double.read (Ieee.double.word neg ((L + 1023) * 4503599627370496 + c)) = .number neg (4503599627370496 + c) (-(((52 - L : Nat)) : Int)) := by
  have hw : Ieee.double.signWeight = 9223372036854775808 := by decide
  have hb : Ieee.double.binade = 4503599627370496 := by decide
  have hi : Ieee.double.infRung = 2047 * 4503599627370496 := by decide
  have hl : Ieee.double.leastPlace = -1074 := by decide
  unfold Format.read Format.word
  simp only [hw, hb, hi, hl]
  have h1 : (if neg = true then 9223372036854775808 + ((L + 1023) * 4503599627370496 + c) else (L + 1023) * 4503599627370496 + c) % 9223372036854775808 = (L + 1023) * 4503599627370496 + c := by
    cases neg <;> simp <;> omega
  have h2 : ((if neg = true then 9223372036854775808 + ((L + 1023) * 4503599627370496 + c) else (L + 1023) * 4503599627370496 + c) / 9223372036854775808 % 2 == 1) = neg := by
    cases neg
    · simp; omega
    · simp; omega
  rw [h1, h2, if_neg (by omega), if_pos (by omega)]
  congr 1
  · omega
  · omega
theorem zero_read (neg : Bool) : Ieee.double.read (Ieee.double.word neg 0) = .number neg 0 (-1074) := by cases neg <;> decide
theorem cut_exact (neg : Bool) (m drop : Nat) (h : 0 < m) : Toward.even.cut neg (m * 2 ^ drop) drop = m := by
  have hd : drop ≤ (m * 2 ^ drop).log2 := (Nat.le_log2 (by have := Nat.two_pow_pos drop; exact Nat.ne_of_gt (Nat.mul_pos h this))).mpr (by have := Nat.two_pow_pos drop; exact Nat.le_mul_of_pos_left _ h)
  unfold Toward.cut
  simp only
  rw [Nat.min_eq_left (by omega), Nat.shiftLeft_eq, Nat.one_mul, Nat.mul_div_cancel _ (Nat.two_pow_pos drop), Nat.mul_mod_left]
  have hp := Nat.two_pow_pos drop
  have h1 : decide (2 ^ drop < 2 * 0) = false := by simp
  have h2 : (2 ^ drop == 2 * 0) = false := by simp
  rw [h1, h2]
  rfl
theorem log2_mul (N k : Nat) (h : 0 < N) : (N * 2 ^ k).log2 = N.log2 + k := by
  have h1 := (Nat.log2_eq_iff (n := N) (by omega) (k := N.log2)).mp rfl
  refine (Nat.log2_eq_iff (by have := Nat.two_pow_pos k; exact Nat.ne_of_gt (Nat.mul_pos h this))).mpr ⟨?_, ?_⟩
  · rw [Nat.pow_add]; exact Nat.mul_le_mul_right _ h1.1
  · rw [show N.log2 + k + 1 = (N.log2 + 1) + k by omega, Nat.pow_add]; exact Nat.mul_lt_mul_of_pos_right h1.2 (Nat.two_pow_pos k)
theorem nearest_read (neg : Bool) (N k : Nat) (h : N < B53) : ∃ e : Nat, Ieee.double.read (Ieee.double.nearest neg (N * 2 ^ k) (-(k : Int))) = .number neg (N * 2 ^ e) (-(e : Int)) := by
  by_cases h0 : N = 0
  · subst h0
    obtain ⟨E, hE⟩ : ∃ E : Nat, E = 1074 := ⟨_, rfl⟩
    refine ⟨E, ?_⟩
    unfold Format.nearest
    rw [if_pos (Nat.zero_mul _), zero_read, Nat.zero_mul, hE]
    rfl
  · have hN : 0 < N := by omega
    have hL := (Nat.log2_eq_iff (n := N) (by omega) (k := N.log2)).mp rfl
    generalize hLL : N.log2 = L at hL
    have hL52 : L ≤ 52 := by
      refine Nat.le_of_lt_succ ((Nat.pow_lt_pow_iff_right (a := 2) (by decide)).mp (Nat.lt_of_le_of_lt hL.1 ?_))
      exact h
    have hl : Ieee.double.leastPlace = -1074 := by decide
    have hf : (Ieee.double.fractionBits : Int) = 52 := by decide
    have hb : Ieee.double.binade = 4503599627370496 := by decide
    have hi : Ieee.double.infRung = 2047 * 4503599627370496 := by decide
    refine ⟨52 - L, ?_⟩
    have hm0 : N * 2 ^ k ≠ 0 := Nat.ne_of_gt (Nat.mul_pos hN (Nat.two_pow_pos k))
    have hlog : (N * 2 ^ k).log2 = L + k := by rw [log2_mul N k hN, hLL]
    unfold Format.nearest
    rw [if_neg hm0]
    simp only [hlog, hl, hf, hb, hi]
    have hlast : max (-(k : Int) + ((L + k : Nat) : Int) - 52) (-1074) = (L : Int) - 52 := by omega
    rw [hlast]
    have hkept : Toward.even.cut neg ((N * 2 ^ k) <<< (-(k : Int) - ((L : Int) - 52)).toNat) ((L : Int) - 52 - -(k : Int)).toNat = N * 2 ^ (52 - L) := by
      rw [Nat.shiftLeft_eq]
      by_cases hk : k ≤ 52 - L
      · have e1 : (-(k : Int) - ((L : Int) - 52)).toNat = 52 - L - k := by omega
        have e2 : ((L : Int) - 52 - -(k : Int)).toNat = 0 := by omega
        rw [e1, e2, Nat.mul_assoc, ← Nat.pow_add, show k + (52 - L - k) = 52 - L by omega]
        have := cut_exact neg (N * 2 ^ (52 - L)) 0 (Nat.mul_pos hN (Nat.two_pow_pos _))
        simpa using this
      · have e1 : (-(k : Int) - ((L : Int) - 52)).toNat = 0 := by omega
        have e2 : ((L : Int) - 52 - -(k : Int)).toNat = k - (52 - L) := by omega
        rw [e1, e2]
        have := cut_exact neg (N * 2 ^ (52 - L)) (k - (52 - L)) (Nat.mul_pos hN (Nat.two_pow_pos _))
        rw [Nat.mul_assoc, ← Nat.pow_add, show 52 - L + (k - (52 - L)) = k by omega] at this
        simpa using this
    rw [hkept]
    have k1 : 4503599627370496 ≤ N * 2 ^ (52 - L) := by
      have : 2 ^ L * 2 ^ (52 - L) = 4503599627370496 := by rw [← Nat.pow_add, show L + (52 - L) = 52 by omega]
      rw [← this]; exact Nat.mul_le_mul_right _ hL.1
    have k2 : N * 2 ^ (52 - L) < 9007199254740992 := by
      have : 2 ^ (L + 1) * 2 ^ (52 - L) = 9007199254740992 := by rw [← Nat.pow_add, show L + 1 + (52 - L) = 53 by omega]
      rw [← this]; exact Nat.mul_lt_mul_of_pos_right hL.2 (Nat.two_pow_pos _)
    generalize N * 2 ^ (52 - L) = c at k1 k2 ⊢
    have e3 : ((L : Int) - 52 - -1074).toNat = L + 1022 := by omega
    rw [e3, Nat.min_eq_left (by omega)]
    have e4 : (L + 1022) * 4503599627370496 + c = (L + 1023) * 4503599627370496 + (c - 4503599627370496) := by omega
    rw [e4, word_read neg L _ hL52 (by omega), Nat.add_sub_cancel' k1]
/-- A datum that stands for a whole number. -/
theorem write_fv (neg : Bool) (N k : Nat) (n : Int) (h : N < B53) (hn : n = (if neg then -(N : Int) else (N : Int))) : FV (Ieee.double.write (.number neg (N * 2 ^ k) (-(k : Int)))) n := by
  obtain ⟨e, he⟩ := nearest_read neg N k h
  exact ⟨neg, N, e, he, hn⟩
theorem signed_val (s : Bool) (N e K : Nat) (h : e ≤ K) : signed s (N * 2 ^ e) (K - e) = (if s then -(N : Int) else (N : Int)) * ((2 ^ K : Nat) : Int) := by
  have h1 : (N * 2 ^ e) <<< (K - e) = N * 2 ^ K := by rw [Nat.shiftLeft_eq, Nat.mul_assoc, ← Nat.pow_add, show e + (K - e) = K by omega]
  unfold signed
  rw [h1, Int.natCast_mul]
  cases s <;> simp [Int.neg_mul]
theorem int_fv (n : Int) (h : n.natAbs < B53) : FV (floatOfInt .f64 n) n := by
  have := write_fv (decide (n < 0)) n.natAbs 0 n h (by split <;> simp_all <;> omega)
  rw [Nat.pow_zero, Nat.mul_one] at this
  exact this
theorem place_sub (e d : Nat) : (-(e : Int) - min (-(e : Int)) (-(d : Int))).toNat = max e d - e ∧ (-(d : Int) - min (-(e : Int)) (-(d : Int))).toNat = max e d - d ∧ min (-(e : Int)) (-(d : Int)) = -((max e d : Nat) : Int) := by
  refine ⟨?_, ?_, ?_⟩ <;> omega
theorem add_fv {x y : Nat} {a b : Int} (hx : FV x a) (hy : FV y b) (h : (a + b).natAbs < B53) : ∃ r, Ieee.double.add x y = some r ∧ FV r (a + b) := by
  obtain ⟨s, N, e, h1, rfl⟩ := hx
  obtain ⟨t, M, d, h2, rfl⟩ := hy
  unfold Format.add
  rw [h1, h2]
  simp only [Datum.sum, Option.map_some]
  obtain ⟨p1, p2, p3⟩ := place_sub e d
  rw [p1, p2, p3, signed_val s N e (max e d) (Nat.le_max_left _ _), signed_val t M d (max e d) (Nat.le_max_right _ _), ← Int.add_mul, Int.natAbs_mul, Int.natAbs_natCast]
  refine ⟨_, rfl, write_fv _ _ _ _ h ?_⟩
  have hp : 0 < ((2 ^ (max e d) : Nat) : Int) := by have := Nat.two_pow_pos (max e d); omega
  generalize ((2 ^ (max e d) : Nat) : Int) = P at hp
  generalize ((if s = true then -(N : Int) else (N : Int)) + (if t = true then -(M : Int) else (M : Int))) = v
  by_cases hv : v = 0
  · subst hv; simp
  · have h0 : ¬ v * P = 0 := fun h0 => by rcases Int.mul_eq_zero.mp h0 with h0 | h0 <;> omega
    rw [if_neg h0]
    by_cases hn : v < 0
    · have : v * P < 0 := Int.mul_neg_of_neg_of_pos hn hp
      rw [if_pos (by simpa using this)]; omega
    · have : ¬ v * P < 0 := Int.not_lt.mpr (Int.mul_nonneg (by omega) (by omega))
      rw [if_neg (by simpa using this)]; omega
theorem opp_read {y : Nat} {b : Int} (hy : FV y b) : ∃ (s : Bool) (N e : Nat), (Ieee.double.read y).opposite = .number s (N * 2 ^ e) (-(e : Int)) ∧ -b = (if s then -(N : Int) else (N : Int)) := by
  obtain ⟨t, M, d, h2, rfl⟩ := hy
  rw [h2]
  exact ⟨!t, M, d, rfl, by cases t <;> simp⟩
theorem sub_fv {x y : Nat} {a b : Int} (hx : FV x a) (hy : FV y b) (h : (a - b).natAbs < B53) : ∃ r, Ieee.double.sub x y = some r ∧ FV r (a - b) := by
  obtain ⟨s, N, e, h1, rfl⟩ := hx
  obtain ⟨t, M, d, h2, h3⟩ := opp_read hy
  have hab : (if s = true then -(N : Int) else (N : Int)) - b = (if s = true then -(N : Int) else (N : Int)) + (if t = true then -(M : Int) else (M : Int)) := by omega
  rw [hab] at h ⊢
  unfold Format.sub
  rw [h1, h2]
  simp only [Datum.sum, Option.map_some]
  obtain ⟨p1, p2, p3⟩ := place_sub e d
  rw [p1, p2, p3, signed_val s N e (max e d) (Nat.le_max_left _ _), signed_val t M d (max e d) (Nat.le_max_right _ _), ← Int.add_mul, Int.natAbs_mul, Int.natAbs_natCast]
  refine ⟨_, rfl, write_fv _ _ _ _ h ?_⟩
  have hp : 0 < ((2 ^ (max e d) : Nat) : Int) := by have := Nat.two_pow_pos (max e d); omega
  generalize ((2 ^ (max e d) : Nat) : Int) = P at hp
  generalize ((if s = true then -(N : Int) else (N : Int)) + (if t = true then -(M : Int) else (M : Int))) = v
  by_cases hv : v = 0
  · subst hv; simp
  · have h0 : ¬ v * P = 0 := fun h0 => by rcases Int.mul_eq_zero.mp h0 with h0 | h0 <;> omega
    rw [if_neg h0]
    by_cases hn : v < 0
    · have : v * P < 0 := Int.mul_neg_of_neg_of_pos hn hp
      rw [if_pos (by simpa using this)]; omega
    · have : ¬ v * P < 0 := Int.not_lt.mpr (Int.mul_nonneg (by omega) (by omega))
      rw [if_neg (by simpa using this)]; omega
theorem mul_fv {x y : Nat} {a b : Int} (hx : FV x a) (hy : FV y b) (h : (a * b).natAbs < B53) : ∃ r, Ieee.double.mul x y = some r ∧ FV r (a * b) := by
  obtain ⟨s, N, e, h1, rfl⟩ := hx
  obtain ⟨t, M, d, h2, rfl⟩ := hy
  unfold Format.mul
  rw [h1, h2]
  simp only [Datum.product, Option.map_some]
  have e1 : N * 2 ^ e * (M * 2 ^ d) = N * M * 2 ^ (e + d) := by rw [Nat.pow_add]; ac_rfl
  have e2 : -(e : Int) + -(d : Int) = -((e + d : Nat) : Int) := by omega
  rw [e1, e2]
  have hN : ((if s = true then -(N : Int) else (N : Int)) * (if t = true then -(M : Int) else (M : Int))).natAbs = N * M := by
    rw [Int.natAbs_mul]; cases s <;> cases t <;> simp
  rw [hN] at h
  refine ⟨_, rfl, write_fv _ _ _ _ h ?_⟩
  cases s <;> cases t <;> simp [Int.natCast_mul, Int.mul_neg, Int.neg_mul]
theorem order_fv {x y : Nat} {a b : Int} (hx : FV x a) (hy : FV y b) : Ieee.double.order x y = some (compare a b) := by
  obtain ⟨s, N, e, h1, rfl⟩ := hx
  obtain ⟨t, M, d, h2, rfl⟩ := hy
  unfold Format.order
  rw [h1, h2]
  simp only [Datum.order]
  obtain ⟨p1, p2, p3⟩ := place_sub e d
  rw [p1, p2, signed_val s N e (max e d) (Nat.le_max_left _ _), signed_val t M d (max e d) (Nat.le_max_right _ _)]
  have hp : 0 < ((2 ^ (max e d) : Nat) : Int) := by have := Nat.two_pow_pos (max e d); omega
  generalize ((2 ^ (max e d) : Nat) : Int) = P at hp
  generalize (if s = true then -(N : Int) else (N : Int)) = u
  generalize (if t = true then -(M : Int) else (M : Int)) = v
  congr 1
  simp only [compare, compareOfLessAndEq]
  by_cases h : u < v
  · rw [if_pos h, if_pos (Int.mul_lt_mul_of_pos_right h hp)]
  · rw [if_neg h, if_neg (Int.not_lt.mpr (Int.mul_le_mul_of_nonneg_right (Int.not_lt.mp h) (by omega)))]
    by_cases h2 : u = v
    · rw [if_pos h2, if_pos (by rw [h2])]
    · rw [if_neg h2, if_neg (fun h3 => h2 (Int.eq_of_mul_eq_mul_right (by omega) h3))]
theorem toInt_fv {x : Nat} {a : Int} (hx : FV x a) : (Ieee.double.read x).toInt .zero = some a := by
  obtain ⟨s, N, e, h1, rfl⟩ := hx
  rw [h1]
  simp only [Datum.toInt, Datum.integral]
  have e1 : (-(e : Int)).toNat = 0 := by omega
  have e2 : (- -(e : Int)).toNat = e := by omega
  rw [e1, e2, Nat.shiftLeft_zero]
  have hc : Toward.zero.cut s (N * 2 ^ e) e = N := by
    unfold Toward.cut
    simp only
    by_cases h0 : N = 0
    · subst h0; simp
    · have hl := log2_mul N e (by omega)
      rw [hl, Nat.min_eq_left (by omega), Nat.shiftLeft_eq, Nat.one_mul, Nat.mul_div_cancel _ (Nat.two_pow_pos e)]
      rfl
  rw [hc]
  unfold signed
  simp
theorem neg_fv {x : Nat} {a : Int} (hx : FV x a) : FV (Op.negFloat .f64 x) (-a) := by
  obtain ⟨s, N, e, h1, rfl⟩ := hx
  refine ⟨!s, N, e, ?_, by cases s <;> simp⟩
  have hw : Ieee.double.signWeight = 2 ^ 63 := by decide
  have m1 : (x ^^^ 2 ^ 63) % 2 ^ 63 = x % 2 ^ 63 := by rw [Nat.xor_mod_two_pow, Nat.mod_self, Nat.xor_zero]
  have m2 : (x ^^^ 2 ^ 63) / 2 ^ 63 % 2 = (x / 2 ^ 63 + 1) % 2 := by
    have h3 : (x ^^^ 2 ^ 63) / 2 ^ 63 = x / 2 ^ 63 ^^^ 1 := by
      rw [← Nat.shiftRight_eq_div_pow, ← Nat.shiftRight_eq_div_pow, Nat.shiftRight_xor_distrib]
      rfl
    rw [h3]
    have h4 := Nat.xor_mod_two_pow (a := x / 2 ^ 63) (b := 1) (n := 1)
    rw [Nat.pow_one] at h4
    rw [h4]
    rcases Nat.mod_two_eq_zero_or_one (x / 2 ^ 63) with h5 | h5
    · rw [h5, Nat.add_mod, h5]; rfl
    · rw [h5, Nat.add_mod, h5]; rfl
  have hn : Op.negFloat .f64 x = x ^^^ 2 ^ 63 := rfl
  rw [hn]
  unfold Format.read at h1 ⊢
  simp only [hw] at h1 ⊢
  rw [m1, m2]
  have hs : ((x / 2 ^ 63 + 1) % 2 == 1) = !(x / 2 ^ 63 % 2 == 1) := by
    rcases Nat.mod_two_eq_zero_or_one (x / 2 ^ 63) with h5 | h5
    · rw [h5, Nat.add_mod, h5]; rfl
    · rw [h5, Nat.add_mod, h5]; rfl
  rw [hs]
  generalize (x / 2 ^ 63 % 2 == 1) = z at h1 ⊢
  by_cases c1 : x % 2 ^ 63 < Ieee.double.binade
  · rw [if_pos c1] at h1 ⊢
    injection h1 with i1 i2 i3
    rw [i1, i2, i3]
  · rw [if_neg c1] at h1 ⊢
    by_cases c2 : x % 2 ^ 63 < Ieee.double.infRung
    · rw [if_pos c2] at h1 ⊢
      injection h1 with i1 i2 i3
      rw [i1, i2, i3]
    · rw [if_neg c2] at h1
      split at h1 <;> cases h1
end Go.Proofs.Ytdpdakecglpafaa.Fl
