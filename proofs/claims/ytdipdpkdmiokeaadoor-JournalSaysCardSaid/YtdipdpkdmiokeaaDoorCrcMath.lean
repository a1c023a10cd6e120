/- The shift register of the sums of bytes as words of sixteen bits: it is linear, what it finds, and how the whole numbers of the program stand for it. -/
import Derived.Laws.Entries
import Derived.IntWalk
namespace Go.Proofs.YtdipdpkdmiokeaaDoor.CrcMath
open Go

def reg (s : BitVec 16) : BitVec 16 := if s.msb then (s <<< 1) ^^^ 0x1021#16 else s <<< 1
def regs : Nat → BitVec 16 → BitVec 16
  | 0, s => s
  | n + 1, s => regs n (reg s)
def up (x : BitVec 8) : BitVec 16 := x.setWidth 16 <<< 8
def byte (s : BitVec 16) (x : BitVec 8) : BitVec 16 := regs 8 (s ^^^ up x)
def more (s : BitVec 16) (l : List (BitVec 8)) : BitVec 16 := l.foldl byte s

theorem reg_xor (a b : BitVec 16) : reg (a ^^^ b) = reg a ^^^ reg b := by
  unfold reg
  rw [BitVec.msb_xor, BitVec.shiftLeft_xor_distrib]
  have h2 : ∀ x y c : BitVec 16, x ^^^ y = x ^^^ c ^^^ (y ^^^ c) := fun x y c => by
    have h1 : x ^^^ c ^^^ (y ^^^ c) = (x ^^^ y) ^^^ (c ^^^ c) := by ac_rfl
    rw [h1]; simp
  cases a.msb <;> cases b.msb <;> simp only [Bool.bne_true, Bool.bne_false, Bool.not_true, Bool.not_false, if_true, if_false, Bool.false_eq_true] <;> first | exact h2 _ _ _ | ac_rfl | rfl
theorem regs_xor (n : Nat) (a b : BitVec 16) : regs n (a ^^^ b) = regs n a ^^^ regs n b := by
  induction n generalizing a b with
  | zero => rfl
  | succ n ih => simp only [regs]; rw [reg_xor, ih]
theorem regs_add (m n : Nat) (a : BitVec 16) : regs (m + n) a = regs n (regs m a) := by
  induction m generalizing a with
  | zero => simp [regs]
  | succ m ih => rw [Nat.add_right_comm]; simp only [regs]; exact ih _
theorem reg_zero : reg 0 = 0 := by decide
theorem regs_zero (n : Nat) : regs n 0 = 0 := by
  induction n with
  | zero => rfl
  | succ n ih => simp only [regs]; rw [reg_zero]; exact ih
theorem reg_inj0 (a : BitVec 16) (h : reg a = 0) : a = 0 := by
  unfold reg at h
  apply BitVec.eq_of_toNat_eq
  by_cases hm : a.msb = true
  · rw [if_pos hm] at h
    have h2 : a <<< 1 = 0x1021#16 := by
      have := congrArg (· ^^^ 0x1021#16) h
      simpa [BitVec.xor_assoc] using this
    have h3 := congrArg BitVec.toNat h2
    simp [BitVec.toNat_shiftLeft, Nat.shiftLeft_eq] at h3
    omega
  · rw [if_neg hm] at h
    have h3 := congrArg BitVec.toNat h
    have h4 : ¬ 32768 ≤ a.toNat := by
      intro h5
      apply hm
      rw [BitVec.msb_eq_decide]
      simpa using h5
    simp [BitVec.toNat_shiftLeft, Nat.shiftLeft_eq] at h3
    simp
    omega
theorem regs_inj0 (n : Nat) (a : BitVec 16) (h : regs n a = 0) : a = 0 := by
  induction n generalizing a with
  | zero => exact h
  | succ n ih => exact reg_inj0 _ (ih _ h)
theorem xor_zero_iff (a b : BitVec 16) (h : a ^^^ b = 0) : a = b := by
  have := congrArg (· ^^^ b) h
  simpa [BitVec.xor_assoc] using this
theorem regs_inj (n : Nat) (a b : BitVec 16) (h : regs n a = regs n b) : a = b := by
  apply xor_zero_iff
  apply regs_inj0 n
  rw [regs_xor, h]; simp

theorem up_xor (x y : BitVec 8) : up (x ^^^ y) = up x ^^^ up y := by
  unfold up; rw [← BitVec.shiftLeft_xor_distrib]; simp

theorem byte_xor (s t : BitVec 16) (x y : BitVec 8) : byte (s ^^^ t) (x ^^^ y) = byte s x ^^^ byte t y := by
  unfold byte
  rw [← regs_xor, up_xor]
  congr 1
  ac_rfl

def xors : List (BitVec 8) → List (BitVec 8) → List (BitVec 8)
  | x :: xs, y :: ys => (x ^^^ y) :: xors xs ys
  | _, _ => []
theorem more_xors (l m : List (BitVec 8)) (h : l.length = m.length) (s t : BitVec 16) : more (s ^^^ t) (xors l m) = more s l ^^^ more t m := by
  induction l generalizing m s t with
  | nil => cases m with
    | nil => rfl
    | cons y ys => simp at h
  | cons x xs ih => cases m with
    | nil => simp at h
    | cons y ys =>
      simp only [more, xors, List.foldl_cons] at ih ⊢
      rw [byte_xor]
      exact ih ys (by simpa using h) _ _

theorem low_steps : ∀ x : BitVec 8, regs 8 (x.setWidth 16) = up x := by decide +kernel

def row (x : BitVec 8) : BitVec 16 := byte 0 x
theorem byte_row (s : BitVec 16) (x : BitVec 8) : byte s x = (s <<< 8) ^^^ row ((s >>> 8).setWidth 8 ^^^ x) := by
  have hs : s = up ((s >>> 8).setWidth 8) ^^^ (s.setWidth 8).setWidth 16 := by
    apply BitVec.eq_of_getElem_eq
    intro i hi
    by_cases h : i < 8
    · simp [up, h, BitVec.getLsbD_eq_getElem hi]
    · have h2 : 8 + (i - 8) = i := by omega
      have h3 : i - 8 < 8 := by omega
      simp [up, h, h2, h3, BitVec.getLsbD_eq_getElem hi]
  have hl : s <<< 8 = up (s.setWidth 8) := by
    apply BitVec.eq_of_getElem_eq
    intro i hi
    by_cases h : i < 8
    · simp [up, h]
    · have h3 : i - 8 < 8 := by omega
      have h4 : i - 8 < 16 := by omega
      simp [up, h, h3, h4, ← BitVec.getLsbD_eq_getElem]
  rw [hl, ← low_steps]
  unfold row byte
  rw [← regs_xor]
  congr 1
  conv => lhs; rw [hs]
  rw [up_xor]
  simp
  ac_rfl
theorem row_zero : row 0 = 0 := by decide

theorem more_append (s : BitVec 16) (l m : List (BitVec 8)) : more s (l ++ m) = more (more s l) m := by simp [more]
theorem more_own (s : BitVec 16) : more s [(s >>> 8).setWidth 8, s.setWidth 8] = 0 := by
  simp only [more, List.foldl_cons, List.foldl_nil]
  rw [byte_row s]
  simp only [BitVec.xor_self]
  have : row (0#8) = 0 := row_zero
  rw [this]
  simp only [BitVec.ofNat_eq_ofNat, BitVec.xor_zero]
  rw [byte_row]
  have h1 : ((s <<< 8) >>> 8).setWidth 8 = s.setWidth 8 := by
    apply BitVec.eq_of_getElem_eq
    intro i hi
    simp
    omega
  have h2 : (s <<< 8) <<< 8 = 0 := by
    apply BitVec.eq_of_getElem_eq
    intro i hi
    simp
  rw [h1, h2, BitVec.xor_self, this]
  rfl
/-! ### one bit, two bits -/
theorem byte_one (s : BitVec 16) (x e : BitVec 8) : byte s (x ^^^ e) = byte s x ^^^ byte 0 e := by
  have := byte_xor s 0 x e
  simpa using this
theorem more_lin (q : List (BitVec 8)) (u v : BitVec 16) : more (u ^^^ v) q = more u q ^^^ regs (8 * q.length) v := by
  induction q generalizing u v with
  | nil => simp [more, regs]
  | cons x q ih =>
    have h : byte (u ^^^ v) x = byte u x ^^^ regs 8 v := by
      unfold byte
      rw [← regs_xor]
      congr 1
      ac_rfl
    simp only [more, List.foldl_cons, List.length_cons] at ih ⊢
    rw [h, ih]
    congr 1
theorem byte_bit : ∀ j : Fin 8, byte 0 (1#8 <<< j.val) = regs (j.val + 16) 1#16 := by decide +kernel
def bitTurned (l : List (BitVec 8)) (i : Nat) : List (BitVec 8) := l.set (i / 8) (l.getD (i / 8) 0 ^^^ 1#8 <<< (i % 8))
def place (n i : Nat) : Nat := i % 8 + 16 + 8 * (n - 1 - i / 8)
theorem set_split (l : List (BitVec 8)) (m : Nat) (y : BitVec 8) (h : m < l.length) : ∃ p x q, l = p ++ x :: q ∧ l.set m y = p ++ y :: q ∧ l.getD m 0 = x ∧ p.length = m ∧ q.length = l.length - 1 - m := by
  refine ⟨l.take m, l[m], l.drop (m + 1), ?_, ?_, ?_, ?_, ?_⟩
  · simp
  · rw [List.set_eq_take_append_cons_drop, if_pos h]
  · simp [List.getD, h]
  · simp; omega
  · simp; try omega
theorem more_flip (s : BitVec 16) (l : List (BitVec 8)) (i : Nat) (h : i < 8 * l.length) : more s (bitTurned l i) = more s l ^^^ regs (place l.length i) 1#16 := by
  obtain ⟨p, x, q, h1, h2, h3, h4, h5⟩ := set_split l (i / 8) (l.getD (i / 8) 0 ^^^ 1#8 <<< (i % 8)) (by omega)
  unfold bitTurned
  rw [h2, h3]
  conv => rhs; rw [h1]
  rw [more_append, more_append]
  have hb := byte_bit ⟨i % 8, Nat.mod_lt _ (by decide)⟩
  have hc : ∀ t y, more t (y :: q) = more (byte t y) q := fun _ _ => rfl
  rw [hc, hc, byte_one, more_lin]
  congr 1
  rw [hb, ← regs_add]
  congr 1
  rw [← h1]
  unfold place
  simp only
  omega
theorem bitTurned_length (l : List (BitVec 8)) (i : Nat) : (bitTurned l i).length = l.length := by simp [bitTurned]
def none1 : Nat → BitVec 16 → Bool
  | 0, _ => true
  | n + 1, s => (reg s != 1#16) && none1 n (reg s)
theorem none1_ok : none1 2400 1#16 = true := by decide +kernel
theorem none1_tells (n : Nat) : ∀ (s : BitVec 16), none1 n s = true → ∀ d, 0 < d → d ≤ n → regs d s ≠ 1#16 := by
  induction n with
  | zero => intro s _ d h1 h2; omega
  | succ n ih =>
    intro s h d h1 h2
    simp only [none1, Bool.and_eq_true, bne_iff_ne] at h
    obtain ⟨d, rfl⟩ : ∃ e, d = e + 1 := ⟨d - 1, by omega⟩
    simp only [regs]
    by_cases h3 : d = 0
    · subst h3; exact h.1
    · exact ih _ h.2 d (by omega) (by omega)
theorem order (d : Nat) (h : 0 < d) (h2 : d ≤ 2400) : regs d 1#16 ≠ 1#16 := none1_tells 2400 _ none1_ok d h h2
theorem regs_one_ne (n : Nat) : regs n 1#16 ≠ 0 := fun h => absurd (regs_inj0 _ _ h) (by decide)
theorem regs_ne (a b : Nat) (h : a < b) (h2 : b ≤ a + 2400) : regs a 1#16 ≠ regs b 1#16 := by
  intro e
  obtain ⟨d, rfl⟩ : ∃ d, b = d + a := ⟨b - a, by omega⟩
  rw [regs_add] at e
  exact order d (by omega) (by omega) (regs_inj _ _ _ e).symm
theorem place_ne (n i k : Nat) (hn : n ≤ 300) (hi : i < 8 * n) (hk : k < 8 * n) (h : i ≠ k) : regs (place n i) 1#16 ≠ regs (place n k) 1#16 := by
  unfold place
  by_cases h1 : i % 8 + 16 + 8 * (n - 1 - i / 8) < k % 8 + 16 + 8 * (n - 1 - k / 8)
  · exact regs_ne _ _ h1 (by omega)
  · exact fun e => regs_ne (k % 8 + 16 + 8 * (n - 1 - k / 8)) (i % 8 + 16 + 8 * (n - 1 - i / 8)) (by omega) (by omega) e.symm
theorem xor_ne (a b : BitVec 16) (h : b ≠ 0) : a ^^^ b ≠ a := by
  intro e
  apply h
  have := congrArg (a ^^^ ·) e
  simpa [← BitVec.xor_assoc] using this
theorem one_bit (s : BitVec 16) (l : List (BitVec 8)) (i : Nat) (h : i < 8 * l.length) : more s (bitTurned l i) ≠ more s l := by
  rw [more_flip s l i h]
  exact xor_ne _ _ (regs_one_ne _)
theorem two_bits (s : BitVec 16) (l : List (BitVec 8)) (i k : Nat) (hn : l.length ≤ 300) (hi : i < 8 * l.length) (hk : k < 8 * l.length) (h : i ≠ k) : more s (bitTurned (bitTurned l i) k) ≠ more s l := by
  rw [more_flip s _ k (by rw [bitTurned_length]; exact hk), more_flip s l i hi, bitTurned_length, BitVec.xor_assoc]
  apply xor_ne
  intro e
  exact place_ne _ i k hn hi hk h (xor_zero_iff _ _ e)
theorem more_zeros (n : Nat) : more 0 (List.replicate n 0) = 0 := by
  induction n with
  | zero => rfl
  | succ n ih =>
    rw [List.replicate_succ]
    simp only [more, List.foldl_cons] at ih ⊢
    have : byte 0 0 = 0 := by decide
    rw [this]; exact ih

/-! ### as the program's whole numbers -/
def w16 (s : BitVec 16) : Int := (s.toNat : Int)
def w8 (x : BitVec 8) : Int := (x.toNat : Int)
theorem ofInt_w16 (s : BitVec 16) : BitVec.ofInt 16 (w16 s) = s := by simp [w16]
theorem ofInt_w8 (s : BitVec 8) : BitVec.ofInt 8 (w8 s) = s := by simp [w8]
theorem w16_inj {a b : BitVec 16} : w16 a = w16 b ↔ a = b := by
  constructor
  · intro h; rw [← ofInt_w16 a, h, ofInt_w16]
  · rintro rfl; rfl
theorem w16_lt (s : BitVec 16) : w16 s < 65536 := by have := s.isLt; unfold w16; omega
theorem w16_ge (s : BitVec 16) : 0 ≤ w16 s := by unfold w16; omega
theorem wrap16 (n : Nat) : IntKind.u16.wrap (n : Int) = ((n % 65536 : Nat) : Int) := by simp [IntKind.wrap, IntKind.bits, IntKind.signed]
theorem wrap16_id (s : BitVec 16) : IntKind.u16.wrap (s.toNat : Int) = w16 s := by
  rw [wrap16, Nat.mod_eq_of_lt s.isLt]; rfl
theorem wrap8 (n : Nat) : IntKind.u8.wrap (n : Int) = ((n % 256 : Nat) : Int) := by simp [IntKind.wrap, IntKind.bits, IntKind.signed]
theorem wrap8_id (s : BitVec 8) : IntKind.u8.wrap (s.toNat : Int) = w8 s := by
  rw [wrap8, Nat.mod_eq_of_lt s.isLt]; rfl
theorem bits16 (x y : Int) : Go.bits .xor .u16 x y = IntKind.u16.wrap (((BitVec.ofInt 16 x ^^^ BitVec.ofInt 16 y : BitVec 16).toNat : Nat) : Int) := rfl
theorem bits8 (x y : Int) : Go.bits .xor .u8 x y = IntKind.u8.wrap (((BitVec.ofInt 8 x ^^^ BitVec.ofInt 8 y : BitVec 8).toNat : Nat) : Int) := rfl
theorem ands16 (x y : Int) : Go.bits .and .u16 x y = IntKind.u16.wrap (((BitVec.ofInt 16 x &&& BitVec.ofInt 16 y : BitVec 16).toNat : Nat) : Int) := rfl
theorem xor16 (a b : BitVec 16) : Go.bits .xor .u16 (w16 a) (w16 b) = w16 (a ^^^ b) := by
  rw [bits16, ofInt_w16, ofInt_w16, wrap16_id]
theorem xor8 (a b : BitVec 8) : Go.bits .xor .u8 (w8 a) (w8 b) = w8 (a ^^^ b) := by
  rw [bits8, ofInt_w8, ofInt_w8, wrap8_id]
theorem and16 (a : BitVec 16) : (Go.bits .and .u16 (w16 a) 32768 = 0) ↔ a.msb = false := by
  rw [ands16, ofInt_w16, wrap16_id]
  have h : w16 (a &&& BitVec.ofInt 16 32768) = 0 ↔ a &&& BitVec.ofInt 16 32768 = 0 := (w16_inj (b := 0))
  rw [h]
  constructor
  · intro h
    have := congrArg BitVec.msb h
    rw [BitVec.msb_and] at this
    have h2 : (BitVec.ofInt 16 32768).msb = true := by decide
    rw [h2] at this
    simpa using this
  · intro h
    apply BitVec.eq_of_getLsbD_eq
    intro i hi
    have h2 : ∀ j : Fin 16, (BitVec.ofInt 16 32768).getLsbD j.val = decide (j.val = 15) := by decide
    rw [BitVec.getLsbD_and, h2 ⟨i, hi⟩]
    rw [BitVec.msb_eq_getLsbD_last] at h
    by_cases h3 : i = 15
    · subst h3; simp at h; simp [h]
    · simp [h3]
theorem dbl16 (a : BitVec 16) : IntKind.u16.wrap (w16 a * 2) = w16 (a <<< 1) := by
  have h : w16 a * 2 = ((a.toNat * 2 : Nat) : Int) := by unfold w16; omega
  rw [h, wrap16]
  unfold w16
  rw [BitVec.toNat_shiftLeft, Nat.shiftLeft_eq]
theorem up16 (x : BitVec 8) : IntKind.u16.wrap ((IntKind.u16.wrap (w8 x)) * 256) = w16 (up x) := by
  have h0 : w8 x = ((x.toNat : Nat) : Int) := rfl
  have hx := x.isLt
  rw [h0, wrap16]
  have h : ((x.toNat % 65536 : Nat) : Int) * 256 = ((x.toNat % 65536 * 256 : Nat) : Int) := by omega
  rw [h, wrap16]
  unfold w16 up
  rw [BitVec.toNat_shiftLeft, Nat.shiftLeft_eq, BitVec.toNat_setWidth]
theorem hi8 (s : BitVec 16) : w16 s / (256 : Int) % (256 : Int) = w8 ((s >>> 8).setWidth 8) := by
  unfold w8 w16
  rw [BitVec.toNat_setWidth, BitVec.toNat_ushiftRight, Nat.shiftRight_eq_div_pow]
  omega
theorem lo8 (s : BitVec 16) : w16 s % (256 : Int) = w8 (s.setWidth 8) := by
  unfold w8 w16
  rw [BitVec.toNat_setWidth]
  omega
theorem shl8 (s : BitVec 16) : IntKind.u16.wrap (w16 s * 256) = w16 (s <<< 8) := by
  have h : w16 s * 256 = ((s.toNat * 256 : Nat) : Int) := by unfold w16; omega
  rw [h, wrap16]
  unfold w16
  rw [BitVec.toNat_shiftLeft, Nat.shiftLeft_eq]
theorem turned16 : (4129 : Int) = w16 0x1021#16 := rfl
theorem w16_of (n : Int) (h0 : 0 ≤ n) (h : n < 65536) : ∃ s : BitVec 16, n = w16 s := ⟨BitVec.ofNat 16 n.toNat, by unfold w16; rw [BitVec.toNat_ofNat]; omega⟩
theorem w8_of (n : Int) (h0 : 0 ≤ n) (h : n < 256) : ∃ s : BitVec 8, n = w8 s := ⟨BitVec.ofNat 8 n.toNat, by unfold w8; rw [BitVec.toNat_ofNat]; omega⟩
theorem wf16 (n : Int) (h : (Lit.int .u16 n).wf = true) : ∃ s : BitVec 16, n = w16 s := by
  simp [Lit.wf, IntKind.min, IntKind.max, IntKind.bits, IntKind.signed] at h
  exact w16_of n (by omega) (by omega)
theorem wf8 (n : Int) (h : (Lit.int .u8 n).wf = true) : ∃ s : BitVec 8, n = w8 s := by
  simp [Lit.wf, IntKind.min, IntKind.max, IntKind.bits, IntKind.signed] at h
  exact w8_of n (by omega) (by omega)
theorem wf8s (l : List Int) (h : ∀ x ∈ l, (Lit.int .u8 x).wf = true) : ∃ m : List (BitVec 8), l = m.map w8 := by
  induction l with
  | nil => exact ⟨[], rfl⟩
  | cons x l ih =>
    obtain ⟨m, hm⟩ := ih (fun y hy => h y (List.mem_cons_of_mem _ hy))
    obtain ⟨s, hs⟩ := wf8 x (h x (List.mem_cons_self ..))
    exact ⟨s :: m, by rw [hm, hs]; rfl⟩

end Go.Proofs.YtdipdpkdmiokeaaDoor.CrcMath
