/- Chapter 7 over the plain heap: a sample's frame, and back. -/
import Derived.Test.YtdmfedmhcegggaaDoorSen1
import Derived.Test.YtdmfedmhcegggaaDoorSim21
namespace Go.Proofs.YtdmfedmhcegggaaDoor.Sim
open Go
set_option linter.unusedSimpArgs false
set_option linter.unusedVariables false
theorem wrapu32 (n : Int) : IntKind.u32.wrap n = n % 4294967296 := by
  simp only [IntKind.wrap, IntKind.bits, IntKind.signed]
  simp
theorem wrapi32 (n : Int) : IntKind.i32.wrap n = if 2147483648 ≤ n % 4294967296 then n % 4294967296 - 4294967296 else n % 4294967296 := by
  simp only [IntKind.wrap, IntKind.bits, IntKind.signed]
  simp
theorem orU (k m : Nat) (M : Int) (hm : 2 ^ k = m) (hM : (m : Int) = M) (x y : Int) (h0 : 0 ≤ x) (h1 : 0 ≤ y) (h2 : y < M) (h3 : x * M + y < 4294967296) : IntKind.u32.wrap (BitVec.ofInt IntKind.u32.bits (x * M) ||| BitVec.ofInt IntKind.u32.bits y).toNat = x * M + y := by
  obtain ⟨a, rfl⟩ := Int.eq_ofNat_of_zero_le h0
  obtain ⟨b, rfl⟩ := Int.eq_ofNat_of_zero_le h1
  subst hM
  have c : (a : Int) * (m : Int) = ((a * m : Nat) : Int) := (Int.natCast_mul a m).symm
  rw [c] at h3 ⊢
  have e : ((BitVec.ofInt IntKind.u32.bits ((a * m : Nat) : Int) ||| BitVec.ofInt IntKind.u32.bits (b : Int)).toNat) = a * m + b := by
    show ((BitVec.ofInt 32 ((a * m : Nat) : Int) ||| BitVec.ofInt 32 (b : Int)).toNat) = a * m + b
    rw [BitVec.toNat_or, BitVec.toNat_ofInt, BitVec.toNat_ofInt]
    have e1 : (((a * m : Nat) : Int) % ((2 ^ 32 : Nat) : Int)).toNat = 2 ^ k * a := by
      rw [hm, Nat.mul_comm m a]
      omega
    have e2 : ((b : Int) % ((2 ^ 32 : Nat) : Int)).toNat = b := by omega
    rw [e1, e2, ← Nat.two_pow_add_eq_or_of_lt (by rw [hm]; omega), hm, Nat.mul_comm]
  rw [e, wrapu32]
  omega
theorem shlU (k : Nat) (x m : Int) (hk : k ≤ 32) (hm : (2 : Int) ^ k = m) (h0 : 0 ≤ x * m) (h1 : x * m < 4294967296) : IntKind.u32.wrap (x * 2 ^ (min k IntKind.u32.bits)) = x * m := by
  rw [show min k IntKind.u32.bits = k from Nat.min_eq_left hk, hm, wrapu32]
  exact Int.emod_eq_of_lt h0 h1
theorem shrU (k : Nat) (x m : Int) (hk : k ≤ 32) (hm : (2 : Int) ^ k = m) (h0 : 0 < m) : x.fdiv (2 ^ (min k IntKind.u32.bits)) = x / m := by
  rw [show min k IntKind.u32.bits = k from Nat.min_eq_left hk, hm]
  exact Int.fdiv_eq_ediv_of_nonneg _ (by omega)
def pbS (v : Int) : List Int := [v % 4294967296 / 16777216 % 256, v % 4294967296 / 65536 % 256, v % 4294967296 / 256 % 256, v % 4294967296 % 256]
theorem small32 (v : Int) (h0 : -500000 ≤ v) (h1 : v ≤ 500000) : IntKind.u32.wrap (IntKind.i32.wrap v) = v % 4294967296 := by
  rw [wrapu32, wrapi32]
  split <;> omega
theorem sputBad_f (on : Nat → Bool) (ch s v : Int) (H : Heap) (h : EH on H) (ho : on 0 = true) (hg : ¬ OkS ch v) :
    ∃ X, D Tryd.prog hints 36 [.int .i64 ch, .int .u8 s, .int .i64 v] H = some (.tuple ⟨[.agg ⟨zeroF⟩, Err 0]⟩, H ++ X) := by
  obtain ⟨X, e⟩ := mayS_f ch v (H ++ [some ⟨true, 27, zeroF⟩])
  have hd : decide (OkS ch v) = false := by simpa using hg
  rw [hd] at e
  simp only [K, zeroF] at e
  obtain ⟨t0, e0⟩ := h 0 (by omega) ho
  have i0 := live_lt e0
  refine ⟨?X1, ?run1⟩
  case run1 =>
    rw [D_eq p36 _ _ (Nat.le_of_ble_eq_true rfl)]
    simp (maxDischargeDepth := 8) only [r36, b36, c36_0, c36_1, c36_2, zeroF, e, e0, i0, g0, RUN, Ed, knd, kndR, resV, binInt, mnmxV, mnmx2, fillL, unV, lenV, extractV, partV, loadAt, Nat.reduceAdd, Nat.reduceBEq, Nat.reduceEqDiff, Nat.reduceLT, Nat.reduceLeDiff, Nat.reduceMul, Nat.reduceSub, reduceIte, Int.reduceEq, Int.reduceNe, Int.reduceLT, Int.reduceLE, Int.reduceAdd, Int.reduceSub, Int.reduceMul, Int.reduceNeg, Int.reduceMod, Int.reduceDiv, Int.reduceTMod, Int.reduceTDiv, Int.reduceToNat, okChain_i, okLoads_nil, okLoads_in, okLoads_eq]
    rfl
/-- The frame lies anywhere; its bytes too. -/
def Fr4 (H : Heap) (ch s : Int) (l : List Int) (fr : List Value) (X : Heap) : Prop := ∃ i, fr = [.int .u8 (ch % 256), .int .u8 s, .slice (some ⟨i, 0, none⟩) 4 1] ∧ live (H ++ X) i = some ⟨true, 5, bL l⟩
theorem sputGood_f (ch s v : Int) (H : Heap) (hg : OkS ch v) :
    ∃ fr X, D Tryd.prog hints 36 [.int .i64 ch, .int .u8 s, .int .i64 v] H = some (.tuple ⟨[.agg ⟨fr⟩, .nilIface]⟩, H ++ X) ∧ Fr4 H ch s (pbS v) fr X := by
  obtain ⟨X, e⟩ := mayS_f ch v (H ++ [some ⟨true, 27, zeroF⟩])
  have hd : decide (OkS ch v) = true := by simpa using hg
  rw [hd] at e
  simp only [K, zeroF] at e
  obtain ⟨q1, q2, q3, q4⟩ := OkS_iv ch v hg
  have w := small32 v q3 q4
  have s24 := shrU 24 (v % 4294967296) 16777216 (by omega) (by decide) (by omega)
  have s16 := shrU 16 (v % 4294967296) 65536 (by omega) (by decide) (by omega)
  have s8 := shrU 8 (v % 4294967296) 256 (by omega) (by decide) (by omega)
  refine ⟨[.int .u8 (ch % 256), .int .u8 s, .slice (some ⟨H.length + (X.length + 1), 0, none⟩) 4 1], ?X1, ?run1, _, rfl, ?l1⟩
  case run1 =>
    rw [D_eq p36 _ _ (Nat.le_of_ble_eq_true rfl)]
    simp (maxDischargeDepth := 8) only [r36, b36, c36_0, c36_1, c36_2, c36_3, c36_4, e, w, s24, s16, s8, wrapu8, RUN, Ed, knd, kndR, resV, binInt, mnmxV, mnmx2, fillL, unV, lenV, extractV, partV, loadAt, Nat.reduceAdd, Nat.reduceBEq, Nat.reduceEqDiff, Nat.reduceLT, Nat.reduceLeDiff, Nat.reduceMul, Nat.reduceSub, reduceIte, Int.reduceEq, Int.reduceNe, Int.reduceLT, Int.reduceLE, Int.reduceAdd, Int.reduceSub, Int.reduceMul, Int.reduceNeg, Int.reduceMod, Int.reduceDiv, Int.reduceTMod, Int.reduceTDiv, Int.reduceToNat, okChain_i, okLoads_nil, okLoads_in, okLoads_eq]
    rfl
  case l1 =>
    rw [live_app_add, show X.length + 1 = 1 + X.length by omega]
    exact (live_app_add [_] _ X.length).trans ((live_app_len X _).trans rfl)
theorem squtBad_f (ch s v : Int) (H : Heap) (hg : ¬ OkS ch v) :
    ∃ X, D Tryd.prog hints 37 [.int .i64 ch, .int .u8 s, .int .i64 v] H = some (.tuple ⟨[.agg ⟨zeroF⟩, .int .i64 101]⟩, H ++ X) := by
  have e1 := fun G => range2_f ch G
  have e2 := fun G => has2_f (rgS ch).1 (rgS ch).2.1 v G
  obtain ⟨lo, hi, is, hz⟩ : ∃ lo hi is, rgS ch = (lo, hi, is) := ⟨_, _, _, rfl⟩
  have hk : OkS ch v ↔ (is = true ∧ lo ≤ v ∧ v ≤ hi) := by unfold OkS; rw [hz]
  rw [hz] at e1 e2
  simp only [K] at e1 e2
  rw [hk] at hg
  cases is
  · refine ⟨?X1, ?run1⟩
    case run1 =>
      rw [D_eq p37 _ _ (Nat.le_of_ble_eq_true rfl)]
      simp (maxDischargeDepth := 8) only [r37, b37, c37_0, c37_1, c37_2, c37_3, zeroF, e1, e2, RUN, Ed, knd, kndR, resV, binInt, mnmxV, mnmx2, fillL, unV, lenV, extractV, partV, loadAt, Nat.reduceAdd, Nat.reduceBEq, Nat.reduceEqDiff, Nat.reduceLT, Nat.reduceLeDiff, Nat.reduceMul, Nat.reduceSub, reduceIte, Int.reduceEq, Int.reduceNe, Int.reduceLT, Int.reduceLE, Int.reduceAdd, Int.reduceSub, Int.reduceMul, Int.reduceNeg, Int.reduceMod, Int.reduceDiv, Int.reduceTMod, Int.reduceTDiv, Int.reduceToNat, okChain_i, okLoads_nil, okLoads_in, okLoads_eq]
      rfl
  · have hd : decide (lo ≤ v ∧ v ≤ hi) = false := by simpa using hg
    refine ⟨?X2, ?run2⟩
    case run2 =>
      rw [D_eq p37 _ _ (Nat.le_of_ble_eq_true rfl)]
      simp (maxDischargeDepth := 8) only [r37, b37, c37_0, c37_1, c37_2, c37_3, zeroF, e1, e2, hd, RUN, Ed, knd, kndR, resV, binInt, mnmxV, mnmx2, fillL, unV, lenV, extractV, partV, loadAt, Nat.reduceAdd, Nat.reduceBEq, Nat.reduceEqDiff, Nat.reduceLT, Nat.reduceLeDiff, Nat.reduceMul, Nat.reduceSub, reduceIte, Int.reduceEq, Int.reduceNe, Int.reduceLT, Int.reduceLE, Int.reduceAdd, Int.reduceSub, Int.reduceMul, Int.reduceNeg, Int.reduceMod, Int.reduceDiv, Int.reduceTMod, Int.reduceTDiv, Int.reduceToNat, okChain_i, okLoads_nil, okLoads_in, okLoads_eq]
      rfl
theorem squtGood_f (ch s v : Int) (H : Heap) (hg : OkS ch v) :
    ∃ fr X, D Tryd.prog hints 37 [.int .i64 ch, .int .u8 s, .int .i64 v] H = some (.tuple ⟨[.agg ⟨fr⟩, .int .i64 0]⟩, H ++ X) ∧ Fr4 H ch s (pbS v) fr X := by
  have e1 := fun G => range2_f ch G
  have e2 := fun G => has2_f (rgS ch).1 (rgS ch).2.1 v G
  obtain ⟨q1, q2, q3, q4⟩ := OkS_iv ch v hg
  have w := small32 v q3 q4
  have s24 := shrU 24 (v % 4294967296) 16777216 (by omega) (by decide) (by omega)
  have s16 := shrU 16 (v % 4294967296) 65536 (by omega) (by decide) (by omega)
  have s8 := shrU 8 (v % 4294967296) 256 (by omega) (by decide) (by omega)
  obtain ⟨lo, hi, is, hz⟩ : ∃ lo hi is, rgS ch = (lo, hi, is) := ⟨_, _, _, rfl⟩
  have hk : OkS ch v ↔ (is = true ∧ lo ≤ v ∧ v ≤ hi) := by unfold OkS; rw [hz]
  rw [hz] at e1 e2
  simp only [K] at e1 e2
  rw [hk] at hg
  obtain ⟨rfl, hlh⟩ := hg
  have hd : decide (lo ≤ v ∧ v ≤ hi) = true := by simpa using hlh
  refine ⟨[.int .u8 (ch % 256), .int .u8 s, .slice (some ⟨H.length + 4, 0, none⟩) 4 1], ?X1, ?run1, _, rfl, ?l1⟩
  case run1 =>
    rw [D_eq p37 _ _ (Nat.le_of_ble_eq_true rfl)]
    simp (maxDischargeDepth := 8) only [r37, b37, c37_0, c37_1, c37_2, c37_3, c37_4, c37_5, e1, e2, hd, w, s24, s16, s8, wrapu8, RUN, Ed, knd, kndR, resV, binInt, mnmxV, mnmx2, fillL, unV, lenV, extractV, partV, loadAt, Nat.reduceAdd, Nat.reduceBEq, Nat.reduceEqDiff, Nat.reduceLT, Nat.reduceLeDiff, Nat.reduceMul, Nat.reduceSub, reduceIte, Int.reduceEq, Int.reduceNe, Int.reduceLT, Int.reduceLE, Int.reduceAdd, Int.reduceSub, Int.reduceMul, Int.reduceNeg, Int.reduceMod, Int.reduceDiv, Int.reduceTMod, Int.reduceTDiv, Int.reduceToNat, okChain_i, okLoads_nil, okLoads_in, okLoads_eq]
    rfl
  case l1 => exact (live_app_add _ _ _).trans rfl
def val4 (B : List Int) : Int := ((B.getD 0 0 * 256 + B.getD 1 0) * 256 + B.getD 2 0) * 256 + B.getD 3 0
def rdS (id : Int) (B : List Int) : Int × Int × Option Nat :=
  if (rgS id).2.2 = true then (if (B.length : Int) < 4 then (0, 0, some 2) else if (4 : Int) < B.length then (0, 0, some 1) else if OkS id (IntKind.i32.wrap (val4 B)) then (id, IntKind.i32.wrap (val4 B), none) else (0, 0, some 0)) else (0, 0, some 0)
theorem rdS_e (id : Int) (B : List Int) : ∀ i, (rdS id B).2.2 = some i → i < 7 := by
  intro i h
  unfold rdS at h
  split at h
  · split at h
    · cases h; omega
    · split at h
      · cases h; omega
      · split at h
        · cases h
        · cases h; omega
  · cases h; omega
theorem four_f {H : Heap} {v : Value} {B : List Int} (hB : BS H v B) (h4 : B.length = 4) : ∃ b0 b1 b2 b3 i o e ow ty cells, B = [b0, b1, b2, b3] ∧ v = .slice (some ⟨i, o, none⟩) 4 e ∧ live H i = some ⟨ow, ty, cells⟩ ∧ cells[o]? = some (.int .u8 b0) ∧ cells[o + 1]? = some (.int .u8 b1) ∧ cells[o + 2]? = some (.int .u8 b2) ∧ cells[o + 3]? = some (.int .u8 b3) := by
  match B, h4 with
  | [b0, b1, b2, b3], _ =>
    rcases hB with ⟨h, _⟩ | ⟨i, o, e, ow, ty, cells, h1, h2, h3⟩
    · cases h
    · exact ⟨b0, b1, b2, b3, i, o, e, ow, ty, cells, rfl, h1, h2, h3 0 _ rfl, h3 1 _ rfl, h3 2 _ rfl, h3 3 _ rfl⟩
theorem i32_range (n : Int) : -2147483648 ≤ IntKind.i32.wrap n ∧ IntKind.i32.wrap n < 2147483648 := by
  rw [wrapi32]
  split <;> omega
theorem idx4 (i o e k : Nat) (hk : k < 4) : idxSV 1 (.slice (some ⟨i, o, none⟩) 4 e) (.int .i64 k) = some (.pointer (some ⟨i, o + k, none⟩)) := by
  rw [idxS_s _ _ _ _ _ _ _ (by omega) (by omega)]; simp
theorem readS_f (on : Nat → Bool) (h0 : on 0 = true) (h1 : on 1 = true) (h2 : on 2 = true) (id s : Int) (hid : 0 ≤ id ∧ id < 256) (v : Value) (B : List Int) (hb : ∀ b ∈ B, 0 ≤ b ∧ b < 256) (G : Heap) (hE : EH on G) (hB : BS G v B) :
    ∃ X, D Tryd.prog hints 33 [.agg ⟨[.int .u8 id, .int .u8 s, v]⟩] G = some (.tuple ⟨[.int .i64 (rdS id B).1, .int .i64 (rdS id B).2.1, EV (rdS id B).2.2]⟩, G ++ X) := by
  obtain ⟨o1, o2⟩ := hB.one
  have l := hB.len
  obtain ⟨t0, e0⟩ := hE 0 (by omega) h0
  obtain ⟨t1, e1⟩ := hE 1 (by omega) h1
  obtain ⟨t2, e2⟩ := hE 2 (by omega) h2
  have i0 := live_lt e0
  have i1 := live_lt e1
  have i2 := live_lt e2
  have er := fun F => range_f id F
  obtain ⟨lo, hi, is, hz⟩ : ∃ lo hi is, rgS id = (lo, hi, is) := ⟨_, _, _, rfl⟩
  rw [hz] at er
  simp only [K] at er
  have wid := wrap64 id (by omega) (by omega)
  cases is
  · have es : rdS id B = (0, 0, some 0) := by unfold rdS; rw [hz]; exact if_neg (by simp)
    refine ⟨?X1, ?run1⟩
    case run1 =>
      rw [D_eq p33 _ _ (Nat.le_of_ble_eq_true rfl)]
      simp (maxDischargeDepth := 8) only [r33, b33, c33_0, c33_1, c33_2, c33_3, c33_4, es, EV, er, wid, l, o1, o2, e0, i0, g0, RUN, Ed, knd, kndR, resV, binInt, mnmxV, mnmx2, fillL, unV, extractV, partV, loadAt, Nat.reduceAdd, Nat.reduceBEq, Nat.reduceEqDiff, Nat.reduceLT, Nat.reduceLeDiff, Nat.reduceMul, Nat.reduceSub, reduceIte, Int.reduceEq, Int.reduceNe, Int.reduceLT, Int.reduceLE, Int.reduceAdd, Int.reduceSub, Int.reduceMul, Int.reduceNeg, Int.reduceMod, Int.reduceDiv, Int.reduceTMod, Int.reduceTDiv, Int.reduceToNat, okChain_i, okLoads_nil, okLoads_in, okLoads_eq]
      rfl
  · have hz2 : (rgS id).2.2 = true := by rw [hz]
    by_cases k1 : (B.length : Int) < 4
    · have es : rdS id B = (0, 0, some 2) := by unfold rdS; rw [if_pos hz2, if_pos k1]
      refine ⟨?X2, ?run2⟩
      case run2 =>
        rw [D_eq p33 _ _ (Nat.le_of_ble_eq_true rfl)]
        simp (maxDischargeDepth := 8) only [r33, b33, c33_0, c33_1, c33_2, c33_3, c33_4, c33_5, c33_6, es, EV, er, wid, l, o1, o2, e2, i2, g1, k1, RUN, Ed, knd, kndR, resV, binInt, mnmxV, mnmx2, fillL, unV, extractV, partV, loadAt, Nat.reduceAdd, Nat.reduceBEq, Nat.reduceEqDiff, Nat.reduceLT, Nat.reduceLeDiff, Nat.reduceMul, Nat.reduceSub, reduceIte, Int.reduceEq, Int.reduceNe, Int.reduceLT, Int.reduceLE, Int.reduceAdd, Int.reduceSub, Int.reduceMul, Int.reduceNeg, Int.reduceMod, Int.reduceDiv, Int.reduceTMod, Int.reduceTDiv, Int.reduceToNat, okChain_i, okLoads_nil, okLoads_in, okLoads_eq]
        rfl
    · by_cases k2 : (4 : Int) < (B.length : Int)
      · have es : rdS id B = (0, 0, some 1) := by unfold rdS; rw [if_pos hz2, if_neg k1, if_pos k2]
        refine ⟨?X3, ?run3⟩
        case run3 =>
          rw [D_eq p33 _ _ (Nat.le_of_ble_eq_true rfl)]
          simp (maxDischargeDepth := 8) only [r33, b33, c33_0, c33_1, c33_2, c33_3, c33_4, c33_5, c33_6, c33_7, c33_8, es, EV, er, wid, l, o1, o2, e1, i1, g2, k1, k2, RUN, Ed, knd, kndR, resV, binInt, mnmxV, mnmx2, fillL, unV, extractV, partV, loadAt, Nat.reduceAdd, Nat.reduceBEq, Nat.reduceEqDiff, Nat.reduceLT, Nat.reduceLeDiff, Nat.reduceMul, Nat.reduceSub, reduceIte, Int.reduceEq, Int.reduceNe, Int.reduceLT, Int.reduceLE, Int.reduceAdd, Int.reduceSub, Int.reduceMul, Int.reduceNeg, Int.reduceMod, Int.reduceDiv, Int.reduceTMod, Int.reduceTDiv, Int.reduceToNat, okChain_i, okLoads_nil, okLoads_in, okLoads_eq]
          rfl
      · obtain ⟨b0, b1, b2, b3, i, o, e, ow, ty, cells, rfl, rfl, f0, f1, f2, f3, f4⟩ := four_f hB (by omega)
        have q0 := hb b0 (by simp)
        have q1 := hb b1 (by simp)
        have q2 := hb b2 (by simp)
        have q3 := hb b3 (by simp)
        have ii := live_lt f0
        have v0 : IntKind.u32.wrap b0 = b0 := by rw [wrapu32]; omega
        have v1 : IntKind.u32.wrap b1 = b1 := by rw [wrapu32]; omega
        have v2 : IntKind.u32.wrap b2 = b2 := by rw [wrapu32]; omega
        have v3 : IntKind.u32.wrap b3 = b3 := by rw [wrapu32]; omega
        have s1 := shlU 8 b0 256 (by omega) (by decide) (by omega) (by omega)
        have s2 := shlU 8 (b0 * 256 + b1) 256 (by omega) (by decide) (by omega) (by omega)
        have s3 := shlU 8 ((b0 * 256 + b1) * 256 + b2) 256 (by omega) (by decide) (by omega) (by omega)
        have u0 : IntKind.u32.wrap (BitVec.ofInt IntKind.u32.bits 0 ||| BitVec.ofInt IntKind.u32.bits b0).toNat = b0 := by
          have := orU 8 256 256 rfl rfl 0 b0 (by omega) (by omega) (by omega) (by omega)
          rw [Int.zero_mul, Int.zero_add] at this
          exact this
        have u1 := orU 8 256 256 rfl rfl b0 b1 (by omega) (by omega) (by omega) (by omega)
        have u2 := orU 8 256 256 rfl rfl (b0 * 256 + b1) b2 (by omega) (by omega) (by omega) (by omega)
        have u3 := orU 8 256 256 rfl rfl ((b0 * 256 + b1) * 256 + b2) b3 (by omega) (by omega) (by omega) (by omega)
        obtain ⟨V, hV⟩ : ∃ V, V = ((b0 * 256 + b1) * 256 + b2) * 256 + b3 := ⟨_, rfl⟩
        rw [← hV] at u3
        have hval : val4 [b0, b1, b2, b3] = V := hV.symm
        obtain ⟨W, hW⟩ : ∃ W, W = IntKind.i32.wrap V := ⟨_, rfl⟩
        have hWr := i32_range V
        rw [← hW] at hWr
        have wW := wrap64 W (by omega) (by omega)
        have x0 : idxSV 1 (.slice (some ⟨i, o, none⟩) 4 e) (.int .i64 0) = some (.pointer (some ⟨i, o, none⟩)) := idx4 i o e 0 (by omega)
        have x1 : idxSV 1 (.slice (some ⟨i, o, none⟩) 4 e) (.int .i64 1) = some (.pointer (some ⟨i, o + 1, none⟩)) := idx4 i o e 1 (by omega)
        have x2 : idxSV 1 (.slice (some ⟨i, o, none⟩) 4 e) (.int .i64 2) = some (.pointer (some ⟨i, o + 2, none⟩)) := idx4 i o e 2 (by omega)
        have x3 : idxSV 1 (.slice (some ⟨i, o, none⟩) 4 e) (.int .i64 3) = some (.pointer (some ⟨i, o + 3, none⟩)) := idx4 i o e 3 (by omega)
        have a0 : (0 : Int) < ((4 : Nat) : Int) := by decide
        have a1 : (1 : Int) < ((4 : Nat) : Int) := by decide
        have a2 : (2 : Int) < ((4 : Nat) : Int) := by decide
        have a3 : (3 : Int) < ((4 : Nat) : Int) := by decide
        have a4 : ¬ ((4 : Int) < ((4 : Nat) : Int)) := by decide
        have n4 : ¬ (((4 : Nat) : Int) < 4) := by decide
        have z0 : IntKind.u32.wrap 0 = 0 := rfl
        obtain ⟨XM, em⟩ := mayS_f id W (G ++ [some ⟨true, 27, [.int .u8 id, .int .u8 s, .slice (some ⟨i, o, none⟩) 4 e]⟩, some ⟨true, 68, [.int .i64 lo, .int .i64 hi]⟩, some ⟨true, 68, [.int .i64 lo, .int .i64 hi]⟩, some ⟨true, 68, [.int .i64 lo, .int .i64 hi]⟩])
        by_cases hg : OkS id W
        · have es : rdS id [b0, b1, b2, b3] = (id, W, none) := by unfold rdS; rw [if_pos hz2, if_neg k1, if_neg k2, hval, ← hW, if_pos hg]
          rw [show decide (OkS id W) = true by simpa using hg] at em
          simp only [K] at em
          refine ⟨?X4, ?run4⟩
          case run4 =>
            rw [D_eq p33 _ _ (Nat.le_of_ble_eq_true rfl)]
            simp (maxDischargeDepth := 8) only [r33, b33, c33_0, c33_1, c33_2, c33_3, c33_4, c33_5, c33_6, c33_7, c33_8, c33_9, c33_10, es, EV, er, wid, a4, n4, RUN, Ed, knd, kndR, resV, binInt, mnmxV, mnmx2, fillL, unV, lenV, extractV, partV, loadAt, Nat.reduceAdd, Nat.reduceBEq, Nat.reduceEqDiff, Nat.reduceLT, Nat.reduceLeDiff, Nat.reduceMul, Nat.reduceSub, reduceIte, Int.reduceEq, Int.reduceNe, Int.reduceLT, Int.reduceLE, Int.reduceAdd, Int.reduceSub, Int.reduceMul, Int.reduceNeg, Int.reduceMod, Int.reduceDiv, Int.reduceTMod, Int.reduceTDiv, Int.reduceToNat, okChain_i, okLoads_nil, okLoads_in, okLoads_eq]
            rw [El]
            simp (maxDischargeDepth := 8) only [l33_0, c33_11, c33_12, c33_13, c33_14, f0, f1, f2, f3, f4, ii, x0, x1, x2, x3, a0, a1, a2, a3, a4, z0, u0, v0, Int.zero_mul, RUN, Ed, knd, kndR, resV, binInt, mnmxV, mnmx2, fillL, unV, lenV, extractV, partV, loadAt, Nat.reduceAdd, Nat.reduceBEq, Nat.reduceEqDiff, Nat.reduceLT, Nat.reduceLeDiff, Nat.reduceMul, Nat.reduceSub, reduceIte, Int.reduceEq, Int.reduceNe, Int.reduceLT, Int.reduceLE, Int.reduceAdd, Int.reduceSub, Int.reduceMul, Int.reduceNeg, Int.reduceMod, Int.reduceDiv, Int.reduceTMod, Int.reduceTDiv, Int.reduceToNat, okChain_i, okLoads_nil, okLoads_in, okLoads_eq]
            rw [El]
            simp (maxDischargeDepth := 8) only [l33_0, c33_11, c33_12, c33_13, c33_14, f0, f1, f2, f3, f4, ii, x0, x1, x2, x3, a0, a1, a2, a3, a4, s1, u1, v1, RUN, Ed, knd, kndR, resV, binInt, mnmxV, mnmx2, fillL, unV, lenV, extractV, partV, loadAt, Nat.reduceAdd, Nat.reduceBEq, Nat.reduceEqDiff, Nat.reduceLT, Nat.reduceLeDiff, Nat.reduceMul, Nat.reduceSub, reduceIte, Int.reduceEq, Int.reduceNe, Int.reduceLT, Int.reduceLE, Int.reduceAdd, Int.reduceSub, Int.reduceMul, Int.reduceNeg, Int.reduceMod, Int.reduceDiv, Int.reduceTMod, Int.reduceTDiv, Int.reduceToNat, okChain_i, okLoads_nil, okLoads_in, okLoads_eq]
            rw [El]
            simp (maxDischargeDepth := 8) only [l33_0, c33_11, c33_12, c33_13, c33_14, f0, f1, f2, f3, f4, ii, x0, x1, x2, x3, a0, a1, a2, a3, a4, s2, u2, v2, RUN, Ed, knd, kndR, resV, binInt, mnmxV, mnmx2, fillL, unV, lenV, extractV, partV, loadAt, Nat.reduceAdd, Nat.reduceBEq, Nat.reduceEqDiff, Nat.reduceLT, Nat.reduceLeDiff, Nat.reduceMul, Nat.reduceSub, reduceIte, Int.reduceEq, Int.reduceNe, Int.reduceLT, Int.reduceLE, Int.reduceAdd, Int.reduceSub, Int.reduceMul, Int.reduceNeg, Int.reduceMod, Int.reduceDiv, Int.reduceTMod, Int.reduceTDiv, Int.reduceToNat, okChain_i, okLoads_nil, okLoads_in, okLoads_eq]
            rw [El]
            simp (maxDischargeDepth := 8) only [l33_0, c33_11, c33_12, c33_13, c33_14, f0, f1, f2, f3, f4, ii, x0, x1, x2, x3, a0, a1, a2, a3, a4, s3, u3, v3, RUN, Ed, knd, kndR, resV, binInt, mnmxV, mnmx2, fillL, unV, lenV, extractV, partV, loadAt, Nat.reduceAdd, Nat.reduceBEq, Nat.reduceEqDiff, Nat.reduceLT, Nat.reduceLeDiff, Nat.reduceMul, Nat.reduceSub, reduceIte, Int.reduceEq, Int.reduceNe, Int.reduceLT, Int.reduceLE, Int.reduceAdd, Int.reduceSub, Int.reduceMul, Int.reduceNeg, Int.reduceMod, Int.reduceDiv, Int.reduceTMod, Int.reduceTDiv, Int.reduceToNat, okChain_i, okLoads_nil, okLoads_in, okLoads_eq]
            rw [El]
            simp (maxDischargeDepth := 8) only [l33_0, c33_11, c33_12, c33_13, c33_14, c33_15, c33_16, c33_17, c33_18, a4, ← hW, wW, em, RUN, Ed, knd, kndR, resV, binInt, mnmxV, mnmx2, fillL, unV, lenV, extractV, partV, loadAt, Nat.reduceAdd, Nat.reduceBEq, Nat.reduceEqDiff, Nat.reduceLT, Nat.reduceLeDiff, Nat.reduceMul, Nat.reduceSub, reduceIte, Int.reduceEq, Int.reduceNe, Int.reduceLT, Int.reduceLE, Int.reduceAdd, Int.reduceSub, Int.reduceMul, Int.reduceNeg, Int.reduceMod, Int.reduceDiv, Int.reduceTMod, Int.reduceTDiv, Int.reduceToNat, okChain_i, okLoads_nil, okLoads_in, okLoads_eq]
            rfl
        · have es : rdS id [b0, b1, b2, b3] = (0, 0, some 0) := by unfold rdS; rw [if_pos hz2, if_neg k1, if_neg k2, hval, ← hW, if_neg hg]
          rw [show decide (OkS id W) = false by simpa using hg] at em
          simp only [K] at em
          refine ⟨?X5, ?run5⟩
          case run5 =>
            rw [D_eq p33 _ _ (Nat.le_of_ble_eq_true rfl)]
            simp (maxDischargeDepth := 8) only [r33, b33, c33_0, c33_1, c33_2, c33_3, c33_4, c33_5, c33_6, c33_7, c33_8, c33_9, c33_10, es, EV, er, wid, a4, n4, RUN, Ed, knd, kndR, resV, binInt, mnmxV, mnmx2, fillL, unV, lenV, extractV, partV, loadAt, Nat.reduceAdd, Nat.reduceBEq, Nat.reduceEqDiff, Nat.reduceLT, Nat.reduceLeDiff, Nat.reduceMul, Nat.reduceSub, reduceIte, Int.reduceEq, Int.reduceNe, Int.reduceLT, Int.reduceLE, Int.reduceAdd, Int.reduceSub, Int.reduceMul, Int.reduceNeg, Int.reduceMod, Int.reduceDiv, Int.reduceTMod, Int.reduceTDiv, Int.reduceToNat, okChain_i, okLoads_nil, okLoads_in, okLoads_eq]
            rw [El]
            simp (maxDischargeDepth := 8) only [l33_0, c33_11, c33_12, c33_13, c33_14, f0, f1, f2, f3, f4, ii, x0, x1, x2, x3, a0, a1, a2, a3, a4, z0, u0, v0, Int.zero_mul, RUN, Ed, knd, kndR, resV, binInt, mnmxV, mnmx2, fillL, unV, lenV, extractV, partV, loadAt, Nat.reduceAdd, Nat.reduceBEq, Nat.reduceEqDiff, Nat.reduceLT, Nat.reduceLeDiff, Nat.reduceMul, Nat.reduceSub, reduceIte, Int.reduceEq, Int.reduceNe, Int.reduceLT, Int.reduceLE, Int.reduceAdd, Int.reduceSub, Int.reduceMul, Int.reduceNeg, Int.reduceMod, Int.reduceDiv, Int.reduceTMod, Int.reduceTDiv, Int.reduceToNat, okChain_i, okLoads_nil, okLoads_in, okLoads_eq]
            rw [El]
            simp (maxDischargeDepth := 8) only [l33_0, c33_11, c33_12, c33_13, c33_14, f0, f1, f2, f3, f4, ii, x0, x1, x2, x3, a0, a1, a2, a3, a4, s1, u1, v1, RUN, Ed, knd, kndR, resV, binInt, mnmxV, mnmx2, fillL, unV, lenV, extractV, partV, loadAt, Nat.reduceAdd, Nat.reduceBEq, Nat.reduceEqDiff, Nat.reduceLT, Nat.reduceLeDiff, Nat.reduceMul, Nat.reduceSub, reduceIte, Int.reduceEq, Int.reduceNe, Int.reduceLT, Int.reduceLE, Int.reduceAdd, Int.reduceSub, Int.reduceMul, Int.reduceNeg, Int.reduceMod, Int.reduceDiv, Int.reduceTMod, Int.reduceTDiv, Int.reduceToNat, okChain_i, okLoads_nil, okLoads_in, okLoads_eq]
            rw [El]
            simp (maxDischargeDepth := 8) only [l33_0, c33_11, c33_12, c33_13, c33_14, f0, f1, f2, f3, f4, ii, x0, x1, x2, x3, a0, a1, a2, a3, a4, s2, u2, v2, RUN, Ed, knd, kndR, resV, binInt, mnmxV, mnmx2, fillL, unV, lenV, extractV, partV, loadAt, Nat.reduceAdd, Nat.reduceBEq, Nat.reduceEqDiff, Nat.reduceLT, Nat.reduceLeDiff, Nat.reduceMul, Nat.reduceSub, reduceIte, Int.reduceEq, Int.reduceNe, Int.reduceLT, Int.reduceLE, Int.reduceAdd, Int.reduceSub, Int.reduceMul, Int.reduceNeg, Int.reduceMod, Int.reduceDiv, Int.reduceTMod, Int.reduceTDiv, Int.reduceToNat, okChain_i, okLoads_nil, okLoads_in, okLoads_eq]
            rw [El]
            simp (maxDischargeDepth := 8) only [l33_0, c33_11, c33_12, c33_13, c33_14, f0, f1, f2, f3, f4, ii, x0, x1, x2, x3, a0, a1, a2, a3, a4, s3, u3, v3, RUN, Ed, knd, kndR, resV, binInt, mnmxV, mnmx2, fillL, unV, lenV, extractV, partV, loadAt, Nat.reduceAdd, Nat.reduceBEq, Nat.reduceEqDiff, Nat.reduceLT, Nat.reduceLeDiff, Nat.reduceMul, Nat.reduceSub, reduceIte, Int.reduceEq, Int.reduceNe, Int.reduceLT, Int.reduceLE, Int.reduceAdd, Int.reduceSub, Int.reduceMul, Int.reduceNeg, Int.reduceMod, Int.reduceDiv, Int.reduceTMod, Int.reduceTDiv, Int.reduceToNat, okChain_i, okLoads_nil, okLoads_in, okLoads_eq]
            rw [El]
            simp (maxDischargeDepth := 8) only [l33_0, c33_11, c33_12, c33_13, c33_14, c33_15, c33_16, c33_17, c33_18, a4, ← hW, wW, em, e0, i0, g0, RUN, Ed, knd, kndR, resV, binInt, mnmxV, mnmx2, fillL, unV, lenV, extractV, partV, loadAt, Nat.reduceAdd, Nat.reduceBEq, Nat.reduceEqDiff, Nat.reduceLT, Nat.reduceLeDiff, Nat.reduceMul, Nat.reduceSub, reduceIte, Int.reduceEq, Int.reduceNe, Int.reduceLT, Int.reduceLE, Int.reduceAdd, Int.reduceSub, Int.reduceMul, Int.reduceNeg, Int.reduceMod, Int.reduceDiv, Int.reduceTMod, Int.reduceTDiv, Int.reduceToNat, okChain_i, okLoads_nil, okLoads_in, okLoads_eq]
            rfl
end Go.Proofs.YtdmfedmhcegggaaDoor.Sim
