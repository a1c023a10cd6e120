/- Numbers as bytes, the greatest first, over the plain heap. -/
import Derived.Test.YtdipdpkdmiokeaaDoorFr1
import Derived.Test.YtdipdpkdmiokeaaDoorSim21
import Derived.Test.YtdipdpkdmiokeaaDoorSim24
namespace Go.Proofs.YtdipdpkdmiokeaaDoor.Sim
open Go Go.Proofs.YtdipdpkdmiokeaaDoor.CrcMath
set_option linter.unusedSimpArgs false
set_option linter.unusedVariables false
theorem EH.ext {on : Nat → Bool} {H G : Heap} (h : EH on H) (e : Ext H G) : EH on G := fun i hi ho => by obtain ⟨ty, x⟩ := h i hi ho; exact ⟨ty, e.live x⟩
/-- A slice of bytes that was made here. -/
def BO (H G : Heap) (w : Value) (m : List B8) : Prop := SM 5 1 H G w m.length (bL (m.map w8))
theorem BO.BS {H G : Heap} {w : Value} {m : List B8} (h : BO H G w m) : Sim.BS G w (m.map w8) := by
  unfold BO at h
  rw [show m.length = (m.map w8).length by rw [List.length_map]] at h
  exact SM.BS h
theorem BO.len {H G : Heap} {w : Value} {m : List B8} (h : BO H G w m) : lenV false w = some (.int .i64 m.length) := SM.len h
theorem BO.ext {H G F : Heap} {w : Value} {m : List B8} (h : BO H G w m) (e : Ext G F) : BO H F w m := SM.ext h e
theorem BO.nil (H G : Heap) : BO H G (.slice none 0 0) [] := SM.nil _ _ _ _
/-- What a slice grown by appends does to all else. -/
def Kw (w : Value) (G : Heap) (w' : Value) (F : Heap) : Prop := ∀ i b, ¬ owns w i → live G i = some b → live F i = some b ∧ ¬ owns w' i
theorem Kw.refl (w : Value) (G : Heap) : Kw w G w G := fun i b ho hb => ⟨hb, ho⟩
theorem Kw.trans {w w' w'' : Value} {G F E : Heap} (h : Kw w G w' F) (g : Kw w' F w'' E) : Kw w G w'' E := fun i b ho hb => by
  obtain ⟨h1, h2⟩ := h i b ho hb
  exact g i b h2 h1
theorem Kw.ext {w w' : Value} {G F E : Heap} (h : Kw w F w' E) (e : Ext G F) : Kw w G w' E := fun i b ho hb => h i b ho (e.live hb)
theorem BO.app {H G F : Heap} {w : Value} {m k : List B8} (h : BO H G w m) (hG : Ext H G) (hF : Ext G F) {x : Value} (hx : Sim.BS F x (k.map w8)) (hl : m.length + k.length ≤ 1000000) :
    ∃ w' F', appendV 5 1 1 F w x = some (w', F') ∧ BO H F' w' (m ++ k) ∧ Ext H F' ∧ Kw w F w' F' := by
  obtain ⟨c1, c2⟩ := hx.cells
  rw [List.length_map] at c2
  obtain ⟨w', F', h1, h2, h3, h4, h5, _⟩ := SM.appendX (bytes := 1) h hG hF c1 c2 (by rw [bL_len, List.length_map]; omega) (by omega) (bL_one _)
  refine ⟨w', F', h1, ?_, h3, fun i b ho hb => ⟨h4 i b ho hb, h5 i (live_ltG hb) ho⟩⟩
  unfold BO
  rw [List.map_append, bL_app, List.length_append]
  exact h2
theorem BO.noown {H G : Heap} {w : Value} {m : List B8} (h : BO H G w m) {p : Nat} {ow : Bool} {ty : TypeId} {cs : List Value} (hp : live G p = some ⟨ow, ty, cs⟩) (ht : ty ≠ 5) : ¬ owns w p := by
  rintro ⟨n, e, he⟩
  rcases h with ⟨_, rfl, _⟩ | ⟨c, _, rfl, h3, _⟩
  · cases he
  · injection he with he; injection he with he; injection he with he
    subst he
    rw [h3] at hp
    injection hp with hp
    injection hp with _ hp
    exact ht hp.symm
theorem BO.low {H G : Heap} {w : Value} {m : List B8} (h : BO H G w m) {p : Nat} (hp : p < H.length) : ¬ owns w p := by
  rintro ⟨n, e, he⟩
  rcases h with ⟨_, rfl, _⟩ | ⟨c, h1, rfl, h3, _⟩
  · cases he
  · injection he with he; injection he with he; injection he with he; omega
abbrev B64 := BitVec 64
def w64 (n : B64) : Int := (n.toNat : Int)
theorem wrapu64 (n : Nat) : IntKind.u64.wrap (n : Int) = ((n % 18446744073709551616 : Nat) : Int) := by simp [IntKind.wrap, IntKind.bits, IntKind.signed]
theorem ofInt_w64 (s : B64) : BitVec.ofInt 64 (w64 s) = s := by simp [w64]
theorem w64_inj {a b : B64} : w64 a = w64 b ↔ a = b := by
  constructor
  · intro h; rw [← ofInt_w64 a, h, ofInt_w64]
  · rintro rfl; rfl
theorem wrapu64_id (s : B64) : IntKind.u64.wrap (s.toNat : Int) = w64 s := by
  rw [wrapu64, Nat.mod_eq_of_lt s.isLt]; rfl
theorem e64_shl (n : B64) : IntKind.u64.wrap (w64 n * 2 ^ min 8 IntKind.u64.bits) = w64 (n <<< 8) := by
  have h : w64 n * 2 ^ min 8 IntKind.u64.bits = ((n.toNat * 256 : Nat) : Int) := by
    show w64 n * 256 = _
    unfold w64; omega
  rw [h, wrapu64]
  unfold w64
  rw [BitVec.toNat_shiftLeft, Nat.shiftLeft_eq]
theorem e64_or (a b : B64) : IntKind.u64.wrap ((BitVec.ofInt IntKind.u64.bits (w64 a) ||| BitVec.ofInt IntKind.u64.bits (w64 b)).toNat : Int) = w64 (a ||| b) := by
  show IntKind.u64.wrap ((BitVec.ofInt 64 (w64 a) ||| BitVec.ofInt 64 (w64 b)).toNat : Int) = w64 (a ||| b)
  rw [ofInt_w64, ofInt_w64, wrapu64_id]
theorem e64_8 (x : B8) : IntKind.u64.wrap (w8 x) = w64 (x.setWidth 64) := by
  have hx := x.isLt
  unfold w8 w64
  rw [wrapu64, BitVec.toNat_setWidth]
theorem e64_16 (x : BitVec 16) : IntKind.u64.wrap (w16 x) = w64 (x.setWidth 64) := by
  have hx := x.isLt
  unfold w16 w64
  rw [wrapu64, BitVec.toNat_setWidth]
/-- The number's bytes. -/
def be (n : B64) : Nat → List B8
  | 0 => []
  | k + 1 => (n >>> (8 * k)).setWidth 8 :: be n k
theorem be_len (n : B64) (k : Nat) : (be n k).length = k := by
  induction k with
  | zero => rfl
  | succ k ih => simp [be, ih]
theorem be_get (n : B64) : ∀ (k j : Nat), j < k → (be n k)[j]? = some ((n >>> (8 * (k - 1 - j))).setWidth 8) := by
  intro k
  induction k with
  | zero => intro j h; omega
  | succ k ih =>
    intro j h
    cases j with
    | zero => simp [be]
    | succ j => simp only [be, List.getElem?_cons_succ]; rw [ih j (by omega)]; congr 4; omega
theorem e64_shr (n : B64) (k : Nat) (hk : 8 * k ≤ 64) : IntKind.u8.wrap ((w64 n).fdiv (2 ^ min (8 * k) IntKind.u64.bits)) = w8 ((n >>> (8 * k)).setWidth 8) := by
  have hb : IntKind.u64.bits = 64 := rfl
  rw [hb, Nat.min_eq_left hk]
  have h1 : (w64 n).fdiv (2 ^ (8 * k)) = ((n.toNat / 2 ^ (8 * k) : Nat) : Int) := by
    rw [Int.fdiv_eq_ediv_of_nonneg _ (by exact_mod_cast Nat.zero_le _)]
    unfold w64
    push_cast
    rfl
  rw [h1, wrap8]
  unfold w8
  rw [BitVec.toNat_setWidth, BitVec.toNat_ushiftRight, Nat.shiftRight_eq_div_pow]
def num (l : List B8) : B64 := l.foldl (fun n x => n <<< 8 ||| x.setWidth 64) 0#64
def numN (a : Nat) (l : List B8) : Nat := l.foldl (fun n x => n * 256 + x.toNat) a
theorem numN_acc (l : List B8) : ∀ a, numN a l = a * 256 ^ l.length + numN 0 l := by
  induction l with
  | nil => intro a; simp [numN]
  | cons x l ih =>
    intro a
    have h1 : numN a (x :: l) = numN (a * 256 + x.toNat) l := rfl
    have h2 : numN 0 (x :: l) = numN (0 * 256 + x.toNat) l := rfl
    rw [h1, h2, ih, ih (0 * 256 + x.toNat), List.length_cons, Nat.pow_succ, Nat.add_mul, Nat.zero_mul, Nat.zero_add]
    have : a * 256 * 256 ^ l.length = a * (256 ^ l.length * 256) := by rw [Nat.mul_assoc, Nat.mul_comm 256]
    omega
theorem num_step (n : B64) (x : B8) (h : n.toNat < 72057594037927936) : (n <<< 8 ||| x.setWidth 64).toNat = n.toNat * 256 + x.toNat := by
  have hx := x.isLt
  rw [BitVec.toNat_or, BitVec.toNat_shiftLeft, BitVec.toNat_setWidth]
  have e1 : n.toNat <<< 8 % 2 ^ 64 = n.toNat <<< 8 := by rw [Nat.shiftLeft_eq]; omega
  have e2 : x.toNat % 2 ^ 64 = x.toNat := by omega
  rw [e1, e2, ← Nat.shiftLeft_add_eq_or_of_lt (by omega), Nat.shiftLeft_eq]
theorem num_toNat : ∀ (l : List B8) (n : B64) (e : Nat), n.toNat < 256 ^ e → e + l.length ≤ 8 → (l.foldl (fun (n : B64) (x : B8) => n <<< 8 ||| x.setWidth 64) n).toNat = numN n.toNat l := by
  intro l
  induction l with
  | nil => intro n e _ _; rfl
  | cons x l ih =>
    intro n e h1 h2
    rw [List.length_cons] at h2
    have hx := x.isLt
    have hp : (256 : Nat) ^ e ≤ 256 ^ 7 := Nat.pow_le_pow_right (by decide) (by omega)
    have hs := num_step n x (by omega)
    simp only [List.foldl_cons]
    rw [ih _ (e + 1) (by rw [hs, Nat.pow_succ]; omega) (by omega), hs]
    rfl
theorem num_lt (l : List B8) (h : l.length ≤ 8) : (num l).toNat = numN 0 l := num_toNat l 0#64 0 (by decide) (by omega)
theorem numN_be (n : B64) : ∀ k, numN 0 (be n k) = n.toNat % 256 ^ k := by
  intro k
  induction k with
  | zero => simp [be, numN, Nat.mod_one]
  | succ k ih =>
    have h1 : numN 0 (be n (k + 1)) = numN (0 * 256 + ((n >>> (8 * k)).setWidth 8).toNat) (be n k) := rfl
    rw [h1, numN_acc, be_len, ih, BitVec.toNat_setWidth, BitVec.toNat_ushiftRight, Nat.shiftRight_eq_div_pow, Nat.zero_mul, Nat.zero_add]
    have h2 : (2 : Nat) ^ (8 * k) = 256 ^ k := by rw [Nat.pow_mul]
    have h3 : n.toNat % 256 ^ (k + 1) = n.toNat % 256 ^ k + 256 ^ k * (n.toNat / 256 ^ k % 256) := Nat.mod_pow_succ
    rw [h2, h3, Nat.add_comm, Nat.mul_comm]
theorem num_be (n : B64) (k : Nat) (hk : k ≤ 8) (h : n.toNat < 256 ^ k) : num (be n k) = n := by
  apply BitVec.eq_of_toNat_eq
  rw [num_lt _ (by rw [be_len]; exact hk), numN_be, Nat.mod_eq_of_lt h]
structure S40b (v : Value) (n : B64) (x : Int) (ρ : Fr) : Prop where
  q0 : ρ 0 = v
  q1 : ρ 1 = .int .u64 (w64 n)
  q7 : ρ 7 = .int .i64 x
theorem put_f (H G : Heap) (w : Value) (m : List B8) (n : B64) (c : Nat) (hc : c ≤ 8) (hE : Ext H G) (hb : BO H G w m) (hl : m.length ≤ 1000) :
    ∃ w' F, D Tryd.prog hints 40 [w, .int .u64 (w64 n), .int .i64 c] G = some (w', F) ∧ Ext H F ∧ BO H F w' (m ++ be n c) ∧ Kw w G w' F := by
  have key : ∀ ρ, S40b w n ((c : Int) - 1) ρ → ∃ w' F, done [.tmp 6] (andThen (blk 0 (E Tryd.prog hints (.loop l40_0) ρ G)) (E Tryd.prog hints (.seq (.region c40_5) .ret))) = some (w', F) ∧ Ext H F ∧ BO H F w' (m ++ be n c) ∧ Kw w G w' F := by
    intro ρ hs
    obtain ⟨ρ', F, e, w', q0, hE', hb', hk'⟩ := loop_inv (P := Tryd.prog) (hs := hints) (b := l40_0) (id := 0) (fun j ρ F => ∃ w', S40b w' n ((c : Int) - 1 - j) ρ ∧ Ext H F ∧ BO H F w' (m ++ (be n c).take j) ∧ Kw w G w' F) (fun ρ F => ∃ w', ρ 0 = w' ∧ Ext H F ∧ BO H F w' (m ++ be n c) ∧ Kw w G w' F) c
      (by
        rintro j ρ F hj ⟨w1, ⟨q0, q1, q7⟩, hE1, hb1, hk1⟩
        have hge : (0 : Int) ≤ (c : Int) - 1 - j := by omega
        have hcast : (c : Int) - 1 - j = ((c - 1 - j : Nat) : Int) := by omega
        have w8' : IntKind.i64.wrap (8 * ((c : Int) - 1 - j)) = ((8 * (c - 1 - j) : Nat) : Int) := by rw [wrap64 _ (by omega) (by omega)]; omega
        have w1' : IntKind.i64.wrap ((c : Int) - 1 - j - 1) = (c : Int) - 1 - (j + 1 : Nat) := by rw [wrap64 _ (by omega) (by omega)]; omega
        have hng : ¬ (((8 * (c - 1 - j) : Nat) : Int) < 0) := by omega
        have htn : (((8 * (c - 1 - j) : Nat) : Int)).toNat = 8 * (c - 1 - j) := Int.toNat_natCast _
        have hsh := e64_shr n (c - 1 - j) (by omega)
        have hx : BS (F ++ [some ⟨true, 5, bL [w8 ((n >>> (8 * (c - 1 - j))).setWidth 8)]⟩]) (.slice (some ⟨F.length, 0, none⟩) 1 1) ([(n >>> (8 * (c - 1 - j))).setWidth 8].map w8) := BS.of (A := [w8 ((n >>> (8 * (c - 1 - j))).setWidth 8)]) ((live_app_len _ _).trans rfl)
        obtain ⟨w2, F2, ea, hb2, hE2, hk2⟩ := hb1.app hE1 (Ext.more F _) hx (by rw [List.length_append, List.length_take, be_len]; simp; omega)
        simp only [bL, List.map_cons, List.map_nil] at ea
        rw [List.append_assoc, ← take_getG _ _ _ (be_get n c j hj)] at hb2
        refine ⟨?ρ1, F2, ?run1, w2, ⟨?_, ?_, ?_⟩, hE2, hb2, hk1.trans (hk2.ext (Ext.more F _))⟩
        case run1 =>
          simp (maxDischargeDepth := 8) only [l40_0, c40_0, c40_1, c40_2, c40_3, c40_4, c40_5, q0, q1, q7, hge, w8', w1', hng, htn, hsh, ea, RUN, Ed, knd, kndR, resV, binInt, mnmxV, mnmx2, fillL, unV, lenV, extractV, partV, loadAt, Nat.reduceAdd, Nat.reduceBEq, Nat.reduceEqDiff, Nat.reduceLT, Nat.reduceLeDiff, Nat.reduceMul, Nat.reduceSub, reduceIte, Int.reduceEq, Int.reduceNe, Int.reduceLT, Int.reduceLE, Int.reduceAdd, Int.reduceSub, Int.reduceMul, Int.reduceNeg, Int.reduceMod, Int.reduceDiv, Int.reduceTMod, Int.reduceTDiv, Int.reduceToNat, okChain_i, okLoads_nil, okLoads_in, okLoads_eq]
          rfl
        all_goals first | (simp (maxDischargeDepth := 8) only [q0, q1, q7, RUN, Ed, knd, kndR, resV, binInt, mnmxV, mnmx2, fillL, unV, lenV, extractV, partV, loadAt, Nat.reduceAdd, Nat.reduceBEq, Nat.reduceEqDiff, Nat.reduceLT, Nat.reduceLeDiff, Nat.reduceMul, Nat.reduceSub, reduceIte, Int.reduceEq, Int.reduceNe, Int.reduceLT, Int.reduceLE, Int.reduceAdd, Int.reduceSub, Int.reduceMul, Int.reduceNeg, Int.reduceMod, Int.reduceDiv, Int.reduceTMod, Int.reduceTDiv, Int.reduceToNat, okChain_i, okLoads_nil, okLoads_in, okLoads_eq]; done) | (simp (maxDischargeDepth := 8) only [q0, q1, q7, RUN, Ed, knd, kndR, resV, binInt, mnmxV, mnmx2, fillL, unV, lenV, extractV, partV, loadAt, Nat.reduceAdd, Nat.reduceBEq, Nat.reduceEqDiff, Nat.reduceLT, Nat.reduceLeDiff, Nat.reduceMul, Nat.reduceSub, reduceIte, Int.reduceEq, Int.reduceNe, Int.reduceLT, Int.reduceLE, Int.reduceAdd, Int.reduceSub, Int.reduceMul, Int.reduceNeg, Int.reduceMod, Int.reduceDiv, Int.reduceTMod, Int.reduceTDiv, Int.reduceToNat, okChain_i, okLoads_nil, okLoads_in, okLoads_eq]; rfl))
      (by
        rintro ρ F ⟨w1, ⟨q0, q1, q7⟩, hE1, hb1, hk1⟩
        rw [List.take_of_length_le (by rw [be_len]; omega)] at hb1
        have hge : ¬ (0 : Int) ≤ (c : Int) - 1 - c := by omega
        refine ⟨?ρ2, F, ?run2, w1, ?_, hE1, hb1, hk1⟩
        case run2 =>
          simp (maxDischargeDepth := 8) only [l40_0, c40_2, q7, hge, RUN, Ed, knd, kndR, resV, binInt, mnmxV, mnmx2, fillL, unV, lenV, extractV, partV, loadAt, Nat.reduceAdd, Nat.reduceBEq, Nat.reduceEqDiff, Nat.reduceLT, Nat.reduceLeDiff, Nat.reduceMul, Nat.reduceSub, reduceIte, Int.reduceEq, Int.reduceNe, Int.reduceLT, Int.reduceLE, Int.reduceAdd, Int.reduceSub, Int.reduceMul, Int.reduceNeg, Int.reduceMod, Int.reduceDiv, Int.reduceTMod, Int.reduceTDiv, Int.reduceToNat, okChain_i, okLoads_nil, okLoads_in, okLoads_eq]
          rfl
        simp (maxDischargeDepth := 8) only [q0, RUN, Ed, knd, kndR, resV, binInt, mnmxV, mnmx2, fillL, unV, lenV, extractV, partV, loadAt, Nat.reduceAdd, Nat.reduceBEq, Nat.reduceEqDiff, Nat.reduceLT, Nat.reduceLeDiff, Nat.reduceMul, Nat.reduceSub, reduceIte, Int.reduceEq, Int.reduceNe, Int.reduceLT, Int.reduceLE, Int.reduceAdd, Int.reduceSub, Int.reduceMul, Int.reduceNeg, Int.reduceMod, Int.reduceDiv, Int.reduceTMod, Int.reduceTDiv, Int.reduceToNat, okChain_i, okLoads_nil, okLoads_in, okLoads_eq])
      ρ G ⟨w, by simpa using hs, hE, by simpa using hb, Kw.refl _ _⟩
    refine ⟨w', F, ?_, hE', hb', hk'⟩
    rw [e]
    simp (maxDischargeDepth := 8) only [c40_5, q0, RUN, Ed, knd, kndR, resV, binInt, mnmxV, mnmx2, fillL, unV, lenV, extractV, partV, loadAt, Nat.reduceAdd, Nat.reduceBEq, Nat.reduceEqDiff, Nat.reduceLT, Nat.reduceLeDiff, Nat.reduceMul, Nat.reduceSub, reduceIte, Int.reduceEq, Int.reduceNe, Int.reduceLT, Int.reduceLE, Int.reduceAdd, Int.reduceSub, Int.reduceMul, Int.reduceNeg, Int.reduceMod, Int.reduceDiv, Int.reduceTMod, Int.reduceTDiv, Int.reduceToNat, okChain_i, okLoads_nil, okLoads_in, okLoads_eq]
  have w1 := wrap64 ((c : Int) - 1) (by omega) (by omega)
  rw [D_eq p40 _ _ (Nat.le_of_ble_eq_true rfl)]
  simp (maxDischargeDepth := 8) only [r40, b40, c40_0, c40_1, w1, RUN, Ed, knd, kndR, resV, binInt, mnmxV, mnmx2, fillL, unV, lenV, extractV, partV, loadAt, Nat.reduceAdd, Nat.reduceBEq, Nat.reduceEqDiff, Nat.reduceLT, Nat.reduceLeDiff, Nat.reduceMul, Nat.reduceSub, reduceIte, Int.reduceEq, Int.reduceNe, Int.reduceLT, Int.reduceLE, Int.reduceAdd, Int.reduceSub, Int.reduceMul, Int.reduceNeg, Int.reduceMod, Int.reduceDiv, Int.reduceTMod, Int.reduceTDiv, Int.reduceToNat, okChain_i, okLoads_nil, okLoads_in, okLoads_eq]
  refine key _ ⟨?_, ?_, ?_⟩
  all_goals first | (simp (maxDischargeDepth := 8) only [RUN, Ed, knd, kndR, resV, binInt, mnmxV, mnmx2, fillL, unV, lenV, extractV, partV, loadAt, Nat.reduceAdd, Nat.reduceBEq, Nat.reduceEqDiff, Nat.reduceLT, Nat.reduceLeDiff, Nat.reduceMul, Nat.reduceSub, reduceIte, Int.reduceEq, Int.reduceNe, Int.reduceLT, Int.reduceLE, Int.reduceAdd, Int.reduceSub, Int.reduceMul, Int.reduceNeg, Int.reduceMod, Int.reduceDiv, Int.reduceTMod, Int.reduceTDiv, Int.reduceToNat, okChain_i, okLoads_nil, okLoads_in, okLoads_eq]; done) | (simp (maxDischargeDepth := 8) only [RUN, Ed, knd, kndR, resV, binInt, mnmxV, mnmx2, fillL, unV, lenV, extractV, partV, loadAt, Nat.reduceAdd, Nat.reduceBEq, Nat.reduceEqDiff, Nat.reduceLT, Nat.reduceLeDiff, Nat.reduceMul, Nat.reduceSub, reduceIte, Int.reduceEq, Int.reduceNe, Int.reduceLT, Int.reduceLE, Int.reduceAdd, Int.reduceSub, Int.reduceMul, Int.reduceNeg, Int.reduceMod, Int.reduceDiv, Int.reduceTMod, Int.reduceTDiv, Int.reduceToNat, okChain_i, okLoads_nil, okLoads_in, okLoads_eq]; rfl)
theorem big_f (H G : Heap) (w : Value) (m : List B8) (n : B64) (c : Nat) (hc : c ≤ 8) (hE : Ext H G) (hb : BO H G w m) (hl : m.length ≤ 1000) :
    ∃ w' F, D Tryd.prog hints 49 [w, .int .u64 (w64 n), .int .i64 c] G = some (w', F) ∧ Ext H F ∧ BO H F w' (m ++ be n c) ∧ Kw w G w' F := by
  have key : ∀ ρ, S40b w n ((c : Int) - 1) ρ → ∃ w' F, done [.tmp 6] (andThen (blk 0 (E Tryd.prog hints (.loop l49_0) ρ G)) (E Tryd.prog hints (.seq (.region c49_5) .ret))) = some (w', F) ∧ Ext H F ∧ BO H F w' (m ++ be n c) ∧ Kw w G w' F := by
    intro ρ hs
    obtain ⟨ρ', F, e, w', q0, hE', hb', hk'⟩ := loop_inv (P := Tryd.prog) (hs := hints) (b := l49_0) (id := 0) (fun j ρ F => ∃ w', S40b w' n ((c : Int) - 1 - j) ρ ∧ Ext H F ∧ BO H F w' (m ++ (be n c).take j) ∧ Kw w G w' F) (fun ρ F => ∃ w', ρ 0 = w' ∧ Ext H F ∧ BO H F w' (m ++ be n c) ∧ Kw w G w' F) c
      (by
        rintro j ρ F hj ⟨w1, ⟨q0, q1, q7⟩, hE1, hb1, hk1⟩
        have hge : (0 : Int) ≤ (c : Int) - 1 - j := by omega
        have w8' : IntKind.i64.wrap (8 * ((c : Int) - 1 - j)) = ((8 * (c - 1 - j) : Nat) : Int) := by rw [wrap64 _ (by omega) (by omega)]; omega
        have w1' : IntKind.i64.wrap ((c : Int) - 1 - j - 1) = (c : Int) - 1 - (j + 1 : Nat) := by rw [wrap64 _ (by omega) (by omega)]; omega
        have hu : IntKind.u64.wrap ((8 * (c - 1 - j) : Nat) : Int) = ((8 * (c - 1 - j) : Nat) : Int) := by rw [wrapu64]; omega
        have hng : ¬ (((8 * (c - 1 - j) : Nat) : Int) < 0) := by omega
        have htn : (((8 * (c - 1 - j) : Nat) : Int)).toNat = 8 * (c - 1 - j) := Int.toNat_natCast _
        have hsh := e64_shr n (c - 1 - j) (by omega)
        have hx : BS (F ++ [some ⟨true, 5, bL [w8 ((n >>> (8 * (c - 1 - j))).setWidth 8)]⟩]) (.slice (some ⟨F.length, 0, none⟩) 1 1) ([(n >>> (8 * (c - 1 - j))).setWidth 8].map w8) := BS.of (A := [w8 ((n >>> (8 * (c - 1 - j))).setWidth 8)]) ((live_app_len _ _).trans rfl)
        obtain ⟨w2, F2, ea, hb2, hE2, hk2⟩ := hb1.app hE1 (Ext.more F _) hx (by rw [List.length_append, List.length_take, be_len]; simp; omega)
        simp only [bL, List.map_cons, List.map_nil] at ea
        rw [List.append_assoc, ← take_getG _ _ _ (be_get n c j hj)] at hb2
        refine ⟨?ρ1, F2, ?run1, w2, ⟨?_, ?_, ?_⟩, hE2, hb2, hk1.trans (hk2.ext (Ext.more F _))⟩
        case run1 =>
          simp (maxDischargeDepth := 8) only [l49_0, c49_0, c49_1, c49_2, c49_3, c49_4, c49_5, q0, q1, q7, hge, w8', w1', hu, hng, htn, hsh, ea, RUN, Ed, knd, kndR, resV, binInt, mnmxV, mnmx2, fillL, unV, lenV, extractV, partV, loadAt, Nat.reduceAdd, Nat.reduceBEq, Nat.reduceEqDiff, Nat.reduceLT, Nat.reduceLeDiff, Nat.reduceMul, Nat.reduceSub, reduceIte, Int.reduceEq, Int.reduceNe, Int.reduceLT, Int.reduceLE, Int.reduceAdd, Int.reduceSub, Int.reduceMul, Int.reduceNeg, Int.reduceMod, Int.reduceDiv, Int.reduceTMod, Int.reduceTDiv, Int.reduceToNat, okChain_i, okLoads_nil, okLoads_in, okLoads_eq]
          rfl
        all_goals first | (simp (maxDischargeDepth := 8) only [q0, q1, q7, RUN, Ed, knd, kndR, resV, binInt, mnmxV, mnmx2, fillL, unV, lenV, extractV, partV, loadAt, Nat.reduceAdd, Nat.reduceBEq, Nat.reduceEqDiff, Nat.reduceLT, Nat.reduceLeDiff, Nat.reduceMul, Nat.reduceSub, reduceIte, Int.reduceEq, Int.reduceNe, Int.reduceLT, Int.reduceLE, Int.reduceAdd, Int.reduceSub, Int.reduceMul, Int.reduceNeg, Int.reduceMod, Int.reduceDiv, Int.reduceTMod, Int.reduceTDiv, Int.reduceToNat, okChain_i, okLoads_nil, okLoads_in, okLoads_eq]; done) | (simp (maxDischargeDepth := 8) only [q0, q1, q7, RUN, Ed, knd, kndR, resV, binInt, mnmxV, mnmx2, fillL, unV, lenV, extractV, partV, loadAt, Nat.reduceAdd, Nat.reduceBEq, Nat.reduceEqDiff, Nat.reduceLT, Nat.reduceLeDiff, Nat.reduceMul, Nat.reduceSub, reduceIte, Int.reduceEq, Int.reduceNe, Int.reduceLT, Int.reduceLE, Int.reduceAdd, Int.reduceSub, Int.reduceMul, Int.reduceNeg, Int.reduceMod, Int.reduceDiv, Int.reduceTMod, Int.reduceTDiv, Int.reduceToNat, okChain_i, okLoads_nil, okLoads_in, okLoads_eq]; rfl))
      (by
        rintro ρ F ⟨w1, ⟨q0, q1, q7⟩, hE1, hb1, hk1⟩
        rw [List.take_of_length_le (by rw [be_len]; omega)] at hb1
        have hge : ¬ (0 : Int) ≤ (c : Int) - 1 - c := by omega
        refine ⟨?ρ2, F, ?run2, w1, ?_, hE1, hb1, hk1⟩
        case run2 =>
          simp (maxDischargeDepth := 8) only [l49_0, c49_2, q7, hge, RUN, Ed, knd, kndR, resV, binInt, mnmxV, mnmx2, fillL, unV, lenV, extractV, partV, loadAt, Nat.reduceAdd, Nat.reduceBEq, Nat.reduceEqDiff, Nat.reduceLT, Nat.reduceLeDiff, Nat.reduceMul, Nat.reduceSub, reduceIte, Int.reduceEq, Int.reduceNe, Int.reduceLT, Int.reduceLE, Int.reduceAdd, Int.reduceSub, Int.reduceMul, Int.reduceNeg, Int.reduceMod, Int.reduceDiv, Int.reduceTMod, Int.reduceTDiv, Int.reduceToNat, okChain_i, okLoads_nil, okLoads_in, okLoads_eq]
          rfl
        simp (maxDischargeDepth := 8) only [q0, RUN, Ed, knd, kndR, resV, binInt, mnmxV, mnmx2, fillL, unV, lenV, extractV, partV, loadAt, Nat.reduceAdd, Nat.reduceBEq, Nat.reduceEqDiff, Nat.reduceLT, Nat.reduceLeDiff, Nat.reduceMul, Nat.reduceSub, reduceIte, Int.reduceEq, Int.reduceNe, Int.reduceLT, Int.reduceLE, Int.reduceAdd, Int.reduceSub, Int.reduceMul, Int.reduceNeg, Int.reduceMod, Int.reduceDiv, Int.reduceTMod, Int.reduceTDiv, Int.reduceToNat, okChain_i, okLoads_nil, okLoads_in, okLoads_eq])
      ρ G ⟨w, by simpa using hs, hE, by simpa using hb, Kw.refl _ _⟩
    refine ⟨w', F, ?_, hE', hb', hk'⟩
    rw [e]
    simp (maxDischargeDepth := 8) only [c49_5, q0, RUN, Ed, knd, kndR, resV, binInt, mnmxV, mnmx2, fillL, unV, lenV, extractV, partV, loadAt, Nat.reduceAdd, Nat.reduceBEq, Nat.reduceEqDiff, Nat.reduceLT, Nat.reduceLeDiff, Nat.reduceMul, Nat.reduceSub, reduceIte, Int.reduceEq, Int.reduceNe, Int.reduceLT, Int.reduceLE, Int.reduceAdd, Int.reduceSub, Int.reduceMul, Int.reduceNeg, Int.reduceMod, Int.reduceDiv, Int.reduceTMod, Int.reduceTDiv, Int.reduceToNat, okChain_i, okLoads_nil, okLoads_in, okLoads_eq]
  have w1 := wrap64 ((c : Int) - 1) (by omega) (by omega)
  rw [D_eq p49 _ _ (Nat.le_of_ble_eq_true rfl)]
  simp (maxDischargeDepth := 8) only [r49, b49, c49_0, c49_1, w1, RUN, Ed, knd, kndR, resV, binInt, mnmxV, mnmx2, fillL, unV, lenV, extractV, partV, loadAt, Nat.reduceAdd, Nat.reduceBEq, Nat.reduceEqDiff, Nat.reduceLT, Nat.reduceLeDiff, Nat.reduceMul, Nat.reduceSub, reduceIte, Int.reduceEq, Int.reduceNe, Int.reduceLT, Int.reduceLE, Int.reduceAdd, Int.reduceSub, Int.reduceMul, Int.reduceNeg, Int.reduceMod, Int.reduceDiv, Int.reduceTMod, Int.reduceTDiv, Int.reduceToNat, okChain_i, okLoads_nil, okLoads_in, okLoads_eq]
  refine key _ ⟨?_, ?_, ?_⟩
  all_goals first | (simp (maxDischargeDepth := 8) only [RUN, Ed, knd, kndR, resV, binInt, mnmxV, mnmx2, fillL, unV, lenV, extractV, partV, loadAt, Nat.reduceAdd, Nat.reduceBEq, Nat.reduceEqDiff, Nat.reduceLT, Nat.reduceLeDiff, Nat.reduceMul, Nat.reduceSub, reduceIte, Int.reduceEq, Int.reduceNe, Int.reduceLT, Int.reduceLE, Int.reduceAdd, Int.reduceSub, Int.reduceMul, Int.reduceNeg, Int.reduceMod, Int.reduceDiv, Int.reduceTMod, Int.reduceTDiv, Int.reduceToNat, okChain_i, okLoads_nil, okLoads_in, okLoads_eq]; done) | (simp (maxDischargeDepth := 8) only [RUN, Ed, knd, kndR, resV, binInt, mnmxV, mnmx2, fillL, unV, lenV, extractV, partV, loadAt, Nat.reduceAdd, Nat.reduceBEq, Nat.reduceEqDiff, Nat.reduceLT, Nat.reduceLeDiff, Nat.reduceMul, Nat.reduceSub, reduceIte, Int.reduceEq, Int.reduceNe, Int.reduceLT, Int.reduceLE, Int.reduceAdd, Int.reduceSub, Int.reduceMul, Int.reduceNeg, Int.reduceMod, Int.reduceDiv, Int.reduceTMod, Int.reduceTDiv, Int.reduceToNat, okChain_i, okLoads_nil, okLoads_in, okLoads_eq]; rfl)
theorem num_succ (m : List B8) (j : Nat) (x : B8) (h : m[j]? = some x) : num (m.take (j + 1)) = num (m.take j) <<< 8 ||| x.setWidth 64 := by
  unfold num
  rw [take_getG m j x h, List.foldl_append]; rfl
theorem get_f (H : Heap) (u : Value) (m : List B8) (k : Nat) (hk : k ≤ m.length) (hl : m.length ≤ 1000000) (hB : BS H u (m.map w8)) : D Tryd.prog hints 42 [u, .int .i64 k] H = some (.int .u64 (w64 (num (m.take k))), H) := by
  obtain ⟨v, es, hv⟩ := hB.cut (lo := none) (hi := some (.int .i64 (k : Int))) (l := 0) (r := k) rfl (bound_nat _ _ _) (by omega) (by rw [List.length_map]; omega)
  rw [List.drop_zero, ← List.map_take] at hv
  have l1 := hv.len
  rw [List.length_map] at l1
  have hlt' : (m.take k).length = k := by rw [List.length_take]; omega
  generalize m.take k = a at *
  have key : ∀ ρ, ρ 5 = .int .u64 0 → ρ 10 = v → ρ 11 = .int .i64 a.length → ρ 12 = .int .i64 (0 : Nat) → done [.tmp 4] (andThen (blk 0 (E Tryd.prog hints (.loop l42_0) ρ H)) (E Tryd.prog hints (.seq (.region c42_7) .ret))) = some (.int .u64 (w64 (num a)), H) := by
    intro ρ0 r5 r10 r11 r12
    obtain ⟨ρ', G', e, hf, h5, rfl⟩ := loop_keep (P := Tryd.prog) (hs := hints) (b := l42_0) (id := 0) ρ0 (fun j ρ G => ρ 5 = .int .u64 (w64 (num (a.take j))) ∧ ρ 12 = .int .i64 j ∧ G = H) (fun ρ G => ρ 5 = .int .u64 (w64 (num a)) ∧ G = H) a.length
      (by
        rintro j ρ G hj hf ⟨q5, q12, rfl⟩
        have q10 := (hf 10 rfl).trans r10
        have q11 := (hf 11 rfl).trans r11
        have hb : a[j]? = some a[j] := List.getElem?_eq_getElem hj
        obtain ⟨i, o, x1, ow, ty, cells, x2, x3⟩ := hv.idx (map_get hb)
        have i1 := live_ltG x2
        have hlt : (j : Int) < (a.length : Int) := by omega
        have w := wrap64 ((j : Int) + 1) (by omega) (by omega)
        rw [num_succ a j _ hb]
        generalize a[j] = x at *
        generalize num (a.take j) = n at *
        refine ⟨?ρ1, G, ?run1, ?_, ?_, rfl⟩
        case run1 =>
          simp (maxDischargeDepth := 8) only [l42_0, c42_0, c42_1, c42_2, c42_3, c42_4, c42_5, c42_6, c42_7, q5, q10, q11, q12, hlt, x1, x2, x3, i1, w, e64_shl, e64_8, e64_or, RUN, Ed, knd, kndR, resV, binInt, mnmxV, mnmx2, fillL, unV, lenV, extractV, partV, loadAt, Nat.reduceAdd, Nat.reduceBEq, Nat.reduceEqDiff, Nat.reduceLT, Nat.reduceLeDiff, Nat.reduceMul, Nat.reduceSub, reduceIte, Int.reduceEq, Int.reduceNe, Int.reduceLT, Int.reduceLE, Int.reduceAdd, Int.reduceSub, Int.reduceMul, Int.reduceNeg, Int.reduceMod, Int.reduceDiv, Int.reduceTMod, Int.reduceTDiv, Int.reduceToNat, okChain_i, okLoads_nil, okLoads_in, okLoads_eq]
          rfl
        all_goals first | (simp (maxDischargeDepth := 8) only [q5, q12, RUN, Ed, knd, kndR, resV, binInt, mnmxV, mnmx2, fillL, unV, lenV, extractV, partV, loadAt, Nat.reduceAdd, Nat.reduceBEq, Nat.reduceEqDiff, Nat.reduceLT, Nat.reduceLeDiff, Nat.reduceMul, Nat.reduceSub, reduceIte, Int.reduceEq, Int.reduceNe, Int.reduceLT, Int.reduceLE, Int.reduceAdd, Int.reduceSub, Int.reduceMul, Int.reduceNeg, Int.reduceMod, Int.reduceDiv, Int.reduceTMod, Int.reduceTDiv, Int.reduceToNat, okChain_i, okLoads_nil, okLoads_in, okLoads_eq]; done) | (simp (maxDischargeDepth := 8) only [q5, q12, RUN, Ed, knd, kndR, resV, binInt, mnmxV, mnmx2, fillL, unV, lenV, extractV, partV, loadAt, Nat.reduceAdd, Nat.reduceBEq, Nat.reduceEqDiff, Nat.reduceLT, Nat.reduceLeDiff, Nat.reduceMul, Nat.reduceSub, reduceIte, Int.reduceEq, Int.reduceNe, Int.reduceLT, Int.reduceLE, Int.reduceAdd, Int.reduceSub, Int.reduceMul, Int.reduceNeg, Int.reduceMod, Int.reduceDiv, Int.reduceTMod, Int.reduceTDiv, Int.reduceToNat, okChain_i, okLoads_nil, okLoads_in, okLoads_eq]; rfl))
      (by
        rintro ρ G hf ⟨q5, q12, rfl⟩
        have q11 := (hf 11 rfl).trans r11
        rw [List.take_length] at q5
        have hlt : ¬ (a.length : Int) < (a.length : Int) := by omega
        refine ⟨?ρ2, G, ?run2, ?_, rfl⟩
        case run2 =>
          simp (maxDischargeDepth := 8) only [l42_0, c42_3, q11, q12, hlt, RUN, Ed, knd, kndR, resV, binInt, mnmxV, mnmx2, fillL, unV, lenV, extractV, partV, loadAt, Nat.reduceAdd, Nat.reduceBEq, Nat.reduceEqDiff, Nat.reduceLT, Nat.reduceLeDiff, Nat.reduceMul, Nat.reduceSub, reduceIte, Int.reduceEq, Int.reduceNe, Int.reduceLT, Int.reduceLE, Int.reduceAdd, Int.reduceSub, Int.reduceMul, Int.reduceNeg, Int.reduceMod, Int.reduceDiv, Int.reduceTMod, Int.reduceTDiv, Int.reduceToNat, okChain_i, okLoads_nil, okLoads_in, okLoads_eq]
          rfl
        simp (maxDischargeDepth := 8) only [q5, RUN, Ed, knd, kndR, resV, binInt, mnmxV, mnmx2, fillL, unV, lenV, extractV, partV, loadAt, Nat.reduceAdd, Nat.reduceBEq, Nat.reduceEqDiff, Nat.reduceLT, Nat.reduceLeDiff, Nat.reduceMul, Nat.reduceSub, reduceIte, Int.reduceEq, Int.reduceNe, Int.reduceLT, Int.reduceLE, Int.reduceAdd, Int.reduceSub, Int.reduceMul, Int.reduceNeg, Int.reduceMod, Int.reduceDiv, Int.reduceTMod, Int.reduceTDiv, Int.reduceToNat, okChain_i, okLoads_nil, okLoads_in, okLoads_eq])
      H ⟨by simpa [num, w64] using r5, r12, rfl⟩
    rw [e]
    simp (maxDischargeDepth := 8) only [c42_7, h5, RUN, Ed, knd, kndR, resV, binInt, mnmxV, mnmx2, fillL, unV, lenV, extractV, partV, loadAt, Nat.reduceAdd, Nat.reduceBEq, Nat.reduceEqDiff, Nat.reduceLT, Nat.reduceLeDiff, Nat.reduceMul, Nat.reduceSub, reduceIte, Int.reduceEq, Int.reduceNe, Int.reduceLT, Int.reduceLE, Int.reduceAdd, Int.reduceSub, Int.reduceMul, Int.reduceNeg, Int.reduceMod, Int.reduceDiv, Int.reduceTMod, Int.reduceTDiv, Int.reduceToNat, okChain_i, okLoads_nil, okLoads_in, okLoads_eq]
  rw [D_eq p42 _ _ (Nat.le_of_ble_eq_true rfl)]
  simp (maxDischargeDepth := 8) only [r42, b42, c42_0, c42_1, c42_2, es, l1, RUN, Ed, knd, kndR, resV, binInt, mnmxV, mnmx2, fillL, unV, extractV, partV, loadAt, Nat.reduceAdd, Nat.reduceBEq, Nat.reduceEqDiff, Nat.reduceLT, Nat.reduceLeDiff, Nat.reduceMul, Nat.reduceSub, reduceIte, Int.reduceEq, Int.reduceNe, Int.reduceLT, Int.reduceLE, Int.reduceAdd, Int.reduceSub, Int.reduceMul, Int.reduceNeg, Int.reduceMod, Int.reduceDiv, Int.reduceTMod, Int.reduceTDiv, Int.reduceToNat, okChain_i, okLoads_nil, okLoads_in, okLoads_eq]
  refine key _ ?_ ?_ ?_ ?_
  all_goals first | (simp (maxDischargeDepth := 8) only [RUN, Ed, knd, kndR, resV, binInt, mnmxV, mnmx2, fillL, unV, lenV, extractV, partV, loadAt, Nat.reduceAdd, Nat.reduceBEq, Nat.reduceEqDiff, Nat.reduceLT, Nat.reduceLeDiff, Nat.reduceMul, Nat.reduceSub, reduceIte, Int.reduceEq, Int.reduceNe, Int.reduceLT, Int.reduceLE, Int.reduceAdd, Int.reduceSub, Int.reduceMul, Int.reduceNeg, Int.reduceMod, Int.reduceDiv, Int.reduceTMod, Int.reduceTDiv, Int.reduceToNat, okChain_i, okLoads_nil, okLoads_in, okLoads_eq]; done) | (simp (maxDischargeDepth := 8) only [RUN, Ed, knd, kndR, resV, binInt, mnmxV, mnmx2, fillL, unV, lenV, extractV, partV, loadAt, Nat.reduceAdd, Nat.reduceBEq, Nat.reduceEqDiff, Nat.reduceLT, Nat.reduceLeDiff, Nat.reduceMul, Nat.reduceSub, reduceIte, Int.reduceEq, Int.reduceNe, Int.reduceLT, Int.reduceLE, Int.reduceAdd, Int.reduceSub, Int.reduceMul, Int.reduceNeg, Int.reduceMod, Int.reduceDiv, Int.reduceTMod, Int.reduceTDiv, Int.reduceToNat, okChain_i, okLoads_nil, okLoads_in, okLoads_eq]; rfl)
theorem number2_f (H : Heap) (u : Value) (a : List B8) (hl : a.length ≤ 1000000) (hv : BS H u (a.map w8)) : D Tryd.prog hints 45 [u] H = some (.int .u64 (w64 (num a)), H) := by
  have l1 := hv.len
  rw [List.length_map] at l1
  have key : ∀ ρ, ρ 0 = u → ρ 3 = .int .u64 0 → ρ 4 = .int .i64 (0 : Nat) → done [.tmp 2] (andThen (blk 0 (E Tryd.prog hints (.loop l45_0) ρ H)) (E Tryd.prog hints (.seq (.region c45_6) .ret))) = some (.int .u64 (w64 (num a)), H) := by
    intro ρ0 r0 r3 r4
    obtain ⟨ρ', G', e, hf, h3, rfl⟩ := loop_keep (P := Tryd.prog) (hs := hints) (b := l45_0) (id := 0) ρ0 (fun j ρ G => ρ 3 = .int .u64 (w64 (num (a.take j))) ∧ ρ 4 = .int .i64 j ∧ G = H) (fun ρ G => ρ 3 = .int .u64 (w64 (num a)) ∧ G = H) a.length
      (by
        rintro j ρ G hj hf ⟨q3, q4, rfl⟩
        have q0 := (hf 0 rfl).trans r0
        have hb : a[j]? = some a[j] := List.getElem?_eq_getElem hj
        obtain ⟨i, o, x1, ow, ty, cells, x2, x3⟩ := hv.idx (map_get hb)
        have i1 := live_ltG x2
        have hlt : (j : Int) < (a.length : Int) := by omega
        have w := wrap64 ((j : Int) + 1) (by omega) (by omega)
        rw [num_succ a j _ hb]
        generalize a[j] = x at *
        generalize num (a.take j) = n at *
        refine ⟨?ρ1, G, ?run1, ?_, ?_, rfl⟩
        case run1 =>
          simp (maxDischargeDepth := 8) only [l45_0, c45_0, c45_1, c45_2, c45_3, c45_4, c45_5, c45_6, q0, q3, q4, l1, hlt, x1, x2, x3, i1, w, e64_shl, e64_8, e64_or, RUN, Ed, knd, kndR, resV, binInt, mnmxV, mnmx2, fillL, unV, extractV, partV, loadAt, Nat.reduceAdd, Nat.reduceBEq, Nat.reduceEqDiff, Nat.reduceLT, Nat.reduceLeDiff, Nat.reduceMul, Nat.reduceSub, reduceIte, Int.reduceEq, Int.reduceNe, Int.reduceLT, Int.reduceLE, Int.reduceAdd, Int.reduceSub, Int.reduceMul, Int.reduceNeg, Int.reduceMod, Int.reduceDiv, Int.reduceTMod, Int.reduceTDiv, Int.reduceToNat, okChain_i, okLoads_nil, okLoads_in, okLoads_eq]
          rfl
        all_goals first | (simp (maxDischargeDepth := 8) only [q3, q4, RUN, Ed, knd, kndR, resV, binInt, mnmxV, mnmx2, fillL, unV, lenV, extractV, partV, loadAt, Nat.reduceAdd, Nat.reduceBEq, Nat.reduceEqDiff, Nat.reduceLT, Nat.reduceLeDiff, Nat.reduceMul, Nat.reduceSub, reduceIte, Int.reduceEq, Int.reduceNe, Int.reduceLT, Int.reduceLE, Int.reduceAdd, Int.reduceSub, Int.reduceMul, Int.reduceNeg, Int.reduceMod, Int.reduceDiv, Int.reduceTMod, Int.reduceTDiv, Int.reduceToNat, okChain_i, okLoads_nil, okLoads_in, okLoads_eq]; done) | (simp (maxDischargeDepth := 8) only [q3, q4, RUN, Ed, knd, kndR, resV, binInt, mnmxV, mnmx2, fillL, unV, lenV, extractV, partV, loadAt, Nat.reduceAdd, Nat.reduceBEq, Nat.reduceEqDiff, Nat.reduceLT, Nat.reduceLeDiff, Nat.reduceMul, Nat.reduceSub, reduceIte, Int.reduceEq, Int.reduceNe, Int.reduceLT, Int.reduceLE, Int.reduceAdd, Int.reduceSub, Int.reduceMul, Int.reduceNeg, Int.reduceMod, Int.reduceDiv, Int.reduceTMod, Int.reduceTDiv, Int.reduceToNat, okChain_i, okLoads_nil, okLoads_in, okLoads_eq]; rfl))
      (by
        rintro ρ G hf ⟨q3, q4, rfl⟩
        have q0 := (hf 0 rfl).trans r0
        rw [List.take_length] at q3
        have hlt : ¬ (a.length : Int) < (a.length : Int) := by omega
        refine ⟨?ρ2, G, ?run2, ?_, rfl⟩
        case run2 =>
          simp (maxDischargeDepth := 8) only [l45_0, c45_3, q0, q4, l1, hlt, RUN, Ed, knd, kndR, resV, binInt, mnmxV, mnmx2, fillL, unV, extractV, partV, loadAt, Nat.reduceAdd, Nat.reduceBEq, Nat.reduceEqDiff, Nat.reduceLT, Nat.reduceLeDiff, Nat.reduceMul, Nat.reduceSub, reduceIte, Int.reduceEq, Int.reduceNe, Int.reduceLT, Int.reduceLE, Int.reduceAdd, Int.reduceSub, Int.reduceMul, Int.reduceNeg, Int.reduceMod, Int.reduceDiv, Int.reduceTMod, Int.reduceTDiv, Int.reduceToNat, okChain_i, okLoads_nil, okLoads_in, okLoads_eq]
          rfl
        simp (maxDischargeDepth := 8) only [q3, RUN, Ed, knd, kndR, resV, binInt, mnmxV, mnmx2, fillL, unV, lenV, extractV, partV, loadAt, Nat.reduceAdd, Nat.reduceBEq, Nat.reduceEqDiff, Nat.reduceLT, Nat.reduceLeDiff, Nat.reduceMul, Nat.reduceSub, reduceIte, Int.reduceEq, Int.reduceNe, Int.reduceLT, Int.reduceLE, Int.reduceAdd, Int.reduceSub, Int.reduceMul, Int.reduceNeg, Int.reduceMod, Int.reduceDiv, Int.reduceTMod, Int.reduceTDiv, Int.reduceToNat, okChain_i, okLoads_nil, okLoads_in, okLoads_eq])
      H ⟨by simpa [num, w64] using r3, r4, rfl⟩
    rw [e]
    simp (maxDischargeDepth := 8) only [c45_6, h3, RUN, Ed, knd, kndR, resV, binInt, mnmxV, mnmx2, fillL, unV, lenV, extractV, partV, loadAt, Nat.reduceAdd, Nat.reduceBEq, Nat.reduceEqDiff, Nat.reduceLT, Nat.reduceLeDiff, Nat.reduceMul, Nat.reduceSub, reduceIte, Int.reduceEq, Int.reduceNe, Int.reduceLT, Int.reduceLE, Int.reduceAdd, Int.reduceSub, Int.reduceMul, Int.reduceNeg, Int.reduceMod, Int.reduceDiv, Int.reduceTMod, Int.reduceTDiv, Int.reduceToNat, okChain_i, okLoads_nil, okLoads_in, okLoads_eq]
  rw [D_eq p45 _ _ (Nat.le_of_ble_eq_true rfl)]
  simp (maxDischargeDepth := 8) only [r45, b45, c45_0, c45_1, c45_2, RUN, Ed, knd, kndR, resV, binInt, mnmxV, mnmx2, fillL, unV, lenV, extractV, partV, loadAt, Nat.reduceAdd, Nat.reduceBEq, Nat.reduceEqDiff, Nat.reduceLT, Nat.reduceLeDiff, Nat.reduceMul, Nat.reduceSub, reduceIte, Int.reduceEq, Int.reduceNe, Int.reduceLT, Int.reduceLE, Int.reduceAdd, Int.reduceSub, Int.reduceMul, Int.reduceNeg, Int.reduceMod, Int.reduceDiv, Int.reduceTMod, Int.reduceTDiv, Int.reduceToNat, okChain_i, okLoads_nil, okLoads_in, okLoads_eq]
  refine key _ ?_ ?_ ?_
  all_goals first | (simp (maxDischargeDepth := 8) only [RUN, Ed, knd, kndR, resV, binInt, mnmxV, mnmx2, fillL, unV, lenV, extractV, partV, loadAt, Nat.reduceAdd, Nat.reduceBEq, Nat.reduceEqDiff, Nat.reduceLT, Nat.reduceLeDiff, Nat.reduceMul, Nat.reduceSub, reduceIte, Int.reduceEq, Int.reduceNe, Int.reduceLT, Int.reduceLE, Int.reduceAdd, Int.reduceSub, Int.reduceMul, Int.reduceNeg, Int.reduceMod, Int.reduceDiv, Int.reduceTMod, Int.reduceTDiv, Int.reduceToNat, okChain_i, okLoads_nil, okLoads_in, okLoads_eq]; done) | (simp (maxDischargeDepth := 8) only [RUN, Ed, knd, kndR, resV, binInt, mnmxV, mnmx2, fillL, unV, lenV, extractV, partV, loadAt, Nat.reduceAdd, Nat.reduceBEq, Nat.reduceEqDiff, Nat.reduceLT, Nat.reduceLeDiff, Nat.reduceMul, Nat.reduceSub, reduceIte, Int.reduceEq, Int.reduceNe, Int.reduceLT, Int.reduceLE, Int.reduceAdd, Int.reduceSub, Int.reduceMul, Int.reduceNeg, Int.reduceMod, Int.reduceDiv, Int.reduceTMod, Int.reduceTDiv, Int.reduceToNat, okChain_i, okLoads_nil, okLoads_in, okLoads_eq]; rfl)
end Go.Proofs.YtdipdpkdmiokeaaDoor.Sim
