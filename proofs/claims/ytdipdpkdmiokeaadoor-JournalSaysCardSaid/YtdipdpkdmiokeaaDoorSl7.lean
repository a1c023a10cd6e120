/- A record's bytes read back; bytes with one bit turned. -/
import Derived.Test.YtdipdpkdmiokeaaDoorSl6
namespace Go.Proofs.YtdipdpkdmiokeaaDoor.Sim
open Go Go.Proofs.YtdipdpkdmiokeaaDoor.CrcMath
set_option linter.unusedSimpArgs false
set_option linter.unusedVariables false
/-- A record whose stage and length are unsigned. -/
structure Rec.wf (r : Rec) : Prop where
  s0 : 0 ≤ r.s
  s1 : r.s < 4294967296
  l0 : 0 ≤ r.l
theorem good_iff {r : Rec} : good r = true ↔ (1 ≤ r.m ∧ r.m ≤ 5 ∧ r.l < 2097152) ∧ (0 ≤ r.a ∧ r.a ≤ r.b ∧ r.b ≤ 1073741824) ∧ 0 ≤ r.c ∧ r.c ≤ r.d ∧ r.d ≤ 1073741824 := by
  unfold good rt
  simp only [Bool.and_eq_true, decide_eq_true_eq]
theorem seg (P Q R : List B8) (i n : Nat) (h : i = P.length) (g : n = Q.length) : ((P ++ (Q ++ R)).drop i).take n = Q := by
  subst h; subst g
  rw [List.drop_left' rfl, List.take_left' rfl]
theorem i64b_toNat (x : Int) (h0 : 0 ≤ x) (h1 : x < 9223372036854775808) : (i64b x).toNat = x.toNat := by
  have := e_b64 x
  rw [show IntKind.u64.wrap x = x by simp [IntKind.wrap, IntKind.bits, IntKind.signed]; omega] at this
  unfold w64 at this
  omega
theorem num_be4 (x : Int) (h0 : 0 ≤ x) (h1 : x < 4294967296) : IntKind.u32.wrap (w64 (num (be (i64b x) 4))) = x := by
  have h := i64b_toNat x h0 (by omega)
  rw [num_be _ 4 (by omega) (by rw [h]; omega)]
  unfold w64
  rw [h]
  simp [IntKind.wrap, IntKind.bits, IntKind.signed]; omega
theorem num_be8 (x : Int) (h0 : 0 ≤ x) (h1 : x < 9223372036854775808) : IntKind.i64.wrap (w64 (num (be (i64b x) 8))) = x := by
  have h := i64b_toNat x h0 (by omega)
  rw [num_be _ 8 (by omega) (by rw [h]; omega)]
  unfold w64
  rw [h, wrap64 _ (by omega) (by omega)]
  omega
theorem i8b_toNat (x : Int) (h0 : 0 ≤ x) (h1 : x < 256) : ((i8b x).toNat : Int) = x := by
  have := e_b8 x
  rw [show IntKind.u8.wrap x = x by simp [IntKind.wrap, IntKind.bits, IntKind.signed]; omega] at this
  exact this.symm
theorem recB_parts (r : Rec) : ((recB r).drop 1).take 4 = be (i64b r.s) 4 ∧ ix (recB r) 5 = i8b r.m ∧ ((recB r).drop 6).take 4 = be (i64b r.l) 4 ∧ ((recB r).drop 10).take 8 = be (i64b r.a) 8 ∧ ((recB r).drop 18).take 8 = be (i64b r.b) 8 ∧ ((recB r).drop 26).take 8 = be (i64b r.c) 8 ∧ ((recB r).drop 34).take 8 = be (i64b r.d) 8 ∧ ((recB r).drop 42).take 2 = be ((crc (recH r)).setWidth 64) 2 := by
  have h := recB_eq r
  have hc : (be ((crc (recH r)).setWidth 64) 2).length = 2 := be_len _ _
  generalize be ((crc (recH r)).setWidth 64) 2 = z at *
  have h1 := be_len (i64b r.s) 4
  have h2 := be_len (i64b r.l) 4
  have h3 := be_len (i64b r.a) 8
  have h4 := be_len (i64b r.b) 8
  have h5 := be_len (i64b r.c) 8
  have h6 := be_len (i64b r.d) 8
  generalize be (i64b r.s) 4 = A at *
  generalize be (i64b r.l) 4 = B at *
  generalize be (i64b r.a) 8 = C at *
  generalize be (i64b r.b) 8 = D' at *
  generalize be (i64b r.c) 8 = E' at *
  generalize be (i64b r.d) 8 = F at *
  rw [h]
  refine ⟨?_, ?_, ?_, ?_, ?_, ?_, ?_, ?_⟩
  · have := seg [0xa5#8] A ([i8b r.m] ++ B ++ C ++ D' ++ E' ++ F ++ z) 1 4 rfl h1.symm
    simpa [List.append_assoc] using this
  · unfold ix
    rw [List.getD_eq_getElem?_getD]
    have : [0xa5#8] ++ A ++ [i8b r.m] ++ B ++ C ++ D' ++ E' ++ F ++ z = ([0xa5#8] ++ A) ++ (i8b r.m :: (B ++ C ++ D' ++ E' ++ F ++ z)) := by simp
    rw [this, List.getElem?_append_right (by simp; omega)]
    simp [h1]
  · have := seg ([0xa5#8] ++ A ++ [i8b r.m]) B (C ++ D' ++ E' ++ F ++ z) 6 4 (by simp; omega) h2.symm
    simpa [List.append_assoc] using this
  · have := seg ([0xa5#8] ++ A ++ [i8b r.m] ++ B) C (D' ++ E' ++ F ++ z) 10 8 (by simp; omega) h3.symm
    simpa [List.append_assoc] using this
  · have := seg ([0xa5#8] ++ A ++ [i8b r.m] ++ B ++ C) D' (E' ++ F ++ z) 18 8 (by simp; omega) h4.symm
    simpa [List.append_assoc] using this
  · have := seg ([0xa5#8] ++ A ++ [i8b r.m] ++ B ++ C ++ D') E' (F ++ z) 26 8 (by simp; omega) h5.symm
    simpa [List.append_assoc] using this
  · have := seg ([0xa5#8] ++ A ++ [i8b r.m] ++ B ++ C ++ D' ++ E') F z 34 8 (by simp; omega) h6.symm
    simpa [List.append_assoc] using this
  · have := seg ([0xa5#8] ++ A ++ [i8b r.m] ++ B ++ C ++ D' ++ E' ++ F) z [] 42 2 (by simp; omega) hc.symm
    simpa [List.append_assoc] using this
theorem recB_body (r : Rec) : ((recB r).take 42).drop 1 = recH r := by
  unfold recB
  rw [List.cons_append, List.take_succ_cons, List.drop_one, List.tail_cons, List.take_left' (recH_len r)]
theorem recB_head (r : Rec) : ix (recB r) 0 = 0xa5#8 := rfl
theorem recOf_recB (r : Rec) (hw : r.wf) (hg : good r = true) : recOf (recB r) = r := by
  obtain ⟨⟨h1, h2, h3⟩, ⟨h4, h5, h6⟩, h7, h8, h9⟩ := good_iff.1 hg
  obtain ⟨s0, s1, l0⟩ := hw
  obtain ⟨p1, p2, p3, p4, p5, p6, p7, _⟩ := recB_parts r
  unfold recOf
  rw [p1, p2, p3, p4, p5, p6, p7, num_be4 _ s0 s1, num_be4 _ l0 (by omega), num_be8 _ h4 (by omega), num_be8 _ (by omega) (by omega), num_be8 _ h7 (by omega), num_be8 _ (by omega) (by omega), i8b_toNat _ (by omega) (by omega)]
theorem crc64_lt (c : BitVec 16) : (c.setWidth 64).toNat < 256 ^ 2 := by
  have := c.isLt
  rw [BitVec.toNat_setWidth]
  omega
theorem rdC_recB (r : Rec) (hw : r.wf) (hg : good r = true) : rdC (recB r) = none ∧ rdR (recB r) = r := by
  obtain ⟨_, _, _, _, _, _, _, p8⟩ := recB_parts r
  have h : rdC (recB r) = none := by
    unfold rdC
    rw [if_neg (by rw [recB_len]; omega), if_neg (by rw [recB_len]; omega), if_neg (by rw [recB_head]; simp), if_neg (by rw [recB_body, p8, num_be _ 2 (by omega) (crc64_lt _)]; simp), recOf_recB r hw hg]
    exact if_pos hg
  exact ⟨h, by unfold rdR; rw [if_pos h, recOf_recB r hw hg]⟩
theorem recB_inj (r q : Rec) (hr : r.wf) (hq : q.wf) (gr : good r = true) (gq : good q = true) : recB r = recB q ↔ r = q := by
  constructor
  · intro h
    rw [← recOf_recB r hr gr, h, recOf_recB q hq gq]
  · rintro rfl; rfl
theorem ix_set_ne (m : List B8) (i j : Nat) (x : B8) (h : i ≠ j) : ix (m.set i x) j = ix m j := by
  unfold ix
  rw [List.getD_eq_getElem?_getD, List.getD_eq_getElem?_getD, List.getElem?_set_ne h]
theorem ix_set_eq (m : List B8) (i : Nat) (x : B8) (h : i < m.length) : ix (m.set i x) i = x := by
  unfold ix
  rw [List.getD_eq_getElem?_getD, List.getElem?_set_self h]; rfl
theorem flip_ne (a : B8) (j : Nat) (h : j < 8) : a ^^^ 1#8 <<< j ≠ a := by
  intro e
  have e2 := congrArg (a ^^^ ·) e
  simp only [← BitVec.xor_assoc, BitVec.xor_self, BitVec.zero_xor] at e2
  have : ∀ j : Fin 8, (1#8 <<< j.val) ≠ 0#8 := by decide
  exact this ⟨j, h⟩ e2
theorem num2 (a b : B8) : (num [a, b]).toNat = a.toNat * 256 + b.toNat := by
  rw [num_lt _ (by simp)]
  simp [numN]
theorem w16_64 {a b : BitVec 16} (h : a.setWidth 64 = b.setWidth 64) : a = b := by
  have := congrArg BitVec.toNat h
  rw [BitVec.toNat_setWidth, BitVec.toNat_setWidth] at this
  have ha := a.isLt
  have hb := b.isLt
  apply BitVec.eq_of_toNat_eq
  omega
theorem two_ix (m : List B8) (i : Nat) (h : i + 1 < m.length) : (m.drop i).take 2 = [ix m i, ix m (i + 1)] := by
  have h1 : m.drop i = m[i] :: m.drop (i + 1) := List.drop_eq_getElem_cons (by omega)
  have h2 : m.drop (i + 1) = m[i + 1] :: m.drop (i + 2) := List.drop_eq_getElem_cons (by omega)
  rw [h1, h2]
  unfold ix
  rw [List.getD_eq_getElem?_getD, List.getD_eq_getElem?_getD, List.getElem?_eq_getElem (by omega), List.getElem?_eq_getElem h]
  rfl
theorem rdC_turned (r : Rec) (k : Nat) (h8 : 8 ≤ k) (hk : k < 352) : rdC (bitTurned (recB r) k) = some 3 := by
  have hlen := recB_len r
  have hbl := bitTurned_length (recB r) k
  obtain ⟨_, _, _, _, _, _, _, p8⟩ := recB_parts r
  have hnum := num_be ((crc (recH r)).setWidth 64) 2 (by omega) (crc64_lt _)
  rw [← p8] at hnum
  unfold rdC
  rw [if_neg (by omega), if_neg (by omega), if_neg (by unfold bitTurned; rw [ix_set_ne _ _ _ _ (by omega), recB_head]; simp), if_pos]
  intro hc
  by_cases hlow : k / 8 < 42
  · have e1 : ((bitTurned (recB r) k).take 42).drop 1 = bitTurned (recH r) (k - 8) := by
      unfold bitTurned
      rw [List.take_set, List.drop_set, if_neg (by omega), recB_body, show (k - 8) / 8 = k / 8 - 1 by omega, show (k - 8) % 8 = k % 8 by omega]
      congr 2
      rw [← recB_body, List.getD_eq_getElem?_getD, List.getD_eq_getElem?_getD, List.getElem?_drop, List.getElem?_take, if_pos (by omega), show 1 + (k / 8 - 1) = k / 8 by omega]
    have e2 : (bitTurned (recB r) k).drop 42 = (recB r).drop 42 := by
      unfold bitTurned
      rw [List.drop_set, if_pos (by omega)]
    rw [e1, e2, hnum] at hc
    exact one_bit _ (recH r) (k - 8) (by rw [recH_len]; omega) (w16_64 hc)
  · have e1 : ((bitTurned (recB r) k).take 42).drop 1 = recH r := by
      unfold bitTurned
      rw [List.take_set, List.set_eq_of_length_le (by rw [List.length_take]; omega)]
      exact recB_body r
    rw [e1, ← hnum, two_ix _ 42 (by omega), two_ix _ 42 (by omega)] at hc
    have hn := congrArg BitVec.toNat hc
    rw [num2, num2] at hn
    simp only [Nat.reduceAdd] at hn
    have b1 := (ix (recB r) 42).isLt
    have b2 := (ix (recB r) 43).isLt
    have b3 := (ix (bitTurned (recB r) k) 42).isLt
    have b4 := (ix (bitTurned (recB r) k) 43).isLt
    have q1 : ix (bitTurned (recB r) k) 42 = ix (recB r) 42 := BitVec.eq_of_toNat_eq (by omega)
    have q2 : ix (bitTurned (recB r) k) 43 = ix (recB r) 43 := BitVec.eq_of_toNat_eq (by omega)
    by_cases h4 : k / 8 = 42
    · have e2 : ix (bitTurned (recB r) k) 42 = ix (recB r) 42 ^^^ 1#8 <<< (k % 8) := by unfold bitTurned; rw [h4, ix_set_eq _ _ _ (by omega)]; rfl
      rw [e2] at q1
      exact flip_ne _ _ (by omega) q1
    · have h5 : k / 8 = 43 := by omega
      have e2 : ix (bitTurned (recB r) k) 43 = ix (recB r) 43 ^^^ 1#8 <<< (k % 8) := by unfold bitTurned; rw [h5, ix_set_eq _ _ _ (by omega)]; rfl
      rw [e2] at q2
      exact flip_ne _ _ (by omega) q2
theorem e_xor8 (a b : B8) : IntKind.u8.wrap ((BitVec.ofInt IntKind.u8.bits (w8 a) ^^^ BitVec.ofInt IntKind.u8.bits (w8 b)).toNat : Int) = w8 (a ^^^ b) := xor8 a b
theorem e_bit (j : Nat) (h : j < 8) : IntKind.u8.wrap (1 * 2 ^ min j IntKind.u8.bits) = w8 (1#8 <<< j) := by
  have : ∀ j : Fin 8, IntKind.u8.wrap (1 * 2 ^ min j.val IntKind.u8.bits) = w8 (1#8 <<< j.val) := by decide
  exact this ⟨j, h⟩
theorem bL_set (A : List Int) (i : Nat) (x : Int) : (bL A).set i (.int .u8 x) = bL (A.set i x) := by
  unfold bL; rw [List.map_set]
theorem map_turn (m : List B8) (k : Nat) : (m.map w8).set (k / 8) (w8 (ix m (k / 8) ^^^ 1#8 <<< (k % 8))) = (bitTurned m k).map w8 := by
  unfold bitTurned; rw [List.map_set]; rfl
theorem rdC_blank (r : Rec) : rdC ((recB r).set 0 0#8) = some 6 := by
  have hlen := recB_len r
  unfold rdC
  rw [if_neg (by rw [List.length_set]; omega), if_neg (by rw [List.length_set]; omega), if_pos (by rw [ix_set_eq _ _ _ (by omega)]; decide)]
theorem rdC_torn (r : Rec) : rdC ((recB r).take 43) = some 2 := by
  have hlen := recB_len r
  unfold rdC
  rw [if_pos (by rw [List.length_take]; omega)]
theorem Opn_rec' {H : Heap} {l : List Value} (h : Opn H (.agg ((.cons (.int .u32) (.cons (.int .i64) (.cons (.int .u32) (.cons (.agg ((.cons (.int .i64) (.cons (.int .i64) .nil)))) (.cons (.agg ((.cons (.int .i64) (.cons (.int .i64) .nil)))) .nil))))))) l) : ∃ r : Rec, l = r.L ∧ r.wf := by
  simp only [Opn, OpnL] at h
  obtain ⟨_, _, rfl, ⟨s, rfl, hs⟩, _, _, rfl, ⟨m, rfl, _⟩, _, _, rfl, ⟨k, rfl, hk⟩, _, _, rfl, ⟨_, _, rfl, ⟨a, rfl, _⟩, _, _, rfl, ⟨b, rfl, _⟩, rfl⟩, _, _, rfl, ⟨_, _, rfl, ⟨c, rfl, _⟩, _, _, rfl, ⟨d, rfl, _⟩, rfl⟩, rfl⟩ := h
  simp [Lit.wf, IntKind.min, IntKind.max, IntKind.bits, IntKind.signed] at hs hk
  exact ⟨⟨s, m, k, a, b, c, d⟩, rfl, ⟨hs.1, by simp only; omega, hk.1⟩⟩
/-- What the written bytes or their error come to. -/
theorem put14 (r : Rec) (H : Heap) (hE : EH all7 H) : ∃ w F, D Tryd.prog hints 14 [.agg ⟨r.L⟩] H = some (.tuple ⟨[w, EV (amiss r)]⟩, F) ∧ Ext H F ∧ (good r = true → BO H F w (recB r)) ∧ (good r = false → w = .slice none 0 0) := by
  cases hg : good r with
  | true =>
    obtain ⟨w, F, ew, yF, hb⟩ := recBytes_f r hg H hE
    exact ⟨w, F, by rw [ew]; unfold amiss; rw [if_pos hg]; rfl, yF, fun _ => hb, fun h => by cases h⟩
  | false =>
    obtain ⟨X, ew⟩ := recBytes_bad r hg H hE
    exact ⟨_, _, by rw [ew]; unfold amiss; rw [if_neg (by rw [hg]; decide)]; rfl, Ext.more _ _, fun h => (by cases h), fun _ => rfl⟩
end Go.Proofs.YtdipdpkdmiokeaaDoor.Sim
