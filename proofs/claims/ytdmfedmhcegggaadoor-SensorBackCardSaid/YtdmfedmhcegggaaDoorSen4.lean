/- Chapter 7 over the plain heap: SensorSays. -/
import Derived.Test.YtdmfedmhcegggaaDoorSen3
import Derived.Test.YtdmfedmhcegggaaDoorSim21
namespace Go.Proofs.YtdmfedmhcegggaaDoor.Sim
open Go
set_option linter.unusedSimpArgs false
set_option linter.unusedVariables false
def d11 : RCode := .seq (.region c11_12) .ret
def c11t : RCode := .seq (.region c11_10) (.seq (.region c11_11) d11)
def q11t : RCode := .seq (.region c11_8) (.seq (.region c11_9) c11t)
def a11t : RCode := .seq (.region c11_6) (.seq (.region c11_7) q11t)
theorem b11t : b11 = .seq (.region c11_0) (.seq (.region c11_1) (.seq (.seq (.region c11_2) (.cond (.tmp 26) (.seq (.region c11_3) .ret) .skip)) (.seq (.seq (.region c11_4) (.cond (.tmp 30) (.seq (.region c11_5) .ret) .skip)) a11t))) := (rfl)
structure S11 (p7 p10 p12 : Nat) (is : Bool) (ρ : Fr) : Prop where
  r7 : ρ 7 = .pointer (some ⟨p7, 0, none⟩)
  r9 : ρ 9 = .bool true
  r10 : ρ 10 = .pointer (some ⟨p10, 0, none⟩)
  r11 : ρ 11 = .bool is
  r12 : ρ 12 = .pointer (some ⟨p12, 0, none⟩)
  r13 : ρ 13 = .bool is
structure M11 (p7 p10 p12 : Nat) (lo hi id s2 : Int) (bv : Value) (B : List Int) (F : Heap) : Prop where
  e : EH all7 F
  b : BS F bv B
  k7 : live F p7 = some ⟨true, 27, [.int .u8 id, .int .u8 s2, bv]⟩
  k10 : live F p10 = some ⟨true, 68, [.int .i64 lo, .int .i64 hi]⟩
  k12 : live F p12 = some ⟨true, 68, [.int .i64 lo, .int .i64 hi]⟩
theorem M11.more {p7 p10 p12 : Nat} {lo hi id s2 : Int} {bv : Value} {B : List Int} {F : Heap} (h : M11 p7 p10 p12 lo hi id s2 bv B F) (X : Heap) : M11 p7 p10 p12 lo hi id s2 bv B (F ++ X) :=
  ⟨h.e.more X, h.b.more X, live_more0 h.k7 X, live_more0 h.k10 X, live_more0 h.k12 X⟩
/-- Two frames that are the same, whatever comes behind. -/
def SameFr (F : Heap) (fr1 fr2 : List Value) : Prop := ∀ X, ∃ XF, D Tryd.prog hints 15 [.agg ⟨fr1⟩, .agg ⟨fr2⟩] (F ++ X) = some (.bool true, (F ++ X) ++ XF)
theorem SameFr.more {F : Heap} {fr1 fr2 : List Value} (h : SameFr F fr1 fr2) (Y : Heap) : SameFr (F ++ Y) fr1 fr2 := fun X => by
  rw [List.append_assoc]; exact h (Y ++ X)
theorem cmp11 (p7 p10 p12 p14 p16 : Nat) (is : Bool) (lo hi id s2 : Int) (bv : Value) (B : List Int) (fr1 fr2 : List Value) (l1 : fr1.length = 3) (l2 : fr2.length = 3) (e15 : Value) (c17 : Int) (XI : Heap → Heap) (eI : ∀ G, EH all7 G → D Tryd.prog hints 17 [e15, .int .i64 c17] G = some (.bool true, G ++ XI G))
    (a b : Int) (e : Option Nat) (he : ∀ i, e = some i → i < 7) (ρ : Fr) (F : Heap) (hs : S11 p7 p10 p12 is ρ) (hm : M11 p7 p10 p12 lo hi id s2 bv B F) (eF : SameFr F fr1 fr2)
    (r14 : ρ 14 = .pointer (some ⟨p14, 0, none⟩)) (r15 : ρ 15 = e15) (r16 : ρ 16 = .pointer (some ⟨p16, 0, none⟩)) (r17 : ρ 17 = .int .i64 c17) (k14 : live F p14 = some ⟨true, 27, fr1⟩) (k16 : live F p16 = some ⟨true, 27, fr2⟩)
    (r18 : ρ 18 = .int .i64 a) (r19 : ρ 19 = .int .i64 b) (r20 : ρ 20 = EV e) (r21 : ρ 21 = .int .i64 a) (r22 : ρ 22 = .int .i64 b) (r23 : ρ 23 = .int .i64 (cd e)) : Ok (done [.tmp 8] (E Tryd.prog hints d11 ρ F)) := by
  obtain ⟨XJ, _, _, eJ⟩ := is_rules
  have eJ := eJ e he
  obtain ⟨r7, r9, r10, r11, r12, r13⟩ := hs
  obtain ⟨hE, _, k7, k10, k12⟩ := hm
  have i10 := live_lt k10
  have i12 := live_lt k12
  have i14 := live_lt k14
  have i16 := live_lt k16
  have t1 : fr1.take 3 = fr1 := List.take_of_length_le (by omega)
  have t2 : fr2.take 3 = fr2 := List.take_of_length_le (by omega)
  have es := fun G => sameSpan_f lo hi G
  simp only [K] at es
  obtain ⟨XF, eF⟩ := eF [some ⟨true, 68, [.int .i64 lo, .int .i64 hi]⟩, some ⟨true, 68, [.int .i64 lo, .int .i64 hi]⟩]
  simp only [List.append_assoc, List.cons_append, List.nil_append] at eF
  cases is <;>
  · simp (maxDischargeDepth := 8) only [d11, c11_12, r7, r9, r10, r11, r12, r13, r14, r15, r16, r17, r18, r19, r20, r21, r22, r23, k10, k12, k14, k16, i10, i12, i14, i16, l1, l2, t1, t2, es, eF, eI, eJ, hE, EH_more, RUN, Ed, knd, kndR, resV, binInt, mnmxV, mnmx2, fillL, unV, lenV, extractV, partV, loadAt, Nat.reduceAdd, Nat.reduceBEq, Nat.reduceEqDiff, Nat.reduceLT, Nat.reduceLeDiff, Nat.reduceMul, Nat.reduceSub, reduceIte, Int.reduceEq, Int.reduceNe, Int.reduceLT, Int.reduceLE, Int.reduceAdd, Int.reduceSub, Int.reduceMul, Int.reduceNeg, Int.reduceMod, Int.reduceDiv, Int.reduceTMod, Int.reduceTDiv, Int.reduceToNat, okChain_i, okLoads_nil, okLoads_in, okLoads_eq]
    exact Ok.mk _
theorem read11 (p7 p10 p12 p14 p16 : Nat) (is : Bool) (lo hi id s2 : Int) (hid : 0 ≤ id ∧ id < 256) (bv : Value) (B : List Int) (hb : ∀ b ∈ B, 0 ≤ b ∧ b < 256) (fr1 fr2 : List Value) (l1 : fr1.length = 3) (l2 : fr2.length = 3) (e15 : Value) (c17 : Int) (XI : Heap → Heap) (eI : ∀ G, EH all7 G → D Tryd.prog hints 17 [e15, .int .i64 c17] G = some (.bool true, G ++ XI G))
    (ρ : Fr) (F : Heap) (hs : S11 p7 p10 p12 is ρ) (hm : M11 p7 p10 p12 lo hi id s2 bv B F) (eF : SameFr F fr1 fr2)
    (r14 : ρ 14 = .pointer (some ⟨p14, 0, none⟩)) (r15 : ρ 15 = e15) (r16 : ρ 16 = .pointer (some ⟨p16, 0, none⟩)) (r17 : ρ 17 = .int .i64 c17) (k14 : live F p14 = some ⟨true, 27, fr1⟩) (k16 : live F p16 = some ⟨true, 27, fr2⟩) : Ok (done [.tmp 8] (E Tryd.prog hints c11t ρ F)) := by
  obtain ⟨X1, e1⟩ := readS_f all7 rfl rfl rfl id s2 hid bv B hb F hm.e hm.b
  obtain ⟨X2, e2⟩ := readT_f id s2 hid bv B hb _ (hm.b.more X1)
  obtain ⟨o1, o2⟩ := hm.b.one
  have he := rdS_e id B
  generalize rdS id B = z at e1 e2 he
  obtain ⟨a, b, e⟩ := z
  simp only at e1 e2 he
  have k7 := hm.k7
  have i7 := live_lt k7
  have hm2 := hm.more (X1 ++ X2)
  have eF2 := eF.more (X1 ++ X2)
  obtain ⟨r7, r9, r10, r11, r12, r13⟩ := hs
  rw [List.append_assoc] at e2
  simp (maxDischargeDepth := 8) only [c11t, c11_10, c11_11, r7, r9, r10, r11, r12, r13, r14, r15, r16, r17, k7, i7, o1, o2, e1, e2, EV_one, RUN, Ed, knd, kndR, resV, binInt, mnmxV, mnmx2, fillL, unV, lenV, extractV, partV, loadAt, Nat.reduceAdd, Nat.reduceBEq, Nat.reduceEqDiff, Nat.reduceLT, Nat.reduceLeDiff, Nat.reduceMul, Nat.reduceSub, reduceIte, Int.reduceEq, Int.reduceNe, Int.reduceLT, Int.reduceLE, Int.reduceAdd, Int.reduceSub, Int.reduceMul, Int.reduceNeg, Int.reduceMod, Int.reduceDiv, Int.reduceTMod, Int.reduceTDiv, Int.reduceToNat, okChain_i, okLoads_nil, okLoads_in, okLoads_eq]
  refine cmp11 p7 p10 p12 p14 p16 is lo hi id s2 bv B fr1 fr2 l1 l2 e15 c17 XI eI a b e he _ _ ⟨?_, ?_, ?_, ?_, ?_, ?_⟩ hm2 eF2 ?_ ?_ ?_ ?_ (live_more0 k14 _) (live_more0 k16 _) ?_ ?_ ?_ ?_ ?_ ?_
  all_goals simp (maxDischargeDepth := 8) only [r7, r9, r10, r11, r12, r13, r14, r15, r16, r17, RUN, Ed, knd, kndR, resV, binInt, mnmxV, mnmx2, fillL, unV, lenV, extractV, partV, loadAt, Nat.reduceAdd, Nat.reduceBEq, Nat.reduceEqDiff, Nat.reduceLT, Nat.reduceLeDiff, Nat.reduceMul, Nat.reduceSub, reduceIte, Int.reduceEq, Int.reduceNe, Int.reduceLT, Int.reduceLE, Int.reduceAdd, Int.reduceSub, Int.reduceMul, Int.reduceNeg, Int.reduceMod, Int.reduceDiv, Int.reduceTMod, Int.reduceTDiv, Int.reduceToNat, okChain_i, okLoads_nil, okLoads_in, okLoads_eq]
theorem put11 (p7 p10 p12 : Nat) (is : Bool) (ch s v : Int) (lo hi id s2 : Int) (hid : 0 ≤ id ∧ id < 256) (bv : Value) (B : List Int) (hb : ∀ b ∈ B, 0 ≤ b ∧ b < 256)
    (ρ : Fr) (F : Heap) (hs : S11 p7 p10 p12 is ρ) (hm : M11 p7 p10 p12 lo hi id s2 bv B F) (r0 : ρ 0 = .int .i64 ch) (r1 : ρ 1 = .int .u8 s) (r2 : ρ 2 = .int .i64 v) : Ok (done [.tmp 8] (E Tryd.prog hints q11t ρ F)) := by
  obtain ⟨XI, eIn, eIE, eI⟩ := is_rules
  have eI0 : ∀ G, EH all7 G → D Tryd.prog hints 17 [Err 0, .int .i64 101] G = some (.bool true, G ++ XI (some 0) 101 G) := fun G hG => eIE 0 (by omega) G hG
  by_cases hg : OkS ch v
  · obtain ⟨fr1, X1, e1, i, rfl, h1⟩ := sputGood_f ch s v F hg
    obtain ⟨fr2, X2, e2, j, rfl, h2⟩ := squtGood_f ch s v ((F ++ X1) ++ [some ⟨true, 27, [.int .u8 (ch % 256), .int .u8 s, .slice (some ⟨i, 0, none⟩) 4 1]⟩]) hg
    have eF : SameFr ((((F ++ X1) ++ [some ⟨true, 27, [.int .u8 (ch % 256), .int .u8 s, .slice (some ⟨i, 0, none⟩) 4 1]⟩]) ++ X2) ++ [some ⟨true, 27, [.int .u8 (ch % 256), .int .u8 s, .slice (some ⟨j, 0, none⟩) 4 1]⟩]) [.int .u8 (ch % 256), .int .u8 s, .slice (some ⟨i, 0, none⟩) 4 1] [.int .u8 (ch % 256), .int .u8 s, .slice (some ⟨j, 0, none⟩) 4 1] := by
      intro X
      have b1 := BS.blk (e := 1) (live_more0 (live_more0 (live_more0 (live_more0 h1 [some ⟨true, 27, [.int .u8 (ch % 256), .int .u8 s, .slice (some ⟨i, 0, none⟩) 4 1]⟩]) X2) [some ⟨true, 27, [.int .u8 (ch % 256), .int .u8 s, .slice (some ⟨j, 0, none⟩) 4 1]⟩]) X)
      have b2 := BS.blk (e := 1) (live_more0 (live_more0 h2 [some ⟨true, 27, [.int .u8 (ch % 256), .int .u8 s, .slice (some ⟨j, 0, none⟩) 4 1]⟩]) X)
      have := sameFrame_f _ (ch % 256) s (ch % 256) s _ _ (pbS v) (pbS v) b1 b2 (by simp [pbS])
      rw [show decide (ch % 256 = ch % 256 ∧ s = s ∧ pbS v = pbS v) = true by simp] at this
      exact ⟨_, this⟩
    have k14 : live (((F ++ X1) ++ [some ⟨true, 27, [.int .u8 (ch % 256), .int .u8 s, .slice (some ⟨i, 0, none⟩) 4 1]⟩])) (F.length + X1.length) = some ⟨true, 27, [.int .u8 (ch % 256), .int .u8 s, .slice (some ⟨i, 0, none⟩) 4 1]⟩ := by rw [← List.length_append]; exact (live_app_len _ _).trans rfl
    have k14 := live_more0 (live_more0 k14 X2) [some ⟨true, 27, [.int .u8 (ch % 256), .int .u8 s, .slice (some ⟨j, 0, none⟩) 4 1]⟩]
    have k16 : live ((((F ++ X1) ++ [some ⟨true, 27, [.int .u8 (ch % 256), .int .u8 s, .slice (some ⟨i, 0, none⟩) 4 1]⟩]) ++ X2) ++ [some ⟨true, 27, [.int .u8 (ch % 256), .int .u8 s, .slice (some ⟨j, 0, none⟩) 4 1]⟩]) (F.length + (X1.length + (X2.length + 1))) = some ⟨true, 27, [.int .u8 (ch % 256), .int .u8 s, .slice (some ⟨j, 0, none⟩) 4 1]⟩ := by
      have hl : F.length + (X1.length + (X2.length + 1)) = (((F ++ X1) ++ [some (⟨true, 27, [.int .u8 (ch % 256), .int .u8 s, .slice (some ⟨i, 0, none⟩) 4 1]⟩ : Blk)]) ++ X2).length := by simp
      rw [hl]; exact (live_app_len _ _).trans rfl
    have hm2 := (((hm.more X1).more [some ⟨true, 27, [.int .u8 (ch % 256), .int .u8 s, .slice (some ⟨i, 0, none⟩) 4 1]⟩]).more X2).more [some ⟨true, 27, [.int .u8 (ch % 256), .int .u8 s, .slice (some ⟨j, 0, none⟩) 4 1]⟩]
    simp only [List.append_assoc, List.cons_append, List.nil_append] at e2 eF k14 k16 hm2
    obtain ⟨r7, r9, r10, r11, r12, r13⟩ := hs
    simp (maxDischargeDepth := 8) only [q11t, c11_8, c11_9, r0, r1, r2, r7, r9, r10, r11, r12, r13, e1, e2, RUN, Ed, knd, kndR, resV, binInt, mnmxV, mnmx2, fillL, unV, lenV, extractV, partV, loadAt, Nat.reduceAdd, Nat.reduceBEq, Nat.reduceEqDiff, Nat.reduceLT, Nat.reduceLeDiff, Nat.reduceMul, Nat.reduceSub, reduceIte, Int.reduceEq, Int.reduceNe, Int.reduceLT, Int.reduceLE, Int.reduceAdd, Int.reduceSub, Int.reduceMul, Int.reduceNeg, Int.reduceMod, Int.reduceDiv, Int.reduceTMod, Int.reduceTDiv, Int.reduceToNat, okChain_i, okLoads_nil, okLoads_in, okLoads_eq]
    refine read11 p7 p10 p12 _ _ is lo hi id s2 hid bv B hb _ _ rfl rfl .nilIface 0 _ eIn _ _ ⟨?_, ?_, ?_, ?_, ?_, ?_⟩ hm2 eF ?_ ?_ ?_ ?_ k14 k16
    all_goals simp (maxDischargeDepth := 8) only [r7, r9, r10, r11, r12, r13, RUN, Ed, knd, kndR, resV, binInt, mnmxV, mnmx2, fillL, unV, lenV, extractV, partV, loadAt, Nat.reduceAdd, Nat.reduceBEq, Nat.reduceEqDiff, Nat.reduceLT, Nat.reduceLeDiff, Nat.reduceMul, Nat.reduceSub, reduceIte, Int.reduceEq, Int.reduceNe, Int.reduceLT, Int.reduceLE, Int.reduceAdd, Int.reduceSub, Int.reduceMul, Int.reduceNeg, Int.reduceMod, Int.reduceDiv, Int.reduceTMod, Int.reduceTDiv, Int.reduceToNat, okChain_i, okLoads_nil, okLoads_in, okLoads_eq]
  · obtain ⟨X1, e1⟩ := sputBad_f all7 ch s v F hm.e rfl hg
    obtain ⟨X2, e2⟩ := squtBad_f ch s v ((F ++ X1) ++ [some ⟨true, 27, zeroF⟩]) hg
    have eF : SameFr ((((F ++ X1) ++ [some ⟨true, 27, zeroF⟩]) ++ X2) ++ [some ⟨true, 27, zeroF⟩]) zeroF zeroF := fun X => ⟨_, sfZ _⟩
    have k14 : live (((F ++ X1) ++ [some ⟨true, 27, zeroF⟩])) (F.length + X1.length) = some ⟨true, 27, zeroF⟩ := by rw [← List.length_append]; exact (live_app_len _ _).trans rfl
    have k14 := live_more0 (live_more0 k14 X2) [some ⟨true, 27, zeroF⟩]
    have k16 : live ((((F ++ X1) ++ [some ⟨true, 27, zeroF⟩]) ++ X2) ++ [some ⟨true, 27, zeroF⟩]) (F.length + (X1.length + (X2.length + 1))) = some ⟨true, 27, zeroF⟩ := by
      have hl : F.length + (X1.length + (X2.length + 1)) = (((F ++ X1) ++ [some (⟨true, 27, zeroF⟩ : Blk)]) ++ X2).length := by simp
      rw [hl]; exact (live_app_len _ _).trans rfl
    have hm2 := (((hm.more X1).more [some ⟨true, 27, zeroF⟩]).more X2).more [some ⟨true, 27, zeroF⟩]
    simp only [List.append_assoc, List.cons_append, List.nil_append, zeroF] at e1 e2 eF k14 k16 hm2
    obtain ⟨r7, r9, r10, r11, r12, r13⟩ := hs
    simp (maxDischargeDepth := 8) only [q11t, c11_8, c11_9, r0, r1, r2, r7, r9, r10, r11, r12, r13, e1, e2, RUN, Ed, knd, kndR, resV, binInt, mnmxV, mnmx2, fillL, unV, lenV, extractV, partV, loadAt, Nat.reduceAdd, Nat.reduceBEq, Nat.reduceEqDiff, Nat.reduceLT, Nat.reduceLeDiff, Nat.reduceMul, Nat.reduceSub, reduceIte, Int.reduceEq, Int.reduceNe, Int.reduceLT, Int.reduceLE, Int.reduceAdd, Int.reduceSub, Int.reduceMul, Int.reduceNeg, Int.reduceMod, Int.reduceDiv, Int.reduceTMod, Int.reduceTDiv, Int.reduceToNat, okChain_i, okLoads_nil, okLoads_in, okLoads_eq]
    refine read11 p7 p10 p12 _ _ is lo hi id s2 hid bv B hb _ _ rfl rfl (Err 0) 101 _ eI0 _ _ ⟨?_, ?_, ?_, ?_, ?_, ?_⟩ hm2 eF ?_ ?_ ?_ ?_ k14 k16
    all_goals simp (maxDischargeDepth := 8) only [r7, r9, r10, r11, r12, r13, RUN, Ed, knd, kndR, resV, binInt, mnmxV, mnmx2, fillL, unV, lenV, extractV, partV, loadAt, Nat.reduceAdd, Nat.reduceBEq, Nat.reduceEqDiff, Nat.reduceLT, Nat.reduceLeDiff, Nat.reduceMul, Nat.reduceSub, reduceIte, Int.reduceEq, Int.reduceNe, Int.reduceLT, Int.reduceLE, Int.reduceAdd, Int.reduceSub, Int.reduceMul, Int.reduceNeg, Int.reduceMod, Int.reduceDiv, Int.reduceTMod, Int.reduceTDiv, Int.reduceToNat, okChain_i, okLoads_nil, okLoads_in, okLoads_eq]
theorem ssays (ch s v id s2 : Int) (hid : 0 ≤ id ∧ id < 256) (bv : Value) (B : List Int) (hb : ∀ b ∈ B, 0 ≤ b ∧ b < 256) (H : Heap) (h : EH all7 H) (hB : BS H bv B) :
    Ok (K 11 [.int .i64 ch, .int .u8 s, .int .i64 v, .agg ⟨[.int .u8 id, .int .u8 s2, bv]⟩] H) := by
  obtain ⟨H1, hH1⟩ : ∃ H1, H1 = H ++ [some ⟨true, 27, [.int .u8 id, .int .u8 s2, bv]⟩] := ⟨_, rfl⟩
  obtain ⟨X0, e0⟩ := firstS_f H1
  obtain ⟨G, hG⟩ : ∃ G, G = H1 ++ X0 := ⟨_, rfl⟩
  simp only [K] at e0
  rw [← hG] at e0
  have hE : EH all7 G := by rw [hG, hH1]; exact (h.more _).more _
  have hB2 : BS G bv B := by rw [hG, hH1]; exact (hB.more _).more _
  have k7 : live G H.length = some ⟨true, 27, [.int .u8 id, .int .u8 s2, bv]⟩ := by rw [hG, hH1]; exact live_more0 ((live_app_len _ _).trans rfl) _
  have i7 := live_lt k7
  have l2 := hB.len
  obtain ⟨o1, o2⟩ := hB.one
  rw [K, D_eq p11 _ _ (Nat.le_of_ble_eq_true rfl)]
  by_cases h40 : (40 : Int) < (B.length : Int)
  · simp (maxDischargeDepth := 8) only [r11, b11t, c11_0, o1, o2, ← hH1, RUN, Ed, knd, kndR, resV, binInt, mnmxV, mnmx2, fillL, unV, extractV, partV, loadAt, Nat.reduceAdd, Nat.reduceBEq, Nat.reduceEqDiff, Nat.reduceLT, Nat.reduceLeDiff, Nat.reduceMul, Nat.reduceSub, reduceIte, Int.reduceEq, Int.reduceNe, Int.reduceLT, Int.reduceLE, Int.reduceAdd, Int.reduceSub, Int.reduceMul, Int.reduceNeg, Int.reduceMod, Int.reduceDiv, Int.reduceTMod, Int.reduceTDiv, Int.reduceToNat, okChain_i, okLoads_nil, okLoads_in, okLoads_eq]
    simp (maxDischargeDepth := 8) only [c11_1, c11_2, c11_3, c11_4, c11_5, e0, k7, i7, l2, h40, RUN, Ed, knd, kndR, resV, binInt, mnmxV, mnmx2, fillL, unV, extractV, partV, loadAt, Nat.reduceAdd, Nat.reduceBEq, Nat.reduceEqDiff, Nat.reduceLT, Nat.reduceLeDiff, Nat.reduceMul, Nat.reduceSub, reduceIte, Int.reduceEq, Int.reduceNe, Int.reduceLT, Int.reduceLE, Int.reduceAdd, Int.reduceSub, Int.reduceMul, Int.reduceNeg, Int.reduceMod, Int.reduceDiv, Int.reduceTMod, Int.reduceTDiv, Int.reduceToNat, okChain_i, okLoads_nil, okLoads_in, okLoads_eq]
    exact Ok.mk _
  have er := fun G => range_f ch G
  have eq := fun G => range2_f ch G
  obtain ⟨lo, hi, is, hz⟩ : ∃ lo hi is, rgS ch = (lo, hi, is) := ⟨_, _, _, rfl⟩
  rw [hz] at er eq
  simp only [K] at er eq
  cases is
  · simp (maxDischargeDepth := 8) only [r11, b11t, c11_0, o1, o2, ← hH1, RUN, Ed, knd, kndR, resV, binInt, mnmxV, mnmx2, fillL, unV, extractV, partV, loadAt, Nat.reduceAdd, Nat.reduceBEq, Nat.reduceEqDiff, Nat.reduceLT, Nat.reduceLeDiff, Nat.reduceMul, Nat.reduceSub, reduceIte, Int.reduceEq, Int.reduceNe, Int.reduceLT, Int.reduceLE, Int.reduceAdd, Int.reduceSub, Int.reduceMul, Int.reduceNeg, Int.reduceMod, Int.reduceDiv, Int.reduceTMod, Int.reduceTDiv, Int.reduceToNat, okChain_i, okLoads_nil, okLoads_in, okLoads_eq]
    simp (maxDischargeDepth := 8) only [c11_1, c11_2, c11_3, c11_4, c11_5, a11t, c11_6, c11_7, e0, k7, i7, l2, h40, er, eq, RUN, Ed, knd, kndR, resV, binInt, mnmxV, mnmx2, fillL, unV, extractV, partV, loadAt, Nat.reduceAdd, Nat.reduceBEq, Nat.reduceEqDiff, Nat.reduceLT, Nat.reduceLeDiff, Nat.reduceMul, Nat.reduceSub, reduceIte, Int.reduceEq, Int.reduceNe, Int.reduceLT, Int.reduceLE, Int.reduceAdd, Int.reduceSub, Int.reduceMul, Int.reduceNeg, Int.reduceMod, Int.reduceDiv, Int.reduceTMod, Int.reduceTDiv, Int.reduceToNat, okChain_i, okLoads_nil, okLoads_in, okLoads_eq]
    refine put11 H.length (G.length + 1) (G.length + 3) false ch s v lo hi id s2 hid bv B hb _ _ ⟨?_, ?_, ?_, ?_, ?_, ?_⟩ ⟨hE.more _, hB2.more _, live_more0 k7 _, (live_app_add _ _ _).trans rfl, (live_app_add _ _ _).trans rfl⟩ ?_ ?_ ?_
    all_goals simp (maxDischargeDepth := 8) only [RUN, Ed, knd, kndR, resV, binInt, mnmxV, mnmx2, fillL, unV, lenV, extractV, partV, loadAt, Nat.reduceAdd, Nat.reduceBEq, Nat.reduceEqDiff, Nat.reduceLT, Nat.reduceLeDiff, Nat.reduceMul, Nat.reduceSub, reduceIte, Int.reduceEq, Int.reduceNe, Int.reduceLT, Int.reduceLE, Int.reduceAdd, Int.reduceSub, Int.reduceMul, Int.reduceNeg, Int.reduceMod, Int.reduceDiv, Int.reduceTMod, Int.reduceTDiv, Int.reduceToNat, okChain_i, okLoads_nil, okLoads_in, okLoads_eq]
  · simp (maxDischargeDepth := 8) only [r11, b11t, c11_0, o1, o2, ← hH1, RUN, Ed, knd, kndR, resV, binInt, mnmxV, mnmx2, fillL, unV, extractV, partV, loadAt, Nat.reduceAdd, Nat.reduceBEq, Nat.reduceEqDiff, Nat.reduceLT, Nat.reduceLeDiff, Nat.reduceMul, Nat.reduceSub, reduceIte, Int.reduceEq, Int.reduceNe, Int.reduceLT, Int.reduceLE, Int.reduceAdd, Int.reduceSub, Int.reduceMul, Int.reduceNeg, Int.reduceMod, Int.reduceDiv, Int.reduceTMod, Int.reduceTDiv, Int.reduceToNat, okChain_i, okLoads_nil, okLoads_in, okLoads_eq]
    simp (maxDischargeDepth := 8) only [c11_1, c11_2, c11_3, c11_4, c11_5, a11t, c11_6, c11_7, e0, k7, i7, l2, h40, er, eq, RUN, Ed, knd, kndR, resV, binInt, mnmxV, mnmx2, fillL, unV, extractV, partV, loadAt, Nat.reduceAdd, Nat.reduceBEq, Nat.reduceEqDiff, Nat.reduceLT, Nat.reduceLeDiff, Nat.reduceMul, Nat.reduceSub, reduceIte, Int.reduceEq, Int.reduceNe, Int.reduceLT, Int.reduceLE, Int.reduceAdd, Int.reduceSub, Int.reduceMul, Int.reduceNeg, Int.reduceMod, Int.reduceDiv, Int.reduceTMod, Int.reduceTDiv, Int.reduceToNat, okChain_i, okLoads_nil, okLoads_in, okLoads_eq]
    refine put11 H.length (G.length + 2) (G.length + 4) true ch s v lo hi id s2 hid bv B hb _ _ ⟨?_, ?_, ?_, ?_, ?_, ?_⟩ ⟨hE.more _, hB2.more _, live_more0 k7 _, (live_app_add _ _ _).trans rfl, (live_app_add _ _ _).trans rfl⟩ ?_ ?_ ?_
    all_goals simp (maxDischargeDepth := 8) only [RUN, Ed, knd, kndR, resV, binInt, mnmxV, mnmx2, fillL, unV, lenV, extractV, partV, loadAt, Nat.reduceAdd, Nat.reduceBEq, Nat.reduceEqDiff, Nat.reduceLT, Nat.reduceLeDiff, Nat.reduceMul, Nat.reduceSub, reduceIte, Int.reduceEq, Int.reduceNe, Int.reduceLT, Int.reduceLE, Int.reduceAdd, Int.reduceSub, Int.reduceMul, Int.reduceNeg, Int.reduceMod, Int.reduceDiv, Int.reduceTMod, Int.reduceTDiv, Int.reduceToNat, okChain_i, okLoads_nil, okLoads_in, okLoads_eq]
def sh11 : List Sh := [.int .i64, .int .u8, .int .i64, .agg ((.cons (.int .u8) (.cons (.int .u8) (.cons (.slice (.int .u8)) .nil))))]
theorem ssays_law (H : Heap) (h : EH all7 H) (ls : List (List Value)) (o : OpnAll H sh11 ls) : Ok (K 11 (argsS sh11 ls) H) := by
  obtain ⟨l0, _, rfl, h0, o⟩ := o.uncons
  obtain ⟨l1, _, rfl, h1, o⟩ := o.uncons
  obtain ⟨l2, _, rfl, h2, o⟩ := o.uncons
  obtain ⟨l3, _, rfl, h3, o⟩ := o.uncons
  cases o.unnil
  obtain ⟨id, s2, bv, B, rfl, hB, hb, hid, _⟩ := Opn_frame h3
  simp only [Opn.eq_1] at h0 h1 h2
  obtain ⟨ch, rfl, _⟩ := h0
  obtain ⟨s, rfl, _⟩ := h1
  obtain ⟨v, rfl, _⟩ := h2
  exact ssays ch s v id s2 hid bv B hb H h hB
end Go.Proofs.YtdmfedmhcegggaaDoor.Sim
