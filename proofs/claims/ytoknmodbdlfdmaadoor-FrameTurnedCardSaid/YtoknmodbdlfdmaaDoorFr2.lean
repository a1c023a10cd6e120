/- Frames over the plain heap: their bytes, copies, what bytes begin with. -/
import Derived.Test.YtoknmodbdlfdmaaDoorFr1
import Derived.Test.YtoknmodbdlfdmaaDoorSim21
namespace Go.Proofs.YtoknmodbdlfdmaaDoor.Sim
open Go Go.Proofs.YtoknmodbdlfdmaaDoor.CrcMath
set_option linter.unusedSimpArgs false
set_option linter.unusedVariables false
abbrev Fra := B8 × B8 × List B8
def hi (s : BitVec 16) : B8 := (s >>> 8).setWidth 8
def lo (s : BitVec 16) : B8 := s.setWidth 8
def word (a b : B8) : BitVec 16 := up a ||| b.setWidth 16
def hdr (f : Fra) : List B8 := f.1 :: f.2.1 :: BitVec.ofNat 8 f.2.2.length :: f.2.2
/-- A frame's bytes. -/
def frB (f : Fra) : List B8 := 0x7e#8 :: hdr f ++ [hi (crc (hdr f)), lo (crc (hdr f))]
theorem frB_len (f : Fra) : (frB f).length = f.2.2.length + 6 := by simp [frB, hdr]
theorem e_hi (s : BitVec 16) : IntKind.u8.wrap ((w16 s).fdiv (2 ^ min 8 IntKind.u16.bits)) = w8 (hi s) := by
  have h : (w16 s).fdiv (2 ^ min 8 IntKind.u16.bits) = w16 s / 256 := by
    rw [Int.fdiv_eq_ediv_of_nonneg _ (by decide)]; rfl
  rw [h, show hi s = (s >>> 8).setWidth 8 from rfl, ← hi8]
  have h1 := w16_ge s
  have h2 := w16_lt s
  have e : w16 s / 256 = ((w16 s / 256).toNat : Int) := by omega
  rw [e, wrap8]
  omega
theorem e_lo (s : BitVec 16) : IntKind.u8.wrap (w16 s) = w8 (lo s) := by
  rw [show lo s = s.setWidth 8 from rfl, ← lo8]
  have h1 := w16_ge s
  have h2 := w16_lt s
  have e : w16 s = ((w16 s).toNat : Int) := by omega
  rw [e, wrap8]
  omega
theorem e_16 (b : B8) : IntKind.u16.wrap (w8 b) = w16 (b.setWidth 16) := by
  have hb := b.isLt
  unfold w8 w16
  rw [wrap16, BitVec.toNat_setWidth]
theorem e_or (a b : BitVec 16) : IntKind.u16.wrap ((BitVec.ofInt IntKind.u16.bits (w16 a) ||| BitVec.ofInt IntKind.u16.bits (w16 b)).toNat : Int) = w16 (a ||| b) := by
  show IntKind.u16.wrap ((BitVec.ofInt 16 (w16 a) ||| BitVec.ofInt 16 (w16 b)).toNat : Int) = w16 (a ||| b)
  rw [ofInt_w16, ofInt_w16, wrap16_id]
theorem e_up2 (x : B8) : IntKind.u16.wrap (w16 (x.setWidth 16) * 2 ^ min 8 IntKind.u16.bits) = w16 (up x) := by
  rw [← e_16]; exact e_up x
theorem e_n8 (n : Nat) (h : n ≤ 32) : IntKind.u8.wrap (n : Int) = w8 (BitVec.ofNat 8 n) := by
  unfold w8
  rw [wrap8, BitVec.toNat_ofNat]
theorem e_64 (b : B8) : IntKind.i64.wrap (w8 b) = ((b.toNat : Nat) : Int) := by
  have hb := b.isLt
  exact wrap64 _ (by unfold w8; omega) (by unfold w8; omega)
theorem e_eq16 (a b : BitVec 16) : decide (w16 a = w16 b) = decide (a = b) := decide_eq_decide.2 w16_inj
theorem w8_inj {a b : B8} : w8 a = w8 b ↔ a = b := by
  constructor
  · intro h; rw [← ofInt_w8 a, h, ofInt_w8]
  · rintro rfl; rfl
theorem e_eq8 (a b : B8) : decide (w8 a = w8 b) = decide (a = b) := decide_eq_decide.2 w8_inj
theorem e_mark (a : B8) : decide (w8 a = 126) = decide (a = 0x7e#8) := e_eq8 a 0x7e#8
theorem map_w8_inj {l m : List B8} : l.map w8 = m.map w8 ↔ l = m := List.map_inj_right (fun x y h => w8_inj.1 h)
theorem clone_f (v : Value) (A : List Int) (hl : A.length ≤ 1000000) (H : Heap) (hB : BS H v A) : ∃ w F, D Tryd.prog hints 26 [v] H = some (w, F) ∧ Ext H F ∧ SM 5 1 H F w A.length (bL A) := by
  by_cases hv : v = .slice none 0 0
  · subst hv
    have hA : A = [] := by
      rcases hB with ⟨h, _⟩ | ⟨i, o, e, _, _, _, h, _⟩
      · exact h
      · cases h
    subst hA
    refine ⟨.slice none 0 0, H, ?_, Ext.refl H, SM.nil _ _ _ _⟩
    rw [D_eq p26 _ _ (Nat.le_of_ble_eq_true rfl)]
    simp (maxDischargeDepth := 8) only [r26, b26, c26_0, c26_1, c26_2, c26_3, RUN, Ed, knd, kndR, resV, binInt, mnmxV, mnmx2, fillL, unV, lenV, extractV, partV, loadAt, Nat.reduceAdd, Nat.reduceBEq, Nat.reduceEqDiff, Nat.reduceLT, Nat.reduceLeDiff, Nat.reduceMul, Nat.reduceSub, reduceIte, Int.reduceEq, Int.reduceNe, Int.reduceLT, Int.reduceLE, Int.reduceAdd, Int.reduceSub, Int.reduceMul, Int.reduceNeg, Int.reduceMod, Int.reduceDiv, Int.reduceTMod, Int.reduceTDiv, Int.reduceToNat, okChain_i, okLoads_nil, okLoads_in, okLoads_eq]
  · have hs : ∀ x y, sameV .slice x y v (.slice none 0 0) = some false := by
      intro x y
      rcases hB with ⟨h, e, rfl⟩ | ⟨i, o, e, _, _, _, rfl, _⟩
      · cases e with
        | zero => exact (hv rfl).elim
        | succ e => rfl
      · rfl
    have hc := (hB.more [some ⟨true, 5, []⟩]).cells
    have hsm : SM 5 1 H (H ++ [some ⟨true, 5, []⟩]) (.slice (some ⟨H.length, 0, none⟩) 0 1) 0 [] := .inr ⟨H.length, Nat.le_refl _, rfl, (live_app_len _ _).trans rfl, rfl⟩
    obtain ⟨w, F, ea, hm, he, _⟩ := hsm.appendX (bytes := 1) (Ext.more H _) (Ext.refl _) hc.1 hc.2 (by rw [bL_len]; omega) (by omega) (bL_one A)
    rw [List.nil_append, Nat.zero_add] at hm
    refine ⟨w, F, ?_, he, hm⟩
    rw [D_eq p26 _ _ (Nat.le_of_ble_eq_true rfl)]
    simp (maxDischargeDepth := 8) only [r26, b26, c26_0, c26_1, c26_2, c26_3, hs, ea, RUN, Ed, knd, kndR, resV, binInt, mnmxV, mnmx2, fillL, unV, lenV, extractV, partV, loadAt, Nat.reduceAdd, Nat.reduceBEq, Nat.reduceEqDiff, Nat.reduceLT, Nat.reduceLeDiff, Nat.reduceMul, Nat.reduceSub, reduceIte, Int.reduceEq, Int.reduceNe, Int.reduceLT, Int.reduceLE, Int.reduceAdd, Int.reduceSub, Int.reduceMul, Int.reduceNeg, Int.reduceMod, Int.reduceDiv, Int.reduceTMod, Int.reduceTDiv, Int.reduceToNat, okChain_i, okLoads_nil, okLoads_in, okLoads_eq]
theorem frB_map (f : Fra) : (frB f).map w8 = ([126, w8 f.1, w8 f.2.1, w8 (BitVec.ofNat 8 f.2.2.length)] ++ f.2.2.map w8) ++ [w8 (hi (crc (hdr f))), w8 (lo (crc (hdr f)))] := by
  simp [frB, hdr]; rfl
theorem frame_f (f : Fra) (v : Value) (hl : f.2.2.length ≤ 32) (H : Heap) (hB : BS H v (f.2.2.map w8)) :
    ∃ w F, D Tryd.prog hints 9 [.agg ⟨[.int .u8 (w8 f.1), .int .u8 (w8 f.2.1), v]⟩] H = some (.tuple ⟨[w, .nilIface]⟩, F) ∧ Ext H F ∧ SM 5 1 H F w (frB f).length (bL ((frB f).map w8)) := by
  obtain ⟨id, seq, body⟩ := f
  simp only at hl hB ⊢
  have l1 := hB.len
  rw [List.length_map] at l1
  obtain ⟨o1, o2⟩ := hB.one
  have hlt : ¬ ((32 : Int) < (body.length : Int)) := by omega
  have hn := e_n8 body.length hl
  have hG : Ext H (H ++ [some ⟨true, 24, [.int .u8 (w8 id), .int .u8 (w8 seq), v]⟩, some ⟨true, 5, bL [126, w8 id, w8 seq, w8 (BitVec.ofNat 8 body.length)]⟩]) := Ext.more _ _
  have hc := (hB.ext hG).cells
  have hsm : SM 5 1 H (H ++ [some ⟨true, 24, [.int .u8 (w8 id), .int .u8 (w8 seq), v]⟩, some ⟨true, 5, bL [126, w8 id, w8 seq, w8 (BitVec.ofNat 8 body.length)]⟩]) (.slice (some ⟨H.length + 1, 0, none⟩) 4 1) 4 (bL [126, w8 id, w8 seq, w8 (BitVec.ofNat 8 body.length)]) :=
    .inr ⟨H.length + 1, by omega, rfl, (live_app_add _ _ _).trans rfl, rfl⟩
  obtain ⟨w2, F2, ea, hm2, he2, hk2, _, hle2⟩ := hsm.appendX (bytes := 1) hG (Ext.refl _) hc.1 hc.2 (by rw [bL_len]; omega) (by rw [List.length_map]; omega) (bL_one _)
  rw [← bL_app, List.length_map] at hm2
  have hb2 : BS F2 w2 ((0x7e#8 :: hdr (id, seq, body)).map w8) := by
    have := hm2
    have e : (4 + body.length) = ([126, w8 id, w8 seq, w8 (BitVec.ofNat 8 body.length)] ++ body.map w8).length := by simp; omega
    rw [e] at this
    have := this.BS
    exact this
  obtain ⟨w3, es, hb3⟩ := hb2.cut (lo := some (.int .i64 1)) (hi := none) (l := 1) (r := ((0x7e#8 :: hdr (id, seq, body)).map w8).length) rfl rfl (by simp) (Nat.le_refl _)
  rw [List.take_length, List.map_cons, List.drop_one, List.tail_cons] at hb3
  have ecrc := sum_f w3 (hdr (id, seq, body)) (by simp [hdr]; omega) F2 hb3
  have hF3 : Ext F2 (F2 ++ [some ⟨true, 5, bL [w8 (hi (crc (hdr (id, seq, body)))), w8 (lo (crc (hdr (id, seq, body))))]⟩]) := Ext.more _ _
  obtain ⟨w4, F4, eb, hm4, he4, _⟩ := hm2.append (bytes := 1) he2 hF3 (j := F2.length) (m := 2) (e := 1) (o := true) (t := 5) ((live_app_len _ _).trans rfl) (by omega) rfl (by omega) (bL_one _)
  rw [← bL_app, ← frB_map (id, seq, body)] at hm4
  generalize hdr (id, seq, body) = hd at *
  refine ⟨w4, F4, ?_, he4, ?_⟩
  · rw [D_eq p9 _ _ (Nat.le_of_ble_eq_true rfl)]
    simp only [bL, List.map_cons, List.map_nil] at ea eb
    simp (maxDischargeDepth := 8) only [r9, b9, c9_0, c9_1, c9_2, c9_3, c9_4, c9_5, c9_6, l1, hlt, hn, o1, o2, ea, es, ecrc, e_hi, e_lo, eb, RUN, Ed, knd, kndR, resV, binInt, mnmxV, mnmx2, fillL, unV, extractV, partV, loadAt, Nat.reduceAdd, Nat.reduceBEq, Nat.reduceEqDiff, Nat.reduceLT, Nat.reduceLeDiff, Nat.reduceMul, Nat.reduceSub, reduceIte, Int.reduceEq, Int.reduceNe, Int.reduceLT, Int.reduceLE, Int.reduceAdd, Int.reduceSub, Int.reduceMul, Int.reduceNeg, Int.reduceMod, Int.reduceDiv, Int.reduceTMod, Int.reduceTDiv, Int.reduceToNat, okChain_i, okLoads_nil, okLoads_in, okLoads_eq]
  · rw [frB_len]
    rw [show 4 + body.length + 2 = body.length + 6 by omega] at hm4
    exact hm4
theorem frame_long (f : Fra) (v : Value) (hl : 32 < f.2.2.length) (H : Heap) (hB : BS H v (f.2.2.map w8)) (hE : EH all7 H) :
    ∃ X, D Tryd.prog hints 9 [.agg ⟨[.int .u8 (w8 f.1), .int .u8 (w8 f.2.1), v]⟩] H = some (.tuple ⟨[.slice none 0 0, Err 1]⟩, H ++ X) := by
  have l1 := hB.len
  rw [List.length_map] at l1
  obtain ⟨o1, o2⟩ := hB.one
  have hlt : (32 : Int) < (f.2.2.length : Int) := by omega
  obtain ⟨ty, e1⟩ := hE 1 (by omega) rfl
  have i1 := live_ltG e1
  refine ⟨?X, ?run⟩
  case run =>
    rw [D_eq p9 _ _ (Nat.le_of_ble_eq_true rfl)]
    simp (maxDischargeDepth := 8) only [r9, b9, c9_0, c9_1, c9_2, c9_3, c9_4, c9_5, c9_6, l1, hlt, o1, o2, e1, i1, g0, RUN, Ed, knd, kndR, resV, binInt, mnmxV, mnmx2, fillL, unV, extractV, partV, loadAt, Nat.reduceAdd, Nat.reduceBEq, Nat.reduceEqDiff, Nat.reduceLT, Nat.reduceLeDiff, Nat.reduceMul, Nat.reduceSub, reduceIte, Int.reduceEq, Int.reduceNe, Int.reduceLT, Int.reduceLE, Int.reduceAdd, Int.reduceSub, Int.reduceMul, Int.reduceNeg, Int.reduceMod, Int.reduceDiv, Int.reduceTMod, Int.reduceTDiv, Int.reduceToNat, okChain_i, okLoads_nil, okLoads_in, okLoads_eq]
    rfl
theorem size_f (id seq : Int) (v : Value) (n : Nat) (hl : n ≤ 1000000) (H : Heap) (A : List Int) (hB : BS H v A) (hn : A.length = n) : D Tryd.prog hints 16 [.agg ⟨[.int .u8 id, .int .u8 seq, v]⟩] H = some (.int .i64 (6 + n), H ++ [some ⟨true, 24, [.int .u8 id, .int .u8 seq, v]⟩]) := by
  have l1 := hB.len
  rw [hn] at l1
  obtain ⟨o1, o2⟩ := hB.one
  have w := wrap64 (6 + (n : Int)) (by omega) (by omega)
  rw [D_eq p16 _ _ (Nat.le_of_ble_eq_true rfl)]
  simp (maxDischargeDepth := 8) only [r16, b16, c16_0, c16_1, l1, w, o1, o2, RUN, Ed, knd, kndR, resV, binInt, mnmxV, mnmx2, fillL, unV, extractV, partV, loadAt, Nat.reduceAdd, Nat.reduceBEq, Nat.reduceEqDiff, Nat.reduceLT, Nat.reduceLeDiff, Nat.reduceMul, Nat.reduceSub, reduceIte, Int.reduceEq, Int.reduceNe, Int.reduceLT, Int.reduceLE, Int.reduceAdd, Int.reduceSub, Int.reduceMul, Int.reduceNeg, Int.reduceMod, Int.reduceDiv, Int.reduceTMod, Int.reduceTDiv, Int.reduceToNat, okChain_i, okLoads_nil, okLoads_in, okLoads_eq]
end Go.Proofs.YtoknmodbdlfdmaaDoor.Sim
