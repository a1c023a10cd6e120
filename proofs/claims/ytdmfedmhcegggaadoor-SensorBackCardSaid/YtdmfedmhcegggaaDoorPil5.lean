/- PilotSays over the plain heap: a row of commands. -/
import Derived.Test.YtdmfedmhcegggaaDoorPil4
import Derived.Test.YtdmfedmhcegggaaDoorSim21
namespace Go.Proofs.YtdmfedmhcegggaaDoor.Sim
open Go
set_option linter.unusedSimpArgs false
set_option linter.unusedVariables false
structure S8 (v : Value) (p q k : Nat) (ρ : Fr) : Prop where
  q4 : ρ 4 = v
  q11 : ρ 11 = .bool true
  q22 : ρ 22 = .pointer (some ⟨p, 0, none⟩)
  q23 : ρ 23 = .pointer (some ⟨q, 0, none⟩)
  q24 : ρ 24 = .int .i64 k
def M8 (H : Heap) (p q : Nat) (G : Heap) : Prop := ∃ x : PS, x.ok ∧ live G p = some ⟨true, 58, x.L⟩ ∧ live G q = some ⟨true, 59, x.L⟩ ∧ ∀ j b, j ≠ p → j ≠ q → live H j = some b → live G j = some b
theorem round8 (H : Heap) (v : Value) (A : List (Int × Int)) (hA : RS H v A) (p q : Nat) (hpq : p ≠ q) (hpo : ∀ ty cells, live H p ≠ some ⟨false, ty, cells⟩) (hqo : ∀ ty cells, live H q ≠ some ⟨false, ty, cells⟩) (k : Nat) (e : Int × Int) (ha : A[k]? = some e) (hl : A.length ≤ 40) (ρ : Fr) (G0 : Heap) (hs : S8 v p q k ρ) (hm : M8 H p q G0) :
    ∃ ρ' G', E Tryd.prog hints l8_0 ρ G0 = some (.normal, ρ', G') ∧ S8 v p q (k + 1) ρ' ∧ M8 H p q G' := by
  obtain ⟨q4, q11, q22, q23, q24⟩ := hs
  obtain ⟨x, hx, k1, k2, hk3⟩ := hm
  obtain ⟨i, e1, ty, cells, e2, e3, e4⟩ := hA.idx ha
  have l1 := hA.len
  have hk : k < A.length := by
    rcases Nat.lt_or_ge k A.length with q | q
    · exact q
    · rw [List.getElem?_eq_none q] at ha; cases ha
  have hlt : (k : Int) < (A.length : Int) := by omega
  have hip : i ≠ p := by rintro rfl; exact hpo _ _ e2
  have hiq : i ≠ q := by rintro rfl; exact hqo _ _ e2
  have f0 := hk3 i _ hip hiq e2
  have ip := live_lt k1
  have iq := live_lt k2
  have i0 := live_lt f0
  have w := wrap64 ((k : Int) + 1) (by omega) (by omega)
  have x0' : idxAV 2 1 (.pointer (some ⟨i, k * 2, none⟩)) (.int .i64 0) = some (.pointer (some ⟨i, k * 2, none⟩)) := rfl
  have x1' : idxAV 2 1 (.pointer (some ⟨i, k * 2, none⟩)) (.int .i64 1) = some (.pointer (some ⟨i, k * 2 + 1, none⟩)) := rfl
  have ea := apply_f p x e.1 e.2 58 G0 k1 hx
  obtain ⟨G1, hG1⟩ : ∃ G1, G1 = G0.set p (some ⟨true, 58, (apP x e.1 e.2).L⟩) := ⟨_, rfl⟩
  rw [← hG1] at ea
  have k21 : live G1 q = some ⟨true, 59, x.L⟩ := by rw [hG1, live_set_ne _ _ _ _ (by omega)]; exact k2
  have k11 : live G1 p = some ⟨true, 58, (apP x e.1 e.2).L⟩ := by rw [hG1]; exact live_set_eq _ _ _ ip
  have f1 : live G1 i = some ⟨false, ty, cells⟩ := by rw [hG1, live_set_ne _ _ _ _ (by omega)]; exact f0
  have eb := apply2_f q x e.1 e.2 59 G1 k21 hx
  obtain ⟨G2, hG2⟩ : ∃ G2, G2 = G1.set q (some ⟨true, 59, (apP x e.1 e.2).L⟩) := ⟨_, rfl⟩
  rw [← hG2] at eb
  have k22 : live G2 q = some ⟨true, 59, (apP x e.1 e.2).L⟩ := by rw [hG2]; exact live_set_eq _ _ _ (live_lt k21)
  have k12 : live G2 p = some ⟨true, 58, (apP x e.1 e.2).L⟩ := by rw [hG2, live_set_ne _ _ _ _ (by omega)]; exact k11
  have hM : M8 H p q G2 := ⟨apP x e.1 e.2, apP_ok _ _ _ hx, k12, k22, fun j b hj1 hj2 hj => by
    rw [hG2, live_set_ne _ _ _ _ (by omega), hG1, live_set_ne _ _ _ _ (by omega)]; exact hk3 j b hj1 hj2 hj⟩
  have ip1 := live_lt k11
  have iq1 := live_lt k21
  have ip2 := live_lt k12
  have iq2 := live_lt k22
  have i1 := live_lt f1
  obtain ⟨⟨xe, xs, xl, xr, xn⟩, hy⟩ : ∃ y : PS, y = apP x e.1 e.2 := ⟨_, rfl⟩
  rw [← hy] at k11 k12 k22
  simp only [K] at ea eb
  simp only [PS.L] at k11 k12 k22
  have bself : ∀ b : Bool, (b == b) = true := fun b => by simp
  generalize decide (OkC e.1 e.2) = td at ea eb
  refine ⟨?ρ1, ?G1, ?run1, ?inv1, ?inv2⟩
  case run1 =>
    simp (maxDischargeDepth := 8) only [l8_0, c8_15, c8_16, c8_17, c8_18, q4, q11, q22, q23, q24, e1, e3, e4, f0, f1, k1, k2, k11, k12, k22, ip, iq, i0, ip1, iq1, ip2, iq2, i1, l1, hlt, ea, eb, w, x0', x1', bself, Nat.mul_one, Nat.add_zero, okChain_all, RUN, Ed, knd, kndR, resV, binInt, mnmxV, mnmx2, fillL, unV, extractV, partV, loadAt, Nat.reduceAdd, Nat.reduceBEq, Nat.reduceEqDiff, Nat.reduceLT, Nat.reduceLeDiff, Nat.reduceMul, Nat.reduceSub, reduceIte, Int.reduceEq, Int.reduceNe, Int.reduceLT, Int.reduceLE, Int.reduceAdd, Int.reduceSub, Int.reduceMul, Int.reduceNeg, Int.reduceMod, Int.reduceDiv, Int.reduceTMod, Int.reduceTDiv, Int.reduceToNat]
    rfl
  case inv1 => refine ⟨?_, ?_, ?_, ?_, ?_⟩ <;> first | (simp (maxDischargeDepth := 8) only [q4, q11, q22, q23, q24, RUN, Ed, knd, kndR, resV, binInt, mnmxV, mnmx2, fillL, unV, lenV, extractV, partV, loadAt, Nat.reduceAdd, Nat.reduceBEq, Nat.reduceEqDiff, Nat.reduceLT, Nat.reduceLeDiff, Nat.reduceMul, Nat.reduceSub, reduceIte, Int.reduceEq, Int.reduceNe, Int.reduceLT, Int.reduceLE, Int.reduceAdd, Int.reduceSub, Int.reduceMul, Int.reduceNeg, Int.reduceMod, Int.reduceDiv, Int.reduceTMod, Int.reduceTDiv, Int.reduceToNat, okChain_i, okLoads_nil, okLoads_in, okLoads_eq]; done) | (simp (maxDischargeDepth := 8) only [q4, q11, q22, q23, q24, RUN, Ed, knd, kndR, resV, binInt, mnmxV, mnmx2, fillL, unV, lenV, extractV, partV, loadAt, Nat.reduceAdd, Nat.reduceBEq, Nat.reduceEqDiff, Nat.reduceLT, Nat.reduceLeDiff, Nat.reduceMul, Nat.reduceSub, reduceIte, Int.reduceEq, Int.reduceNe, Int.reduceLT, Int.reduceLE, Int.reduceAdd, Int.reduceSub, Int.reduceMul, Int.reduceNeg, Int.reduceMod, Int.reduceDiv, Int.reduceTMod, Int.reduceTDiv, Int.reduceToNat, okChain_i, okLoads_nil, okLoads_in, okLoads_eq]; rfl)
  case inv2 => exact hM
def e8 : RCode := .seq (.region c8_19) .ret
def d8 : RCode := .seq (.region c8_12) (.seq (.region c8_13) (.seq (.seq (.region c8_14) (.block 0 (.loop l8_0))) e8))
def f8 : RCode := .seq (.seq (.region c8_10) (.cond (.tmp 89) (.seq (.region c8_11) .ret) .skip)) d8
def g8 : RCode := .seq (.region c8_8) (.seq (.region c8_9) f8)
theorem b8t : b8 = .seq (.region c8_0) (.seq (.region c8_1) (.seq (.seq (.region c8_2) (.cond (.tmp 27) (.seq (.region c8_3) .ret) .skip)) (.seq (.seq (.region c8_4) (.cond (.tmp 36) (.seq (.region c8_5) .ret) .skip)) (.seq (.region c8_6) (.seq (.region c8_7) g8))))) := (rfl)
theorem row8 (v : Value) (A : List (Int × Int)) (hl : A.length ≤ 40) (ρ : Fr) (F : Heap) (hA : RS F v A) (r4 : ρ 4 = v) (r11 : ρ 11 = .bool true) : Ok (done [.tmp 10] (E Tryd.prog hints d8 ρ F)) := by
  have l1 := hA.len
  simp (maxDischargeDepth := 8) only [d8, c8_12, c8_13, c8_14, r4, r11, RUN, Ed, knd, kndR, resV, binInt, mnmxV, mnmx2, fillL, unV, lenV, extractV, partV, loadAt, Nat.reduceAdd, Nat.reduceBEq, Nat.reduceEqDiff, Nat.reduceLT, Nat.reduceLeDiff, Nat.reduceMul, Nat.reduceSub, reduceIte, Int.reduceEq, Int.reduceNe, Int.reduceLT, Int.reduceLE, Int.reduceAdd, Int.reduceSub, Int.reduceMul, Int.reduceNeg, Int.reduceMod, Int.reduceDiv, Int.reduceTMod, Int.reduceTDiv, Int.reduceToNat, okChain_i, okLoads_nil, okLoads_in, okLoads_eq]
  have hp : live (F ++ [some ⟨true, 58, ps0.L⟩, some ⟨true, 59, ps0.L⟩]) F.length = some ⟨true, 58, ps0.L⟩ := (live_app_len _ _).trans rfl
  have hq : live (F ++ [some ⟨true, 58, ps0.L⟩, some ⟨true, 59, ps0.L⟩]) (F.length + 1) = some ⟨true, 59, ps0.L⟩ := (live_app_add _ _ _).trans rfl
  refine cut_loop (fun ρ G => S8 v F.length (F.length + 1) 0 ρ ∧ M8 (F ++ [some ⟨true, 58, ps0.L⟩, some ⟨true, 59, ps0.L⟩]) F.length (F.length + 1) G) (fun ρ G => S8 v F.length (F.length + 1) A.length ρ) ⟨⟨?_, ?_, ?_, ?_, ?_⟩, ?_⟩ ?_ ?_
  all_goals first | (simp (maxDischargeDepth := 8) only [r4, r11, RUN, Ed, knd, kndR, resV, binInt, mnmxV, mnmx2, fillL, unV, lenV, extractV, partV, loadAt, Nat.reduceAdd, Nat.reduceBEq, Nat.reduceEqDiff, Nat.reduceLT, Nat.reduceLeDiff, Nat.reduceMul, Nat.reduceSub, reduceIte, Int.reduceEq, Int.reduceNe, Int.reduceLT, Int.reduceLE, Int.reduceAdd, Int.reduceSub, Int.reduceMul, Int.reduceNeg, Int.reduceMod, Int.reduceDiv, Int.reduceTMod, Int.reduceTDiv, Int.reduceToNat, okChain_i, okLoads_nil, okLoads_in, okLoads_eq]; done) | (simp (maxDischargeDepth := 8) only [r4, r11, RUN, Ed, knd, kndR, resV, binInt, mnmxV, mnmx2, fillL, unV, lenV, extractV, partV, loadAt, Nat.reduceAdd, Nat.reduceBEq, Nat.reduceEqDiff, Nat.reduceLT, Nat.reduceLeDiff, Nat.reduceMul, Nat.reduceSub, reduceIte, Int.reduceEq, Int.reduceNe, Int.reduceLT, Int.reduceLE, Int.reduceAdd, Int.reduceSub, Int.reduceMul, Int.reduceNeg, Int.reduceMod, Int.reduceDiv, Int.reduceTMod, Int.reduceTDiv, Int.reduceToNat, okChain_i, okLoads_nil, okLoads_in, okLoads_eq]; rfl) | skip
  · exact ⟨ps0, ps0_ok, hp, hq, fun j b _ _ h => h⟩
  · rintro ρ G ⟨hs, hm⟩
    obtain ⟨ρ', G', h1, h2⟩ := loop_inv (fun k ρ G => S8 v F.length (F.length + 1) k ρ ∧ M8 (F ++ [some ⟨true, 58, ps0.L⟩, some ⟨true, 59, ps0.L⟩]) F.length (F.length + 1) G) (fun ρ G => S8 v F.length (F.length + 1) A.length ρ) A.length
      (fun k ρ G hk ⟨hs, hm⟩ => round8 _ v A (hA.more _) F.length (F.length + 1) (by omega) (fun ty cells h => by rw [hp] at h; cases h) (fun ty cells h => by rw [hq] at h; cases h) k A[k] (List.getElem?_eq_getElem hk) hl ρ G hs hm)
      (fun ρ G ⟨⟨q4, q11, q22, q23, q24⟩, hm⟩ => by
        have hlt : ¬ ((A.length : Int) < (A.length : Int)) := by omega
        refine ⟨?ρ2, G, ?run2, ?inv2⟩
        case run2 =>
          simp (maxDischargeDepth := 8) only [l8_0, c8_15, q4, q24, l1, hlt, RUN, Ed, knd, kndR, resV, binInt, mnmxV, mnmx2, fillL, unV, extractV, partV, loadAt, Nat.reduceAdd, Nat.reduceBEq, Nat.reduceEqDiff, Nat.reduceLT, Nat.reduceLeDiff, Nat.reduceMul, Nat.reduceSub, reduceIte, Int.reduceEq, Int.reduceNe, Int.reduceLT, Int.reduceLE, Int.reduceAdd, Int.reduceSub, Int.reduceMul, Int.reduceNeg, Int.reduceMod, Int.reduceDiv, Int.reduceTMod, Int.reduceTDiv, Int.reduceToNat, okChain_i, okLoads_nil, okLoads_in, okLoads_eq]
          rfl
        case inv2 => constructor <;> simp (maxDischargeDepth := 8) only [q4, q11, q22, q23, q24, RUN, Ed, knd, kndR, resV, binInt, mnmxV, mnmx2, fillL, unV, lenV, extractV, partV, loadAt, Nat.reduceAdd, Nat.reduceBEq, Nat.reduceEqDiff, Nat.reduceLT, Nat.reduceLeDiff, Nat.reduceMul, Nat.reduceSub, reduceIte, Int.reduceEq, Int.reduceNe, Int.reduceLT, Int.reduceLE, Int.reduceAdd, Int.reduceSub, Int.reduceMul, Int.reduceNeg, Int.reduceMod, Int.reduceDiv, Int.reduceTMod, Int.reduceTDiv, Int.reduceToNat, okChain_i, okLoads_nil, okLoads_in, okLoads_eq]) ρ G ⟨hs, hm⟩
    exact ⟨ρ', G', h1, h2⟩
  · rintro ρ G ⟨q4, q11, q22, q23, q24⟩
    simp (maxDischargeDepth := 8) only [e8, c8_19, q11, RUN, Ed, knd, kndR, resV, binInt, mnmxV, mnmx2, fillL, unV, lenV, extractV, partV, loadAt, Nat.reduceAdd, Nat.reduceBEq, Nat.reduceEqDiff, Nat.reduceLT, Nat.reduceLeDiff, Nat.reduceMul, Nat.reduceSub, reduceIte, Int.reduceEq, Int.reduceNe, Int.reduceLT, Int.reduceLE, Int.reduceAdd, Int.reduceSub, Int.reduceMul, Int.reduceNeg, Int.reduceMod, Int.reduceDiv, Int.reduceTMod, Int.reduceTDiv, Int.reduceToNat, okChain_i, okLoads_nil, okLoads_in, okLoads_eq]
    exact Ok.mk _
theorem cmp8 (v : Value) (A : List (Int × Int)) (hl : A.length ≤ 40) (ρ : Fr) (F : Heap) (hE : EH all7 F) (hA : RS F v A) (p12 p14 : Nat) (fr1 fr2 : List Value) (XF : Heap) (e13 : Value) (c15 : Int) (XI : Heap → Heap) (a b : Int) (e : Option Nat) (he : ∀ i, e = some i → i < 7)
    (r4 : ρ 4 = v) (r11 : ρ 11 = .bool true) (r12 : ρ 12 = .pointer (some ⟨p12, 0, none⟩)) (r14 : ρ 14 = .pointer (some ⟨p14, 0, none⟩)) (k12 : live F p12 = some ⟨true, 27, fr1⟩) (k14 : live F p14 = some ⟨true, 27, fr2⟩) (l1 : fr1.length = 3) (l2 : fr2.length = 3)
    (eF : D Tryd.prog hints 15 [.agg ⟨fr1⟩, .agg ⟨fr2⟩] F = some (.bool true, F ++ XF)) (r13 : ρ 13 = e13) (r15 : ρ 15 = .int .i64 c15) (eI : ∀ G, EH all7 G → D Tryd.prog hints 17 [e13, .int .i64 c15] G = some (.bool true, G ++ XI G))
    (r16 : ρ 16 = .int .i64 a) (r17 : ρ 17 = .int .i64 b) (r18 : ρ 18 = EV e) (r19 : ρ 19 = .int .i64 a) (r20 : ρ 20 = .int .i64 b) (r21 : ρ 21 = .int .i64 (cd e)) : Ok (done [.tmp 10] (E Tryd.prog hints f8 ρ F)) := by
  obtain ⟨XJ, _, _, eJ⟩ := is_rules
  have eJ := eJ e he
  have i12 := live_lt k12
  have i14 := live_lt k14
  have t1 : fr1.take 3 = fr1 := List.take_of_length_le (by omega)
  have t2 : fr2.take 3 = fr2 := List.take_of_length_le (by omega)
  simp (maxDischargeDepth := 8) only [f8, c8_10, r4, r11, r12, r13, r14, r15, r16, r17, r18, r19, r20, r21, k12, k14, i12, i14, l1, l2, t1, t2, eF, eI, eJ, hE, EH_more, RUN, Ed, knd, kndR, resV, binInt, mnmxV, mnmx2, fillL, unV, lenV, extractV, partV, loadAt, Nat.reduceAdd, Nat.reduceBEq, Nat.reduceEqDiff, Nat.reduceLT, Nat.reduceLeDiff, Nat.reduceMul, Nat.reduceSub, reduceIte, Int.reduceEq, Int.reduceNe, Int.reduceLT, Int.reduceLE, Int.reduceAdd, Int.reduceSub, Int.reduceMul, Int.reduceNeg, Int.reduceMod, Int.reduceDiv, Int.reduceTMod, Int.reduceTDiv, Int.reduceToNat, okChain_i, okLoads_nil, okLoads_in, okLoads_eq]
  refine row8 v A hl _ _ (hA.more _) ?_ ?_
  all_goals simp (maxDischargeDepth := 8) only [r4, r11, RUN, Ed, knd, kndR, resV, binInt, mnmxV, mnmx2, fillL, unV, lenV, extractV, partV, loadAt, Nat.reduceAdd, Nat.reduceBEq, Nat.reduceEqDiff, Nat.reduceLT, Nat.reduceLeDiff, Nat.reduceMul, Nat.reduceSub, reduceIte, Int.reduceEq, Int.reduceNe, Int.reduceLT, Int.reduceLE, Int.reduceAdd, Int.reduceSub, Int.reduceMul, Int.reduceNeg, Int.reduceMod, Int.reduceDiv, Int.reduceTMod, Int.reduceTDiv, Int.reduceToNat, okChain_i, okLoads_nil, okLoads_in, okLoads_eq]
theorem read8 (v : Value) (A : List (Int × Int)) (hl : A.length ≤ 40) (ρ : Fr) (F : Heap) (hE : EH all7 F) (hA : RS F v A) (p8 p12 p14 : Nat) (fr1 fr2 : List Value) (e13 : Value) (c15 : Int) (XI : Heap → Heap) (id s2 : Int) (bv : Value) (B : List Int) (hb : ∀ b ∈ B, 0 ≤ b ∧ b < 256) (hB : BS F bv B)
    (r4 : ρ 4 = v) (r8 : ρ 8 = .pointer (some ⟨p8, 0, none⟩)) (k8 : live F p8 = some ⟨true, 27, [.int .u8 id, .int .u8 s2, bv]⟩) (r11 : ρ 11 = .bool true) (r12 : ρ 12 = .pointer (some ⟨p12, 0, none⟩)) (r14 : ρ 14 = .pointer (some ⟨p14, 0, none⟩)) (k12 : live F p12 = some ⟨true, 27, fr1⟩) (k14 : live F p14 = some ⟨true, 27, fr2⟩) (l1 : fr1.length = 3) (l2 : fr2.length = 3)
    (eF : ∀ X, ∃ XF, D Tryd.prog hints 15 [.agg ⟨fr1⟩, .agg ⟨fr2⟩] (F ++ X) = some (.bool true, (F ++ X) ++ XF)) (r13 : ρ 13 = e13) (r15 : ρ 15 = .int .i64 c15) (eI : ∀ G, EH all7 G → D Tryd.prog hints 17 [e13, .int .i64 c15] G = some (.bool true, G ++ XI G)) : Ok (done [.tmp 10] (E Tryd.prog hints g8 ρ F)) := by
  obtain ⟨X1, e1⟩ := readP_f all7 rfl rfl rfl id s2 bv B hb F hE hB
  obtain ⟨X2, e2⟩ := readQ_f id s2 bv B hb _ (hB.more X1)
  obtain ⟨o1, o2⟩ := hB.one
  have he := rdP_e id B
  generalize rdP id B = z at e1 e2 he
  obtain ⟨a, b, e⟩ := z
  simp only at e1 e2 he
  obtain ⟨XF, eF⟩ := eF (X1 ++ X2)
  have i8 := live_lt k8
  rw [List.append_assoc] at e2
  simp (maxDischargeDepth := 8) only [g8, c8_8, c8_9, r4, r8, r11, r12, r13, r14, r15, k8, i8, o1, o2, e1, e2, EV_one, RUN, Ed, knd, kndR, resV, binInt, mnmxV, mnmx2, fillL, unV, lenV, extractV, partV, loadAt, Nat.reduceAdd, Nat.reduceBEq, Nat.reduceEqDiff, Nat.reduceLT, Nat.reduceLeDiff, Nat.reduceMul, Nat.reduceSub, reduceIte, Int.reduceEq, Int.reduceNe, Int.reduceLT, Int.reduceLE, Int.reduceAdd, Int.reduceSub, Int.reduceMul, Int.reduceNeg, Int.reduceMod, Int.reduceDiv, Int.reduceTMod, Int.reduceTDiv, Int.reduceToNat, okChain_i, okLoads_nil, okLoads_in, okLoads_eq]
  refine cmp8 v A hl _ _ (hE.more _) (hA.more _) p12 p14 fr1 fr2 XF e13 c15 XI a b e he ?_ ?_ ?_ ?_ (live_more0 k12 _) (live_more0 k14 _) l1 l2 eF ?_ ?_ eI ?_ ?_ ?_ ?_ ?_ ?_
  all_goals simp (maxDischargeDepth := 8) only [r4, r8, r11, r12, r13, r14, r15, RUN, Ed, knd, kndR, resV, binInt, mnmxV, mnmx2, fillL, unV, lenV, extractV, partV, loadAt, Nat.reduceAdd, Nat.reduceBEq, Nat.reduceEqDiff, Nat.reduceLT, Nat.reduceLeDiff, Nat.reduceMul, Nat.reduceSub, reduceIte, Int.reduceEq, Int.reduceNe, Int.reduceLT, Int.reduceLE, Int.reduceAdd, Int.reduceSub, Int.reduceMul, Int.reduceNeg, Int.reduceMod, Int.reduceDiv, Int.reduceTMod, Int.reduceTDiv, Int.reduceToNat, okChain_i, okLoads_nil, okLoads_in, okLoads_eq]
theorem saysP (c a s id s2 : Int) (bv : Value) (B : List Int) (hb : ∀ b ∈ B, 0 ≤ b ∧ b < 256) (v : Value) (A : List (Int × Int)) (H : Heap) (h : EH all7 H) (hB : BS H bv B) (hA : RS H v A) :
    Ok (K 8 [.int .i64 c, .int .i64 a, .int .u8 s, .agg ⟨[.int .u8 id, .int .u8 s2, bv]⟩, v] H) := by
  obtain ⟨H1, hH1⟩ : ∃ H1, H1 = H ++ [some ⟨true, 27, [.int .u8 id, .int .u8 s2, bv]⟩] := ⟨_, rfl⟩
  obtain ⟨X0, e0⟩ := firstP_f H1
  obtain ⟨G, hG⟩ : ∃ G, G = H1 ++ X0 := ⟨_, rfl⟩
  simp only [K] at e0
  rw [← hG] at e0
  have hE : EH all7 G := by rw [hG, hH1]; exact (h.more _).more _
  have hA2 : RS G v A := by rw [hG, hH1]; exact (hA.more _).more _
  have hB2 : BS G bv B := by rw [hG, hH1]; exact (hB.more _).more _
  have k8 : live G H.length = some ⟨true, 27, [.int .u8 id, .int .u8 s2, bv]⟩ := by rw [hG, hH1]; exact live_more0 ((live_app_len _ _).trans rfl) _
  have i8 := live_lt k8
  have l1 := hA.len
  have l2 := hB.len
  obtain ⟨o1, o2⟩ := hB.one
  rw [K, D_eq p8 _ _ (Nat.le_of_ble_eq_true rfl)]
  by_cases h40 : (40 : Int) < (B.length : Int)
  · simp (maxDischargeDepth := 8) only [r8, b8t, c8_0, o1, o2, ← hH1, RUN, Ed, knd, kndR, resV, binInt, mnmxV, mnmx2, fillL, unV, extractV, partV, loadAt, Nat.reduceAdd, Nat.reduceBEq, Nat.reduceEqDiff, Nat.reduceLT, Nat.reduceLeDiff, Nat.reduceMul, Nat.reduceSub, reduceIte, Int.reduceEq, Int.reduceNe, Int.reduceLT, Int.reduceLE, Int.reduceAdd, Int.reduceSub, Int.reduceMul, Int.reduceNeg, Int.reduceMod, Int.reduceDiv, Int.reduceTMod, Int.reduceTDiv, Int.reduceToNat, okChain_i, okLoads_nil, okLoads_in, okLoads_eq]
    simp (maxDischargeDepth := 8) only [c8_1, c8_2, c8_3, c8_4, c8_5, e0, k8, i8, l1, l2, h40, RUN, Ed, knd, kndR, resV, binInt, mnmxV, mnmx2, fillL, unV, extractV, partV, loadAt, Nat.reduceAdd, Nat.reduceBEq, Nat.reduceEqDiff, Nat.reduceLT, Nat.reduceLeDiff, Nat.reduceMul, Nat.reduceSub, reduceIte, Int.reduceEq, Int.reduceNe, Int.reduceLT, Int.reduceLE, Int.reduceAdd, Int.reduceSub, Int.reduceMul, Int.reduceNeg, Int.reduceMod, Int.reduceDiv, Int.reduceTMod, Int.reduceTDiv, Int.reduceToNat, okChain_i, okLoads_nil, okLoads_in, okLoads_eq]
    exact Ok.mk _
  by_cases h41 : (40 : Int) < (A.length : Int)
  · simp (maxDischargeDepth := 8) only [r8, b8t, c8_0, o1, o2, ← hH1, RUN, Ed, knd, kndR, resV, binInt, mnmxV, mnmx2, fillL, unV, extractV, partV, loadAt, Nat.reduceAdd, Nat.reduceBEq, Nat.reduceEqDiff, Nat.reduceLT, Nat.reduceLeDiff, Nat.reduceMul, Nat.reduceSub, reduceIte, Int.reduceEq, Int.reduceNe, Int.reduceLT, Int.reduceLE, Int.reduceAdd, Int.reduceSub, Int.reduceMul, Int.reduceNeg, Int.reduceMod, Int.reduceDiv, Int.reduceTMod, Int.reduceTDiv, Int.reduceToNat, okChain_i, okLoads_nil, okLoads_in, okLoads_eq]
    simp (maxDischargeDepth := 8) only [c8_1, c8_2, c8_3, c8_4, c8_5, e0, k8, i8, l1, l2, h40, h41, RUN, Ed, knd, kndR, resV, binInt, mnmxV, mnmx2, fillL, unV, extractV, partV, loadAt, Nat.reduceAdd, Nat.reduceBEq, Nat.reduceEqDiff, Nat.reduceLT, Nat.reduceLeDiff, Nat.reduceMul, Nat.reduceSub, reduceIte, Int.reduceEq, Int.reduceNe, Int.reduceLT, Int.reduceLE, Int.reduceAdd, Int.reduceSub, Int.reduceMul, Int.reduceNeg, Int.reduceMod, Int.reduceDiv, Int.reduceTMod, Int.reduceTDiv, Int.reduceToNat, okChain_i, okLoads_nil, okLoads_in, okLoads_eq]
    exact Ok.mk _
  have hl : A.length ≤ 40 := by omega
  obtain ⟨XI, eIn, eIE, eI⟩ := is_rules
  have eI0 : ∀ G, EH all7 G → D Tryd.prog hints 17 [Err 0, .int .i64 101] G = some (.bool true, G ++ XI (some 0) 101 G) := fun G hG => eIE 0 (by omega) G hG
  by_cases hg : OkC c a
  · have ep := fun G => pputGood_f c a s G hg
    have eq := fun G => qputGood_f c a s G hg
    simp (maxDischargeDepth := 8) only [r8, b8t, c8_0, o1, o2, ← hH1, RUN, Ed, knd, kndR, resV, binInt, mnmxV, mnmx2, fillL, unV, extractV, partV, loadAt, Nat.reduceAdd, Nat.reduceBEq, Nat.reduceEqDiff, Nat.reduceLT, Nat.reduceLeDiff, Nat.reduceMul, Nat.reduceSub, reduceIte, Int.reduceEq, Int.reduceNe, Int.reduceLT, Int.reduceLE, Int.reduceAdd, Int.reduceSub, Int.reduceMul, Int.reduceNeg, Int.reduceMod, Int.reduceDiv, Int.reduceTMod, Int.reduceTDiv, Int.reduceToNat, okChain_i, okLoads_nil, okLoads_in, okLoads_eq]
    simp (maxDischargeDepth := 8) only [c8_1, c8_2, c8_3, c8_4, c8_5, c8_6, c8_7, e0, k8, i8, l1, l2, h40, h41, ep, eq, RUN, Ed, knd, kndR, resV, binInt, mnmxV, mnmx2, fillL, unV, extractV, partV, loadAt, Nat.reduceAdd, Nat.reduceBEq, Nat.reduceEqDiff, Nat.reduceLT, Nat.reduceLeDiff, Nat.reduceMul, Nat.reduceSub, reduceIte, Int.reduceEq, Int.reduceNe, Int.reduceLT, Int.reduceLE, Int.reduceAdd, Int.reduceSub, Int.reduceMul, Int.reduceNeg, Int.reduceMod, Int.reduceDiv, Int.reduceTMod, Int.reduceTDiv, Int.reduceToNat, okChain_i, okLoads_nil, okLoads_in, okLoads_eq]
    refine read8 v A hl _ _ (hE.more _) (hA2.more _) H.length (G.length + 2) (G.length + 5) [.int .u8 80, .int .u8 s, .slice (some ⟨G.length + 1, 0, none⟩) 2 1] [.int .u8 80, .int .u8 s, .slice (some ⟨G.length + 4, 0, none⟩) 2 1] .nilIface 0 (XI none 0) id s2 bv B hb (hB2.more _) ?_ ?_ (live_more0 k8 _) ?_ ?_ ?_ ((live_app_add _ _ _).trans rfl) ((live_app_add _ _ _).trans rfl) rfl rfl ?_ ?_ ?_ eIn
    all_goals first | (simp (maxDischargeDepth := 8) only [RUN, Ed, knd, kndR, resV, binInt, mnmxV, mnmx2, fillL, unV, lenV, extractV, partV, loadAt, Nat.reduceAdd, Nat.reduceBEq, Nat.reduceEqDiff, Nat.reduceLT, Nat.reduceLeDiff, Nat.reduceMul, Nat.reduceSub, reduceIte, Int.reduceEq, Int.reduceNe, Int.reduceLT, Int.reduceLE, Int.reduceAdd, Int.reduceSub, Int.reduceMul, Int.reduceNeg, Int.reduceMod, Int.reduceDiv, Int.reduceTMod, Int.reduceTDiv, Int.reduceToNat, okChain_i, okLoads_nil, okLoads_in, okLoads_eq]; done) | skip
    intro X
    rw [List.append_assoc]
    have b1 := BS.blk (e := 1) (H := G ++ ([some ⟨true, 27, [.int .u8 80, .int .u8 s, .slice (some ⟨G.length + 1, 0, none⟩) 2 1]⟩, some ⟨true, 5, bL (pbP c a)⟩, some ⟨true, 27, [.int .u8 80, .int .u8 s, .slice (some ⟨G.length + 1, 0, none⟩) 2 1]⟩, some ⟨true, 27, [.int .u8 80, .int .u8 s, .slice (some ⟨G.length + 4, 0, none⟩) 2 1]⟩, some ⟨true, 5, bL (pbP c a)⟩, some ⟨true, 27, [.int .u8 80, .int .u8 s, .slice (some ⟨G.length + 4, 0, none⟩) 2 1]⟩] ++ X)) (i := G.length + 1) (l := pbP c a) (ow := true) (ty := 5) ((live_app_add _ _ _).trans rfl)
    have b2 := BS.blk (e := 1) (H := G ++ ([some ⟨true, 27, [.int .u8 80, .int .u8 s, .slice (some ⟨G.length + 1, 0, none⟩) 2 1]⟩, some ⟨true, 5, bL (pbP c a)⟩, some ⟨true, 27, [.int .u8 80, .int .u8 s, .slice (some ⟨G.length + 1, 0, none⟩) 2 1]⟩, some ⟨true, 27, [.int .u8 80, .int .u8 s, .slice (some ⟨G.length + 4, 0, none⟩) 2 1]⟩, some ⟨true, 5, bL (pbP c a)⟩, some ⟨true, 27, [.int .u8 80, .int .u8 s, .slice (some ⟨G.length + 4, 0, none⟩) 2 1]⟩] ++ X)) (i := G.length + 4) (l := pbP c a) (ow := true) (ty := 5) ((live_app_add _ _ _).trans rfl)
    have := sameFrame_f _ 80 s 80 s _ _ (pbP c a) (pbP c a) b1 b2 (by simp [pbP])
    rw [show decide ((80 : Int) = 80 ∧ s = s ∧ pbP c a = pbP c a) = true by simp] at this
    exact ⟨_, this⟩
  · have ep : ∀ G, EH all7 G → _ := fun G hG => pputBad_f all7 c a s G hG rfl hg
    have eq := fun G => qputBad_f c a s G hg
    simp (maxDischargeDepth := 8) only [r8, b8t, c8_0, o1, o2, ← hH1, RUN, Ed, knd, kndR, resV, binInt, mnmxV, mnmx2, fillL, unV, extractV, partV, loadAt, Nat.reduceAdd, Nat.reduceBEq, Nat.reduceEqDiff, Nat.reduceLT, Nat.reduceLeDiff, Nat.reduceMul, Nat.reduceSub, reduceIte, Int.reduceEq, Int.reduceNe, Int.reduceLT, Int.reduceLE, Int.reduceAdd, Int.reduceSub, Int.reduceMul, Int.reduceNeg, Int.reduceMod, Int.reduceDiv, Int.reduceTMod, Int.reduceTDiv, Int.reduceToNat, okChain_i, okLoads_nil, okLoads_in, okLoads_eq]
    simp (maxDischargeDepth := 8) only [c8_1, c8_2, c8_3, c8_4, c8_5, c8_6, c8_7, e0, k8, i8, l1, l2, h40, h41, ep, eq, hE, zeroF, RUN, Ed, knd, kndR, resV, binInt, mnmxV, mnmx2, fillL, unV, extractV, partV, loadAt, Nat.reduceAdd, Nat.reduceBEq, Nat.reduceEqDiff, Nat.reduceLT, Nat.reduceLeDiff, Nat.reduceMul, Nat.reduceSub, reduceIte, Int.reduceEq, Int.reduceNe, Int.reduceLT, Int.reduceLE, Int.reduceAdd, Int.reduceSub, Int.reduceMul, Int.reduceNeg, Int.reduceMod, Int.reduceDiv, Int.reduceTMod, Int.reduceTDiv, Int.reduceToNat, okChain_i, okLoads_nil, okLoads_in, okLoads_eq]
    refine read8 v A hl _ _ (hE.more _) (hA2.more _) H.length (G.length + 1) (G.length + 3) zeroF zeroF (Err 0) 101 (XI (some 0) 101) id s2 bv B hb (hB2.more _) ?_ ?_ (live_more0 k8 _) ?_ ?_ ?_ ((live_app_add _ _ _).trans rfl) ((live_app_add _ _ _).trans rfl) rfl rfl (fun X => ⟨_, sfZ _⟩) ?_ ?_ eI0
    all_goals first | (simp (maxDischargeDepth := 8) only [RUN, Ed, knd, kndR, resV, binInt, mnmxV, mnmx2, fillL, unV, lenV, extractV, partV, loadAt, Nat.reduceAdd, Nat.reduceBEq, Nat.reduceEqDiff, Nat.reduceLT, Nat.reduceLeDiff, Nat.reduceMul, Nat.reduceSub, reduceIte, Int.reduceEq, Int.reduceNe, Int.reduceLT, Int.reduceLE, Int.reduceAdd, Int.reduceSub, Int.reduceMul, Int.reduceNeg, Int.reduceMod, Int.reduceDiv, Int.reduceTMod, Int.reduceTDiv, Int.reduceToNat, okChain_i, okLoads_nil, okLoads_in, okLoads_eq]; done) | skip
def sh8 : List Sh := [.int .i64, .int .i64, .int .u8, .agg ((.cons (.int .u8) (.cons (.int .u8) (.cons (.slice (.int .u8)) .nil)))), .slice (.agg ((.cons (.int .i64) (.cons (.int .i64) .nil))))]
theorem saysP_law (H : Heap) (h : EH all7 H) (ls : List (List Value)) (o : OpnAll H sh8 ls) : Ok (K 8 (argsS sh8 ls) H) := by
  obtain ⟨l0, _, rfl, h0, o⟩ := o.uncons
  obtain ⟨l1, _, rfl, h1, o⟩ := o.uncons
  obtain ⟨l2, _, rfl, h2, o⟩ := o.uncons
  obtain ⟨l3, _, rfl, h3, o⟩ := o.uncons
  obtain ⟨l4, _, rfl, h4, o⟩ := o.uncons
  cases o.unnil
  obtain ⟨v, A, rfl, hA⟩ := Opn_pairs h4
  obtain ⟨id, s2, bv, B, rfl, hB, hb, _⟩ := Opn_frame h3
  simp only [Opn.eq_1] at h0 h1 h2
  obtain ⟨c, rfl, _⟩ := h0
  obtain ⟨a, rfl, _⟩ := h1
  obtain ⟨s, rfl, _⟩ := h2
  exact saysP c a s id s2 bv B hb v A H h hB hA
end Go.Proofs.YtdmfedmhcegggaaDoor.Sim
