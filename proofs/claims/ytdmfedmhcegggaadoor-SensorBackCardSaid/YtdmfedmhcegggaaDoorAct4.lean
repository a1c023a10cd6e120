/- ActSays, ActUnlike, ActBack over the plain heap. -/
import Derived.Test.YtdmfedmhcegggaaDoorAct3
import Derived.Test.YtdmfedmhcegggaaDoorSim21
namespace Go.Proofs.YtdmfedmhcegggaaDoor.Sim
open Go
set_option linter.unusedSimpArgs false
set_option linter.unusedVariables false
theorem live_cons_add (x : Option Blk) (X : Heap) (k n : Nat) : live (x :: X) (k + 1 + n) = live X (k + n) := by rw [show k + 1 + n = (k + n) + 1 by omega]; exact live_cons_succ x X (k + n)
theorem set_cons_add (x y : Option Blk) (X : Heap) (k n : Nat) : List.set (x :: X) (k + 1 + n) y = x :: List.set X (k + n) y := by rw [show k + 1 + n = (k + n) + 1 by omega]; rfl
theorem EH_mask {on : Nat → Bool} {H : Heap} {news : List (Nat × Option Blk)} {b : List Nat} (h : EH on H) : EH on (maskOf H news b) := h.more _
theorem EH_full {on : Nat → Bool} {H : Heap} {news : List (Nat × Option Blk)} (h : EH on H) : EH on (fullOf H news) := h.more _
theorem BS_mask {H : Heap} {news : List (Nat × Option Blk)} {b : List Nat} {v : Value} {A : List Int} (h : BS H v A) : BS (maskOf H news b) v A := h.more _
/-- The errors asked for, as rules. -/
theorem is_rules : ∃ XI : Option Nat → Int → Heap → Heap, (∀ G, EH all7 G → D Tryd.prog hints 17 [.nilIface, .int .i64 0] G = some (.bool true, G ++ XI none 0 G)) ∧
    (∀ i, i < 7 → ∀ G, EH all7 G → D Tryd.prog hints 17 [Err i, .int .i64 (101 + i)] G = some (.bool true, G ++ XI (some i) (101 + i) G)) ∧
    (∀ e : Option Nat, (∀ i, e = some i → i < 7) → ∀ G, EH all7 G → D Tryd.prog hints 17 [EV e, .int .i64 (cd e)] G = some (.bool true, G ++ XI e (cd e) G)) := by
  obtain ⟨XI, eI⟩ := is_all
  have h3 : ∀ e : Option Nat, (∀ i, e = some i → i < 7) → ∀ G, EH all7 G → D Tryd.prog hints 17 [EV e, .int .i64 (cd e)] G = some (.bool true, G ++ XI e (cd e) G) := fun e he G hG => by
    have := eI e he (cd e) G hG
    rw [show decide (cd e = cd e) = true by simp] at this
    exact this
  exact ⟨XI, fun G hG => h3 none (fun i hi => by cases hi) G hG, fun i hi G hG => h3 (some i) (fun j hj => by cases hj; exact hi) G hG, h3⟩
theorem bL_get (l : List Int) (j : Nat) (a : Int) (h : l[j]? = some a) : (bL l)[j]? = some (.int .u8 a) := by simp [bL, h]
theorem BS.blk {H : Heap} {i : Nat} {ow : Bool} {ty : TypeId} {l : List Int} {e : Nat} (h : live H i = some ⟨ow, ty, bL l⟩) : BS H (.slice (some ⟨i, 0, none⟩) l.length e) l :=
  .inr ⟨i, 0, e, ow, ty, bL l, rfl, h, fun j a hj => by rw [Nat.zero_add]; exact bL_get l j a hj⟩
theorem sfZ (G : Heap) : D Tryd.prog hints 15 [.agg ⟨zeroF⟩, .agg ⟨zeroF⟩] G = some (.bool true, G ++ [some ⟨true, 27, zeroF⟩, some ⟨true, 27, zeroF⟩]) :=
  sameFrame_f G 0 0 0 0 _ _ [] [] (.inl ⟨rfl, 0, rfl⟩) (.inl ⟨rfl, 0, rfl⟩) (by simp)
theorem sf7 (G : Heap) (a b a' b' : Int) (l l' : List Int) (i j : Nat) (h7 : l.length = 7) (h7' : l'.length = 7) (hi : live G i = some ⟨true, 5, bL l⟩) (hj : live G j = some ⟨true, 5, bL l'⟩) :
    D Tryd.prog hints 15 [.agg ⟨[.int .u8 a, .int .u8 b, .slice (some ⟨i, 0, none⟩) 7 1]⟩, .agg ⟨[.int .u8 a', .int .u8 b', .slice (some ⟨j, 0, none⟩) 7 1]⟩] G
      = some (.bool (decide (a = a' ∧ b = b' ∧ l = l')), G ++ [some ⟨true, 27, [.int .u8 a, .int .u8 b, .slice (some ⟨i, 0, none⟩) 7 1]⟩, some ⟨true, 27, [.int .u8 a', .int .u8 b', .slice (some ⟨j, 0, none⟩) 7 1]⟩]) := by
  have h1 := BS.blk (e := 1) hi
  have h2 := BS.blk (e := 1) hj
  rw [h7] at h1
  rw [h7'] at h2
  exact sameFrame_f G a b a' b' _ _ l l' h1 h2 (by omega)
def t5c : RCode := .seq (.draw c5_10) .ret
def t5b : RCode := .seq (.region c5_9) t5c
def t5a : RCode := .seq (.region c5_8) t5b
theorem b5t : b5 = .seq (.region c5_0) (.seq (.region c5_1) (.seq (.seq (.region c5_2) (.cond (.tmp 18) (.seq (.region c5_3) .ret) .skip)) (.seq (.seq (.region c5_4) (.cond (.tmp 22) (.seq (.region c5_5) .ret) .skip)) (.seq (.region c5_6) (.seq (.region c5_7) t5a))))) := (rfl)
/-- What has been put, both ways. -/
structure Put5 (c f g m n : Int) (fr8 fr10 : List Value) (e9 : Value) (c11 : Int) (okc : Value) (gd : Bool) (Inv : Heap → Prop) (XI : Heap → Heap) : Prop where
  more : ∀ G X, Inv G → Inv (G ++ X)
  eC : ∀ G, EH all7 G → D Tryd.prog hints 18 [.agg ⟨outL c f g m n⟩] G = some (okc, G ++ [some ⟨true, 24, outL c f g m n⟩])
  eG : ∀ G, D Tryd.prog hints 22 [.agg ⟨outL c f g m n⟩] G = some (.bool gd, G ++ [some ⟨true, 24, outL c f g m n⟩])
  nil : ∀ x, sameV .iface x (.const .nilIface) okc .nilIface = some gd
  eF : ∀ G, Inv G → D Tryd.prog hints 15 [.agg ⟨fr8⟩, .agg ⟨fr10⟩] G = some (.bool true, G ++ [some ⟨true, 27, fr8⟩, some ⟨true, 27, fr10⟩])
  eI : ∀ G, EH all7 G → D Tryd.prog hints 17 [e9, .int .i64 c11] G = some (.bool true, G ++ XI G)
  l8 : fr8.length = 3 ∧ fr8.take 3 = fr8
  l10 : fr10.length = 3 ∧ fr10.take 3 = fr10
structure S5 (p3 p5 p8 p10 : Nat) (e9 : Value) (c11 : Int) (ρ : Fr) : Prop where
  r3 : ρ 3 = .pointer (some ⟨p3, 0, none⟩)
  r5 : ρ 5 = .pointer (some ⟨p5, 0, none⟩)
  r7 : ρ 7 = .bool true
  r8 : ρ 8 = .pointer (some ⟨p8, 0, none⟩)
  r9 : ρ 9 = e9
  r10 : ρ 10 = .pointer (some ⟨p10, 0, none⟩)
  r11 : ρ 11 = .int .i64 c11
structure M5 (p3 p5 p8 p10 : Nat) (c f g m n id s2 : Int) (v : Value) (B : List Int) (fr8 fr10 : List Value) (Inv : Heap → Prop) (F : Heap) : Prop where
  e : EH all7 F
  b : BS F v B
  k3 : live F p3 = some ⟨true, 24, outL c f g m n⟩
  k5 : live F p5 = some ⟨true, 27, [.int .u8 id, .int .u8 s2, v]⟩
  k8 : live F p8 = some ⟨true, 27, fr8⟩
  k10 : live F p10 = some ⟨true, 27, fr10⟩
  iv : Inv F
theorem M5.more {p3 p5 p8 p10 : Nat} {c f g m n id s2 : Int} {v : Value} {B : List Int} {fr8 fr10 : List Value} {Inv : Heap → Prop} {F : Heap} (h : M5 p3 p5 p8 p10 c f g m n id s2 v B fr8 fr10 Inv F) (hi : ∀ G X, Inv G → Inv (G ++ X)) (X : Heap) : M5 p3 p5 p8 p10 c f g m n id s2 v B fr8 fr10 Inv (F ++ X) :=
  ⟨h.e.more X, h.b.more X, live_more0 h.k3 X, live_more0 h.k5 X, live_more0 h.k8 X, live_more0 h.k10 X, hi _ _ h.iv⟩
theorem outL_len (c f g m n : Int) : (outL c f g m n).length = 5 := (rfl)
theorem outL_take (c f g m n : Int) : (outL c f g m n).take 5 = outL c f g m n := (rfl)
theorem outL_drop (c f g m n : Int) : (outL c f g m n).drop 5 = [] := (rfl)
theorem outL_one (c f g m n : Int) : (outL c f g m n).all Value.oneCell' = true := (rfl)
theorem tail5c (p3 p5 p8 p10 p12 p14 : Nat) (c f g m n id s2 : Int) (v : Value) (B : List Int) (fr8 fr10 : List Value) (e9 : Value) (c11 : Int) (okc : Value) (gd : Bool) (Inv : Heap → Prop) (XI : Heap → Heap) (hp : Put5 c f g m n fr8 fr10 e9 c11 okc gd Inv XI)
    (c' f' g' m' n' : Int) (e : Option Nat) (he : ∀ i, e = some i → i < 7) (ρ : Fr) (F : Heap) (hs : S5 p3 p5 p8 p10 e9 c11 ρ) (hm : M5 p3 p5 p8 p10 c f g m n id s2 v B fr8 fr10 Inv F)
    (r12 : ρ 12 = .pointer (some ⟨p12, 0, none⟩)) (r13 : ρ 13 = EV e) (r14 : ρ 14 = .pointer (some ⟨p14, 0, none⟩)) (r15 : ρ 15 = .int .i64 (cd e)) (k12 : live F p12 = some ⟨true, 24, outL c' f' g' m' n'⟩) (k14 : live F p14 = some ⟨true, 24, outL c' f' g' m' n'⟩) : Ok (done [.tmp 6] (E Tryd.prog hints t5c ρ F)) := by
  obtain ⟨XJ, eIn, eIE, eI⟩ := is_rules
  have eIe := eI e he
  have eso := fun G => sameOut_f c' f' g' m' n' c' f' g' m' n' G
  rw [show decide (c' = c' ∧ f' = f' ∧ g' = g' ∧ m' = m' ∧ n' = n') = true by simp] at eso
  simp only [K] at eso
  obtain ⟨r3, r5, r7, r8, r9, r10, r11⟩ := hs
  obtain ⟨h1, b1, k3, k5, k8, k10, iv⟩ := hm
  obtain ⟨hmore, eC, eG, hnil, eF, eI9, ⟨l8, t8⟩, ⟨l10, t10⟩⟩ := hp
  have im : ∀ (news : List (Nat × Option Blk)) (b : List Nat), Inv (maskOf F news b) := fun news b => hmore _ _ iv
  have i3 := live_lt k3
  have i8 := live_lt k8
  have i10 := live_lt k10
  have i12 := live_lt k12
  have i14 := live_lt k14
  cases gd <;>
  · simp (maxDischargeDepth := 8) only [t5c, c5_10, r3, r5, r7, r8, r9, r10, r11, r12, r13, r14, r15, h1, EH_mask, im, k3, k5, k8, k10, k12, k14, i3, i8, i10, i12, i14, eC, eG, hnil, eF, eI9, eso, eIe, l8, t8, l10, t10, outL_len, outL_take, RUN, Ed, knd, kndR, resV, binInt, mnmxV, mnmx2, fillL, unV, lenV, extractV, partV, loadAt, Nat.reduceAdd, Nat.reduceBEq, Nat.reduceEqDiff, Nat.reduceLT, Nat.reduceLeDiff, Nat.reduceMul, Nat.reduceSub, reduceIte, Int.reduceEq, Int.reduceNe, Int.reduceLT, Int.reduceLE, Int.reduceAdd, Int.reduceSub, Int.reduceMul, Int.reduceNeg, Int.reduceMod, Int.reduceDiv, Int.reduceTMod, Int.reduceTDiv, Int.reduceToNat]
    exact Ok.mk _
theorem tail5b (p3 p5 p8 p10 p12 : Nat) (c f g m n id s2 : Int) (v : Value) (B : List Int) (fr8 fr10 : List Value) (e9 : Value) (c11 : Int) (okc : Value) (gd : Bool) (Inv : Heap → Prop) (XI : Heap → Heap) (hp : Put5 c f g m n fr8 fr10 e9 c11 okc gd Inv XI)
    (c' f' g' m' n' : Int) (e : Option Nat) (he : ∀ i, e = some i → i < 7) (hr : ∀ G, EH all7 G ∧ BS G v B → ∃ X, D Tryd.prog hints 21 [.agg ⟨[.int .u8 id, .int .u8 s2, v]⟩] G = some (.tuple ⟨[.agg ⟨outL c' f' g' m' n'⟩, .int .i64 (cd e)]⟩, G ++ X)) (ρ : Fr) (F : Heap) (hs : S5 p3 p5 p8 p10 e9 c11 ρ) (hm : M5 p3 p5 p8 p10 c f g m n id s2 v B fr8 fr10 Inv F)
    (r12 : ρ 12 = .pointer (some ⟨p12, 0, none⟩)) (r13 : ρ 13 = EV e) (k12 : live F p12 = some ⟨true, 24, outL c' f' g' m' n'⟩) : Ok (done [.tmp 6] (E Tryd.prog hints t5b ρ F)) := by
  obtain ⟨X, e1⟩ := hr F ⟨hm.e, hm.b⟩
  have hm2 := hm.more hp.more (X ++ [some ⟨true, 24, outL c' f' g' m' n'⟩])
  have k14 : live (F ++ (X ++ [some ⟨true, 24, outL c' f' g' m' n'⟩])) (F.length + X.length) = some ⟨true, 24, outL c' f' g' m' n'⟩ := by rw [live_app_add, live_app_len]; rfl
  have k12' := live_more0 k12 (X ++ [some ⟨true, 24, outL c' f' g' m' n'⟩])
  obtain ⟨r3, r5, r7, r8, r9, r10, r11⟩ := hs
  have k5 := hm.k5
  have i5 := live_lt k5
  simp (maxDischargeDepth := 8) only [t5b, c5_9, r5, k5, i5, e1, outL_len, outL_take, outL_drop, outL_one, RUN, Ed, knd, kndR, resV, binInt, mnmxV, mnmx2, fillL, unV, lenV, extractV, partV, loadAt, Nat.reduceAdd, Nat.reduceBEq, Nat.reduceEqDiff, Nat.reduceLT, Nat.reduceLeDiff, Nat.reduceMul, Nat.reduceSub, reduceIte, Int.reduceEq, Int.reduceNe, Int.reduceLT, Int.reduceLE, Int.reduceAdd, Int.reduceSub, Int.reduceMul, Int.reduceNeg, Int.reduceMod, Int.reduceDiv, Int.reduceTMod, Int.reduceTDiv, Int.reduceToNat, okChain_i, okLoads_nil, okLoads_in, okLoads_eq]
  refine tail5c p3 p5 p8 p10 p12 (F.length + X.length) c f g m n id s2 v B fr8 fr10 e9 c11 okc gd Inv XI hp c' f' g' m' n' e he _ _ ⟨?_, ?_, ?_, ?_, ?_, ?_, ?_⟩ hm2 ?_ ?_ ?_ ?_ k12' k14
  all_goals simp (maxDischargeDepth := 8) only [r3, r5, r7, r8, r9, r10, r11, r12, r13, RUN, Ed, knd, kndR, resV, binInt, mnmxV, mnmx2, fillL, unV, lenV, extractV, partV, loadAt, Nat.reduceAdd, Nat.reduceBEq, Nat.reduceEqDiff, Nat.reduceLT, Nat.reduceLeDiff, Nat.reduceMul, Nat.reduceSub, reduceIte, Int.reduceEq, Int.reduceNe, Int.reduceLT, Int.reduceLE, Int.reduceAdd, Int.reduceSub, Int.reduceMul, Int.reduceNeg, Int.reduceMod, Int.reduceDiv, Int.reduceTMod, Int.reduceTDiv, Int.reduceToNat, okChain_i, okLoads_nil, okLoads_in, okLoads_eq]
theorem tail5a (p3 p5 p8 p10 : Nat) (c f g m n id s2 : Int) (v : Value) (B : List Int) (hb : ∀ b ∈ B, 0 ≤ b ∧ b < 256) (fr8 fr10 : List Value) (e9 : Value) (c11 : Int) (okc : Value) (gd : Bool) (Inv : Heap → Prop) (XI : Heap → Heap) (hp : Put5 c f g m n fr8 fr10 e9 c11 okc gd Inv XI)
    (ρ : Fr) (F : Heap) (hs : S5 p3 p5 p8 p10 e9 c11 ρ) (hm : M5 p3 p5 p8 p10 c f g m n id s2 v B fr8 fr10 Inv F) : Ok (done [.tmp 6] (E Tryd.prog hints t5a ρ F)) := by
  obtain ⟨c', f', g', m', n', e, he, hr0, hr⟩ := readA_f id s2 v B hb
  obtain ⟨X, e1⟩ := hr0 F ⟨hm.e, hm.b⟩
  have hm2 := hm.more hp.more (X ++ [some ⟨true, 24, outL c' f' g' m' n'⟩])
  have k12 : live (F ++ (X ++ [some ⟨true, 24, outL c' f' g' m' n'⟩])) (F.length + X.length) = some ⟨true, 24, outL c' f' g' m' n'⟩ := by rw [live_app_add, live_app_len]; rfl
  obtain ⟨r3, r5, r7, r8, r9, r10, r11⟩ := hs
  have k5 := hm.k5
  have i5 := live_lt k5
  simp (maxDischargeDepth := 8) only [t5a, c5_8, r5, k5, i5, e1, outL_len, outL_take, outL_drop, outL_one, RUN, Ed, knd, kndR, resV, binInt, mnmxV, mnmx2, fillL, unV, lenV, extractV, partV, loadAt, Nat.reduceAdd, Nat.reduceBEq, Nat.reduceEqDiff, Nat.reduceLT, Nat.reduceLeDiff, Nat.reduceMul, Nat.reduceSub, reduceIte, Int.reduceEq, Int.reduceNe, Int.reduceLT, Int.reduceLE, Int.reduceAdd, Int.reduceSub, Int.reduceMul, Int.reduceNeg, Int.reduceMod, Int.reduceDiv, Int.reduceTMod, Int.reduceTDiv, Int.reduceToNat, okChain_i, okLoads_nil, okLoads_in, okLoads_eq]
  refine tail5b p3 p5 p8 p10 (F.length + X.length) c f g m n id s2 v B fr8 fr10 e9 c11 okc gd Inv XI hp c' f' g' m' n' e he hr _ _ ⟨?_, ?_, ?_, ?_, ?_, ?_, ?_⟩ hm2 ?_ ?_ k12
  all_goals simp (maxDischargeDepth := 8) only [r3, r5, r7, r8, r9, r10, r11, RUN, Ed, knd, kndR, resV, binInt, mnmxV, mnmx2, fillL, unV, lenV, extractV, partV, loadAt, Nat.reduceAdd, Nat.reduceBEq, Nat.reduceEqDiff, Nat.reduceLT, Nat.reduceLeDiff, Nat.reduceMul, Nat.reduceSub, reduceIte, Int.reduceEq, Int.reduceNe, Int.reduceLT, Int.reduceLE, Int.reduceAdd, Int.reduceSub, Int.reduceMul, Int.reduceNeg, Int.reduceMod, Int.reduceDiv, Int.reduceTMod, Int.reduceTDiv, Int.reduceToNat, okChain_i, okLoads_nil, okLoads_in, okLoads_eq]
theorem says (c f g m n s id s2 : Int) (v : Value) (B : List Int) (hb : ∀ b ∈ B, 0 ≤ b ∧ b < 256) (H : Heap) (h : EH all7 H) (hB : BS H v B) :
    Ok (K 5 [.agg ⟨outL c f g m n⟩, .int .u8 s, .agg ⟨[.int .u8 id, .int .u8 s2, v]⟩] H) := by
  obtain ⟨H1, hH1⟩ : ∃ H1, H1 = H ++ [some ⟨true, 24, outL c f g m n⟩, some ⟨true, 27, [.int .u8 id, .int .u8 s2, v]⟩] := ⟨_, rfl⟩
  have h1 : EH all7 H1 := by rw [hH1]; exact h.more _
  have b1 : BS H1 v B := by rw [hH1]; exact hB.more _
  have k0 : live H1 H.length = some ⟨true, 24, outL c f g m n⟩ := by rw [hH1]; exact (live_app_len _ _).trans rfl
  have k1 : live H1 (H.length + 1) = some ⟨true, 27, [.int .u8 id, .int .u8 s2, v]⟩ := by rw [hH1]; exact (live_app_add _ _ _).trans rfl
  obtain ⟨X0, e0⟩ := firstA_f all7 H1 h1 rfl
  have lv := hB.len
  obtain ⟨o1, o2⟩ := hB.one
  simp only [K] at e0
  rw [K, D_eq p5 _ _ (Nat.le_of_ble_eq_true rfl)]
  obtain ⟨G, hG⟩ : ∃ G, G = H1 ++ X0 := ⟨_, rfl⟩
  rw [← hG] at e0
  have h2 : EH all7 G := by rw [hG]; exact h1.more _
  have b2 : BS G v B := by rw [hG]; exact b1.more _
  have k0 : live G H.length = some ⟨true, 24, outL c f g m n⟩ := by rw [hG]; exact live_more0 k0 _
  have k1 : live G (H.length + 1) = some ⟨true, 27, [.int .u8 id, .int .u8 s2, v]⟩ := by rw [hG]; exact live_more0 k1 _
  have i0 := live_lt k0
  have i1 := live_lt k1
  by_cases h40 : (40 : Int) < (B.length : Int)
  · simp (maxDischargeDepth := 8) only [r5, b5t, c5_0, o1, o2, ← hH1, RUN, Ed, knd, kndR, resV, binInt, mnmxV, mnmx2, fillL, unV, extractV, partV, loadAt, Nat.reduceAdd, Nat.reduceBEq, Nat.reduceEqDiff, Nat.reduceLT, Nat.reduceLeDiff, Nat.reduceMul, Nat.reduceSub, reduceIte, Int.reduceEq, Int.reduceNe, Int.reduceLT, Int.reduceLE, Int.reduceAdd, Int.reduceSub, Int.reduceMul, Int.reduceNeg, Int.reduceMod, Int.reduceDiv, Int.reduceTMod, Int.reduceTDiv, Int.reduceToNat, okChain_i, okLoads_nil, okLoads_in, okLoads_eq]
    simp (maxDischargeDepth := 8) only [c5_1, c5_2, c5_3, c5_4, c5_5, e0, k1, i1, lv, h40, RUN, Ed, knd, kndR, resV, binInt, mnmxV, mnmx2, fillL, unV, extractV, partV, loadAt, Nat.reduceAdd, Nat.reduceBEq, Nat.reduceEqDiff, Nat.reduceLT, Nat.reduceLeDiff, Nat.reduceMul, Nat.reduceSub, reduceIte, Int.reduceEq, Int.reduceNe, Int.reduceLT, Int.reduceLE, Int.reduceAdd, Int.reduceSub, Int.reduceMul, Int.reduceNeg, Int.reduceMod, Int.reduceDiv, Int.reduceTMod, Int.reduceTDiv, Int.reduceToNat, okChain_i, okLoads_nil, okLoads_in, okLoads_eq]
    exact Ok.mk _
  obtain ⟨XI, eIn, eIE, eI⟩ := is_rules
  have eI0 : ∀ G, EH all7 G → D Tryd.prog hints 17 [Err 0, .int .i64 101] G = some (.bool true, G ++ XI (some 0) 101 G) := fun G hG => eIE 0 (by omega) G hG
  have egd := fun G => goodOut_f c f g m n G
  by_cases hg : GoodP c f g m n
  · have ep : ∀ G, EH all7 G → _ := fun G hG => putGood_f all7 c f g m n s G hG rfl hg
    have eq := fun G => putOutGood_f c f g m n s G hg
    have hput : Put5 c f g m n [.int .u8 96, .int .u8 s, .slice (some ⟨G.length + 3, 0, none⟩) 7 1] [.int .u8 96, .int .u8 s, .slice (some ⟨G.length + 8, 0, none⟩) 7 1] .nilIface 0 .nilIface true (fun F => live F (G.length + 3) = some ⟨true, 5, bL (pb c f g m n)⟩ ∧ live F (G.length + 8) = some ⟨true, 5, bL (pb c f g m n)⟩) (XI none 0) := by
      refine ⟨fun F X h => ⟨live_more0 h.1 X, live_more0 h.2 X⟩, fun F hF => ?_, fun F => ?_, fun x => same_i1 x _, fun F hF => ?_, eIn, ⟨rfl, rfl⟩, ⟨rfl, rfl⟩⟩
      · have := check_f all7 c f g m n F hF rfl
        rw [if_pos hg] at this
        exact this
      · have := egd F
        rw [show decide (GoodP c f g m n) = true by simpa using hg] at this
        exact this
      · have := sf7 F 96 s 96 s (pb c f g m n) (pb c f g m n) _ _ rfl rfl hF.1 hF.2
        simpa using this
    simp only [K] at ep eq
    simp (maxDischargeDepth := 8) only [r5, b5t, c5_0, o1, o2, ← hH1, RUN, Ed, knd, kndR, resV, binInt, mnmxV, mnmx2, fillL, unV, extractV, partV, loadAt, Nat.reduceAdd, Nat.reduceBEq, Nat.reduceEqDiff, Nat.reduceLT, Nat.reduceLeDiff, Nat.reduceMul, Nat.reduceSub, reduceIte, Int.reduceEq, Int.reduceNe, Int.reduceLT, Int.reduceLE, Int.reduceAdd, Int.reduceSub, Int.reduceMul, Int.reduceNeg, Int.reduceMod, Int.reduceDiv, Int.reduceTMod, Int.reduceTDiv, Int.reduceToNat, okChain_i, okLoads_nil, okLoads_in, okLoads_eq]
    simp (maxDischargeDepth := 8) only [c5_1, c5_2, c5_3, c5_4, c5_5, c5_6, c5_7, e0, k0, k1, i0, i1, lv, h40, h2, EH_more, ep, eq, outL_len, outL_take, RUN, Ed, knd, kndR, resV, binInt, mnmxV, mnmx2, fillL, unV, extractV, partV, loadAt, Nat.reduceAdd, Nat.reduceBEq, Nat.reduceEqDiff, Nat.reduceLT, Nat.reduceLeDiff, Nat.reduceMul, Nat.reduceSub, reduceIte, Int.reduceEq, Int.reduceNe, Int.reduceLT, Int.reduceLE, Int.reduceAdd, Int.reduceSub, Int.reduceMul, Int.reduceNeg, Int.reduceMod, Int.reduceDiv, Int.reduceTMod, Int.reduceTDiv, Int.reduceToNat, okChain_i, okLoads_nil, okLoads_in, okLoads_eq]
    refine tail5a H.length (H.length + 1) (G.length + 4) (G.length + 9) c f g m n id s2 v B hb _ _ .nilIface 0 .nilIface true _ _ hput _ _ ⟨?_, ?_, ?_, ?_, ?_, ?_, ?_⟩ ⟨h2.more _, b2.more _, live_more0 k0 _, live_more0 k1 _, (live_app_add _ _ _).trans rfl, (live_app_add _ _ _).trans rfl, (live_app_add _ _ _).trans rfl, (live_app_add _ _ _).trans rfl⟩
    all_goals simp (maxDischargeDepth := 8) only [RUN, Ed, knd, kndR, resV, binInt, mnmxV, mnmx2, fillL, unV, lenV, extractV, partV, loadAt, Nat.reduceAdd, Nat.reduceBEq, Nat.reduceEqDiff, Nat.reduceLT, Nat.reduceLeDiff, Nat.reduceMul, Nat.reduceSub, reduceIte, Int.reduceEq, Int.reduceNe, Int.reduceLT, Int.reduceLE, Int.reduceAdd, Int.reduceSub, Int.reduceMul, Int.reduceNeg, Int.reduceMod, Int.reduceDiv, Int.reduceTMod, Int.reduceTDiv, Int.reduceToNat, okChain_i, okLoads_nil, okLoads_in, okLoads_eq]
  · have ep : ∀ G, EH all7 G → _ := fun G hG => putBad_f all7 c f g m n s G hG rfl hg
    have eq := fun G => putOutBad_f c f g m n s G hg
    have hput : Put5 c f g m n zeroF zeroF (Err 0) 101 (Err 0) false (fun F => True) (XI (some 0) 101) := by
      refine ⟨fun F X h => trivial, fun F hF => ?_, fun F => ?_, fun x => same_En x _ 0, fun F hF => sfZ F, eI0, ⟨rfl, rfl⟩, ⟨rfl, rfl⟩⟩
      · have := check_f all7 c f g m n F hF rfl
        rw [if_neg hg] at this
        exact this
      · have := egd F
        rw [show decide (GoodP c f g m n) = false by simpa using hg] at this
        exact this
    simp only [K] at ep eq
    simp (maxDischargeDepth := 8) only [r5, b5t, c5_0, o1, o2, ← hH1, RUN, Ed, knd, kndR, resV, binInt, mnmxV, mnmx2, fillL, unV, extractV, partV, loadAt, Nat.reduceAdd, Nat.reduceBEq, Nat.reduceEqDiff, Nat.reduceLT, Nat.reduceLeDiff, Nat.reduceMul, Nat.reduceSub, reduceIte, Int.reduceEq, Int.reduceNe, Int.reduceLT, Int.reduceLE, Int.reduceAdd, Int.reduceSub, Int.reduceMul, Int.reduceNeg, Int.reduceMod, Int.reduceDiv, Int.reduceTMod, Int.reduceTDiv, Int.reduceToNat, okChain_i, okLoads_nil, okLoads_in, okLoads_eq]
    simp (maxDischargeDepth := 8) only [c5_1, c5_2, c5_3, c5_4, c5_5, c5_6, c5_7, e0, k0, k1, i0, i1, lv, h40, h2, EH_more, ep, eq, zeroF, outL_len, outL_take, RUN, Ed, knd, kndR, resV, binInt, mnmxV, mnmx2, fillL, unV, extractV, partV, loadAt, Nat.reduceAdd, Nat.reduceBEq, Nat.reduceEqDiff, Nat.reduceLT, Nat.reduceLeDiff, Nat.reduceMul, Nat.reduceSub, reduceIte, Int.reduceEq, Int.reduceNe, Int.reduceLT, Int.reduceLE, Int.reduceAdd, Int.reduceSub, Int.reduceMul, Int.reduceNeg, Int.reduceMod, Int.reduceDiv, Int.reduceTMod, Int.reduceTDiv, Int.reduceToNat, okChain_i, okLoads_nil, okLoads_in, okLoads_eq]
    refine tail5a H.length (H.length + 1) (G.length + 3) (G.length + 7) c f g m n id s2 v B hb zeroF zeroF (Err 0) 101 (Err 0) false _ _ hput _ _ ⟨?_, ?_, ?_, ?_, ?_, ?_, ?_⟩ ⟨h2.more _, b2.more _, live_more0 k0 _, live_more0 k1 _, (live_app_add _ _ _).trans rfl, (live_app_add _ _ _).trans rfl, trivial⟩
    all_goals simp (maxDischargeDepth := 8) only [RUN, Ed, knd, kndR, resV, binInt, mnmxV, mnmx2, fillL, unV, lenV, extractV, partV, loadAt, Nat.reduceAdd, Nat.reduceBEq, Nat.reduceEqDiff, Nat.reduceLT, Nat.reduceLeDiff, Nat.reduceMul, Nat.reduceSub, reduceIte, Int.reduceEq, Int.reduceNe, Int.reduceLT, Int.reduceLE, Int.reduceAdd, Int.reduceSub, Int.reduceMul, Int.reduceNeg, Int.reduceMod, Int.reduceDiv, Int.reduceTMod, Int.reduceTDiv, Int.reduceToNat, okChain_i, okLoads_nil, okLoads_in, okLoads_eq]
end Go.Proofs.YtdmfedmhcegggaaDoor.Sim
