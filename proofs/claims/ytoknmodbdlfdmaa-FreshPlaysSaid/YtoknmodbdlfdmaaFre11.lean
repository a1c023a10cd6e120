/- FreshPlays over the plain heap. -/
import Derived.Test.YtoknmodbdlfdmaaFre10
import Derived.Test.YtoknmodbdlfdmaaSim21
import Derived.Test.YtoknmodbdlfdmaaFre8
namespace Go.Proofs.Ytoknmodbdlfdmaa.Sim
open Go
set_option linter.unusedSimpArgs false
set_option linter.unusedVariables false
/-- What a bank is told. -/
abbrev Dl := Int × Int × Int × Int
def dlA (s : Dl) : List Value := [.int .i64 s.1, .int .i64 s.2.1, .int .u8 s.2.2.1, .int .i64 s.2.2.2]
def DoS (H : Heap) (v : Value) (A : List Dl) : Prop := (A = [] ∧ ∃ e, v = .slice none 0 e) ∨ ∃ i e ty cells, v = .slice (some ⟨i, 0, none⟩) A.length e ∧ live H i = some ⟨false, ty, cells⟩ ∧ ∀ j a, A[j]? = some a → j * 4 + 4 ≤ cells.length ∧ (cells.drop (j * 4)).take 4 = dlA a
theorem DoS.len {H : Heap} {v : Value} {A : List Dl} (h : DoS H v A) : lenV false v = some (.int .i64 A.length) := by
  rcases h with ⟨rfl, e, rfl⟩ | ⟨i, e, ty, cells, rfl, _, _⟩ <;> rfl
theorem DoS.idx {H : Heap} {v : Value} {A : List Dl} (h : DoS H v A) {j : Nat} {a : Dl} (ha : A[j]? = some a) : ∃ i, idxSV 4 v (.int .i64 j) = some (.pointer (some ⟨i, j * 4, none⟩)) ∧ ∃ ty cells, live H i = some ⟨false, ty, cells⟩ ∧ cells[j * 4]? = some (.int .i64 a.1) ∧ cells[j * 4 + 1]? = some (.int .i64 a.2.1) ∧ cells[j * 4 + 2]? = some (.int .u8 a.2.2.1) ∧ cells[j * 4 + 3]? = some (.int .i64 a.2.2.2) := by
  rcases h with ⟨rfl, e, rfl⟩ | ⟨i, e, ty, cells, rfl, h2, h3⟩
  · simp at ha
  · have hj : j < A.length := by
      rcases Nat.lt_or_ge j A.length with q | q
      · exact q
      · rw [List.getElem?_eq_none q] at ha; cases ha
    obtain ⟨h4, h5⟩ := h3 j a ha
    have key : ∀ k, k < 4 → cells[j * 4 + k]? = (dlA a)[k]? := by
      intro k hk
      rw [← h5, List.getElem?_take, if_pos hk, List.getElem?_drop]
    exact ⟨i, by rw [idxS_s _ _ _ _ _ _ _ (by omega) (by omega)]; simp, ty, cells, h2, key 0 (by omega), key 1 (by omega), key 2 (by omega), key 3 (by omega)⟩
theorem DoS.old {H G : Heap} {v : Value} {l : List Dl} (h : DoS H v l) (o : ∀ (j : Nat) (ty : TypeId) (cs : List Value), live H j = some ⟨false, ty, cs⟩ → live G j = some ⟨false, ty, cs⟩) : DoS G v l := by
  rcases h with h | ⟨i, e', ty, cells, h1, h2, h3⟩
  · exact .inl h
  · exact .inr ⟨i, e', ty, cells, h1, o _ _ _ h2, h3⟩
theorem Opn_dls {H : Heap} {l : List Value} (h : Opn H (.slice (.agg ((.cons (.int .i64) (.cons (.int .i64) (.cons (.int .u8) (.cons (.int .i64) .nil))))))) l) : ∃ v A, l = [v] ∧ DoS H v A ∧ A.length ≤ maxLen := by
  simp only [Opn, OpnL] at h
  obtain ⟨i, x, ty, L, rfl, hl, hc, hm⟩ := h
  obtain ⟨M, rfl, hM⟩ := rows_map dlA (fun a => True) L (fun c hc' => by
    obtain ⟨_, _, rfl, ⟨a0, rfl, _⟩, _, _, rfl, ⟨a1, rfl, _⟩, _, _, rfl, ⟨a2, rfl, _⟩, _, _, rfl, ⟨a3, rfl, _⟩, rfl⟩ := hc c hc'
    exact ⟨(a0, a1, a2, a3), rfl, trivial⟩)
  rw [List.length_map] at hm hl ⊢
  refine ⟨_, M, rfl, ?_, hl⟩
  unfold argV
  by_cases h0 : M.length = 0
  · rw [if_pos h0]
    exact .inl ⟨List.eq_nil_of_length_eq_zero h0, x, rfl⟩
  · rw [if_neg h0]
    refine .inr ⟨i, 0, ty, _, rfl, hm (by omega), ?_⟩
    clear hM hm hc hl h0
    induction M with
    | nil => intro j a h; simp at h
    | cons b M ih =>
      intro j a h
      have hl6 : (dlA b).length = 4 := rfl
      cases j with
      | zero =>
        simp at h; subst h
        rw [List.map_cons, List.flatten_cons]
        refine ⟨by rw [List.length_append]; omega, ?_⟩
        rw [Nat.zero_mul, List.drop_zero, List.take_left' hl6]
      | succ j =>
        simp only [List.getElem?_cons_succ] at h
        obtain ⟨h1, h2⟩ := ih j a h
        rw [List.map_cons, List.flatten_cons]
        refine ⟨by rw [List.length_append]; omega, ?_⟩
        rw [← h2, show (j + 1) * 4 = (dlA b).length + j * 4 by rw [hl6]; omega, List.drop_append, List.drop_eq_nil_of_le (by omega), List.nil_append, Nat.add_sub_cancel_left]
theorem BK.setx {H : Heap} {p x : Nat} {s : Int} {f : Int → Option La} {b : Blk} (h : BK H p s f) (hx : live H x = some b) (hne : p ≠ x) (y : Option Blk) : BK (H.set x y) p s f := by
  obtain ⟨m, L, g, h1, h2, h3, h4⟩ := h
  have hm := live_ne_mlive hx h2
  exact ⟨m, L, g, by rw [live_set_ne _ _ _ _ (Ne.symm hne)]; exact h1, by rw [mlive_set_ne _ _ _ _ (Ne.symm hm)]; exact h2, h3, h4⟩
/-- Both banks, and what they are told. -/
structure TW (H : Heap) (p x : Nat) (s : Int) (f : Int → Option La) (v : Value) (A : List Dl) : Prop where
  b : BK H p s f
  r : RB H x s f
  d : DoS H v A
  ne : p ≠ x
theorem TW.ext {H G : Heap} {p x : Nat} {s : Int} {f : Int → Option La} {v : Value} {A : List Dl} (h : TW H p x s f v A) (e : Ext H G) : TW G p x s f v A :=
  ⟨h.b.ext e, h.r.ext e, h.d.old fun _ _ _ k => e.live k, h.ne⟩
theorem TW.put {H : Heap} {p x : Nat} {s : Int} {f : Int → Option La} {v : Value} {A : List Dl} (h : TW H p x s f v A) (c q w : Int) :
    ∃ F F', K 12 [.pointer (some ⟨p, 0, none⟩), .int .i64 c, .int .u8 q, .int .i64 w] H = some (.bool (putB f c q), F) ∧ K 15 [.pointer (some ⟨x, 0, none⟩), .int .i64 c, .int .u8 q, .int .i64 w] F = some (.bool (putB f c q), F') ∧ TW F' p x s (putF f c q w) v A ∧ Stay H F ∧
      ∀ (j : Nat) (ty : TypeId) (cs : List Value), live H j = some ⟨false, ty, cs⟩ → live F' j = some ⟨false, ty, cs⟩ := by
  obtain ⟨F, e1, k1, s1⟩ := put_f h.b c q w
  have hr := h.r.stay s1
  obtain ⟨cs', e2, hc⟩ := putR_f hr c q w
  obtain ⟨cs, hx, _⟩ := hr
  have ho : ∀ (j : Nat) (ty : TypeId) (ds : List Value), live H j = some ⟨false, ty, ds⟩ → live (F.set x (some ⟨true, 61, cs'⟩)) j = some ⟨false, ty, ds⟩ := by
    intro j ty ds hj
    have hj' := s1.2 _ _ hj
    have hjx : x ≠ j := by rintro rfl; rw [hx] at hj'; cases hj'
    rw [live_set_ne _ _ _ _ hjx]; exact hj'
  exact ⟨F, _, e1, e2, ⟨k1.setx hx h.ne _, ⟨cs', live_set_eq _ _ _ (live_ltG hx), hc⟩, h.d.old ho, h.ne⟩, s1, ho⟩
theorem TW.tick {H : Heap} {p x : Nat} {s : Int} {f : Int → Option La} {v : Value} {A : List Dl} (h : TW H p x s f v A) :
    ∃ F F', K 16 [.pointer (some ⟨p, 0, none⟩)] H = some (.tuple ⟨[]⟩, F) ∧ K 17 [.pointer (some ⟨x, 0, none⟩)] F = some (.tuple ⟨[]⟩, F') ∧ TW F' p x s (tickS f) v A := by
  obtain ⟨F, e1, k1, s1⟩ := tick_f h.b
  have hr := h.r.stay s1
  obtain ⟨cs', e2, hc⟩ := tickR_f hr
  obtain ⟨cs, hx, _⟩ := hr
  refine ⟨F, _, e1, e2, ⟨k1.setx hx h.ne _, ⟨cs', live_set_eq _ _ _ (live_ltG hx), hc⟩, h.d.old ?_, h.ne⟩⟩
  intro j ty ds hj
  have hj' := s1.2 _ _ hj
  have hjx : x ≠ j := by rintro rfl; rw [hx] at hj'; cases hj'
  rw [live_set_ne _ _ _ _ hjx]; exact hj'
/-- Three looks. -/
theorem look5 (p x : Nat) (s : Int) (f : Int → Option La) (v : Value) (A : List Dl) (q e : Nat) (ty : TypeId) (cells : List Value) (k : Nat) (hk : k < 3) (c : Int) (hc : cells[k]? = some (.int .i64 c)) (ρ : Fr) (G : Heap) (h : TW G p x s f v A) (hq : live G q = some ⟨true, ty, cells⟩)
    (r8 : ρ 8 = .pointer (some ⟨p, 0, none⟩)) (r9 : ρ 9 = .pointer (some ⟨x, 0, none⟩)) (r11 : ρ 11 = .slice (some ⟨q, 0, none⟩) 3 e) (r12 : ρ 12 = .int .i64 k) :
    ∃ ρ' X, E Try.prog hints l5_0 ρ G = some (.normal, ρ', G ++ X) ∧ ρ' 12 = .int .i64 (k + 1 : Nat) := by
  have jq := live_ltG hq
  obtain ⟨X1, e1⟩ := get_f h.b c
  have h1 := h.ext (Ext.more G X1)
  obtain ⟨G1, hG1⟩ : ∃ G1, G1 = G ++ X1 := ⟨_, rfl⟩
  rw [← hG1] at e1 h1
  have hq1 : live G1 q = some ⟨true, ty, cells⟩ := by rw [hG1]; exact (Ext.more _ _).live hq
  have jq1 := live_ltG hq1
  obtain ⟨X2, e2⟩ := getR_f h1.r c
  have h2 := h1.ext (Ext.more G1 X2)
  obtain ⟨G2, hG2⟩ : ∃ G2, G2 = G1 ++ X2 := ⟨_, rfl⟩
  rw [← hG2] at e2 h2
  have h3 := h2.ext (Ext.more G2 [some ⟨true, 39, [.int .i64 (valF f c), .bool (isF f s c)]⟩])
  obtain ⟨G3, hG3⟩ : ∃ G3, G3 = G2 ++ [some ⟨true, 39, [.int .i64 (valF f c), .bool (isF f s c)]⟩] := ⟨_, rfl⟩
  rw [← hG3] at h3
  have hz : live G3 G2.length = some ⟨true, 39, [.int .i64 (valF f c), .bool (isF f s c)]⟩ := by rw [hG3, live_app_len]; rfl
  have jz := live_ltG hz
  have hq3 : live G3 q = some ⟨true, ty, cells⟩ := by rw [hG3]; exact (Ext.more _ _).live (by rw [hG2]; exact (Ext.more _ _).live hq1)
  have jq3 := live_ltG hq3
  have hm : ∀ n b, Ext G3 (maskOf G3 n b) := fun n b => ⟨_, rfl⟩
  obtain ⟨XA, e3⟩ : ∃ XA : List (Nat × Option Blk) → List Nat → Heap, ∀ n b, K 19 [.pointer (some ⟨p, 0, none⟩), .int .i64 c] (maskOf G3 n b) = some (.int .i64 (ageF f c), maskOf G3 n b ++ XA n b) :=
    ⟨fun n b => (age_f (h3.b.ext (hm n b)) c).choose, fun n b => (age_f (h3.b.ext (hm n b)) c).choose_spec⟩
  have e3' := age_f h3.b c
  obtain ⟨XB, e3'⟩ := e3'
  have e4 : ∀ n b, K 20 [.pointer (some ⟨x, 0, none⟩), .int .i64 c] (maskOf G3 n b) = some (.int .i64 (ageF f c), maskOf G3 n b) := fun n b => ageR_f (h3.r.ext (hm n b)) c
  have hlt : (k : Int) < 3 := by omega
  have hlt' : (k : Int) < ((3 : Nat) : Int) := by omega
  have g0 : 0 ≤ (k : Int) := by omega
  have htn : (k : Int).toNat = k := by omega
  have w := wrap64 ((k : Int) + 1) (by omega) (by omega)
  simp only [K] at e1 e2 e3 e3' e4
  have fin : ∀ {ρ' : Fr} {Z : Heap}, E Try.prog hints l5_0 ρ G = some (.normal, ρ', G3 ++ Z) → ρ' 12 = .int .i64 (k + 1 : Nat) → ∃ ρ' X, E Try.prog hints l5_0 ρ G = some (.normal, ρ', G ++ X) ∧ ρ' 12 = .int .i64 (k + 1 : Nat) := by
    intro ρ' Z h1 h2
    refine ⟨ρ', X1 ++ (X2 ++ ([some ⟨true, 39, [.int .i64 (valF f c), .bool (isF f s c)]⟩] ++ Z)), ?_, h2⟩
    rw [h1, hG3, hG2, hG1]
    simp only [List.append_assoc]
  refine fin (ρ' := ?ρ1) (Z := ?Z1) ?run1 ?sl1
  case run1 =>
    simp (maxDischargeDepth := 8) only [l5_0, c5_0, c5_1, c5_2, c5_3, c5_4, c5_5, c5_6, c5_7, c5_8, c5_9, c5_10, c5_11, c5_12, c5_13, c5_14, c5_15, c5_16, c5_17, c5_18, c5_19, c5_20, c5_21, c5_22, c5_23, c5_24, c5_25, c5_26, r8, r9, r11, r12, hlt, hlt', g0, htn, w, hq, jq, hc, e1, ← hG1, hq1, jq1, e2, ← hG2, ← hG3, hz, jz, hq3, jq3, e3, e3', e4, Nat.mul_one, bself, eself, RUN, Ed, knd, kndR, resV, binInt, mnmxV, mnmx2, fillL, unV, lenV, extractV, partV, loadAt, Nat.reduceAdd, Nat.reduceBEq, Nat.reduceEqDiff, Nat.reduceLT, Nat.reduceLeDiff, Nat.reduceMul, Nat.reduceSub, reduceIte, Int.reduceEq, Int.reduceNe, Int.reduceLT, Int.reduceLE, Int.reduceAdd, Int.reduceSub, Int.reduceMul, Int.reduceNeg, Int.reduceMod, Int.reduceDiv, Int.reduceTMod, Int.reduceTDiv, Int.reduceToNat, okChain_i, okLoads_nil, okLoads_in, okLoads_eq]
    rfl
  case sl1 => first | (simp (maxDischargeDepth := 8) only [RUN, Ed, knd, kndR, resV, binInt, mnmxV, mnmx2, fillL, unV, lenV, extractV, partV, loadAt, Nat.reduceAdd, Nat.reduceBEq, Nat.reduceEqDiff, Nat.reduceLT, Nat.reduceLeDiff, Nat.reduceMul, Nat.reduceSub, reduceIte, Int.reduceEq, Int.reduceNe, Int.reduceLT, Int.reduceLE, Int.reduceAdd, Int.reduceSub, Int.reduceMul, Int.reduceNeg, Int.reduceMod, Int.reduceDiv, Int.reduceTMod, Int.reduceTDiv, Int.reduceToNat, okChain_i, okLoads_nil, okLoads_in, okLoads_eq]; done) | (simp (maxDischargeDepth := 8) only [RUN, Ed, knd, kndR, resV, binInt, mnmxV, mnmx2, fillL, unV, lenV, extractV, partV, loadAt, Nat.reduceAdd, Nat.reduceBEq, Nat.reduceEqDiff, Nat.reduceLT, Nat.reduceLeDiff, Nat.reduceMul, Nat.reduceSub, reduceIte, Int.reduceEq, Int.reduceNe, Int.reduceLT, Int.reduceLE, Int.reduceAdd, Int.reduceSub, Int.reduceMul, Int.reduceNeg, Int.reduceMod, Int.reduceDiv, Int.reduceTMod, Int.reduceTDiv, Int.reduceToNat, okChain_i, okLoads_nil, okLoads_in, okLoads_eq]; rfl)
theorem looks5 (p x : Nat) (s : Int) (f : Int → Option La) (v : Value) (A : List Dl) (q e : Nat) (ty : TypeId) (c0 c1 c2 : Int) (ρ : Fr) (G : Heap) (h : TW G p x s f v A) (hq : live G q = some ⟨true, ty, [.int .i64 c0, .int .i64 c1, .int .i64 c2]⟩)
    (r8 : ρ 8 = .pointer (some ⟨p, 0, none⟩)) (r9 : ρ 9 = .pointer (some ⟨x, 0, none⟩)) (r11 : ρ 11 = .slice (some ⟨q, 0, none⟩) 3 e) (r12 : ρ 12 = .int .i64 (0 : Nat)) :
    ∃ ρ' F, E Try.prog hints (.loop l5_0) ρ G = some (.exit 2, ρ', F) ∧ (∀ t, wrC l5_0 t = false → ρ' t = ρ t) ∧ Ext G F := by
  refine loop_keep (P := Try.prog) (hs := hints) (b := l5_0) (id := 2) ρ (fun k ρ F => ρ 12 = .int .i64 k ∧ Ext G F) (fun _ F => Ext G F) 3 ?_ ?_ G ⟨r12, Ext.refl G⟩
  · rintro k ρ1 F hk hf ⟨z12, hF⟩
    have hc : ∃ c, [Value.int .i64 c0, .int .i64 c1, .int .i64 c2][k]? = some (.int .i64 c) := by
      match k, hk with
      | 0, _ => exact ⟨c0, rfl⟩
      | 1, _ => exact ⟨c1, rfl⟩
      | 2, _ => exact ⟨c2, rfl⟩
    obtain ⟨c, hc⟩ := hc
    obtain ⟨ρ', X, e1, e2⟩ := look5 p x s f v A q e ty _ k hk c hc ρ1 F (h.ext hF) (hF.live hq) ((hf 8 rfl).trans r8) ((hf 9 rfl).trans r9) ((hf 11 rfl).trans r11) z12
    exact ⟨ρ', _, e1, e2, hF.trans (Ext.more _ _)⟩
  · rintro ρ1 F hf ⟨z12, hF⟩
    have z12' : ρ1 12 = .int .i64 3 := z12
    refine ⟨?ρ2, F, ?run2, hF⟩
    case run2 =>
      simp (maxDischargeDepth := 8) only [l5_0, c5_19, z12', RUN, Ed, knd, kndR, resV, binInt, mnmxV, mnmx2, fillL, unV, lenV, extractV, partV, loadAt, Nat.reduceAdd, Nat.reduceBEq, Nat.reduceEqDiff, Nat.reduceLT, Nat.reduceLeDiff, Nat.reduceMul, Nat.reduceSub, reduceIte, Int.reduceEq, Int.reduceNe, Int.reduceLT, Int.reduceLE, Int.reduceAdd, Int.reduceSub, Int.reduceMul, Int.reduceNeg, Int.reduceMod, Int.reduceDiv, Int.reduceTMod, Int.reduceTDiv, Int.reduceToNat, okChain_i, okLoads_nil, okLoads_in, okLoads_eq]
      rfl
def u5 : RCode := .seq (.region c5_17) (.seq (.region c5_18) (.block 2 (.loop l5_0)))
theorem l5_1t : l5_1 = (.seq (.seq (.region c5_11) (.cond (.tmp 32) .skip (.exit 0))) (.seq (.block 1 (.seq (.seq (.region c5_12) (.cond (.tmp 40) (.seq (.draw c5_13) (.cond (.tmp 75) (.seq (.region c5_14) .ret) .skip)) (.seq (.region c5_15) (.region c5_16)))) u5)) (.region c5_25))) := (rfl)
theorem tail5 (p x : Nat) (s ask : Int) (f : Int → Option La) (v : Value) (A : List Dl) (j : Nat) (a : Dl) (ha : A[j]? = some a) (ρ : Fr) (G : Heap) (h : TW G p x s f v A) (r1 : ρ 1 = v) (r2 : ρ 2 = .int .i64 ask) (r8 : ρ 8 = .pointer (some ⟨p, 0, none⟩)) (r9 : ρ 9 = .pointer (some ⟨x, 0, none⟩)) (r10 : ρ 10 = .int .i64 j) :
    ∃ ρ' F, E Try.prog hints u5 ρ G = some (.normal, ρ', F) ∧ (∀ t, wrC u5 t = false → ρ' t = ρ t) ∧ TW F p x s f v A := by
  obtain ⟨i, hi, ty, cells, hlv, m0, m1, m2, m3⟩ := h.d.idx ha
  have ji := live_ltG hlv
  have key : ∀ (ρ1 : Fr) (t : TypeId), ρ1 8 = .pointer (some ⟨p, 0, none⟩) → ρ1 9 = .pointer (some ⟨x, 0, none⟩) → ρ1 11 = .slice (some ⟨G.length, 0, none⟩) 3 1 → ρ1 12 = .int .i64 (0 : Nat) →
      ∃ ρ' F, blk 2 (E Try.prog hints (.loop l5_0) ρ1 (G ++ [some ⟨true, t, [.int .i64 ask, .int .i64 a.2.1, .int .i64 29]⟩])) = some (.normal, ρ', F) ∧ TW F p x s f v A := by
    intro ρ1 t z8 z9 z11 z12
    obtain ⟨ρ', F, e, _, hF⟩ := looks5 p x s f v A G.length 1 t ask a.2.1 29 ρ1 (G ++ [some ⟨true, t, [.int .i64 ask, .int .i64 a.2.1, .int .i64 29]⟩]) (h.ext (Ext.more G _)) (by rw [live_app_len]; rfl) z8 z9 z11 z12
    exact ⟨ρ', F, by rw [e, blk_x, if_pos rfl], (h.ext (Ext.more G _)).ext hF⟩
  have run : ∃ ρ' F, E Try.prog hints u5 ρ G = some (.normal, ρ', F) ∧ TW F p x s f v A := by
    simp (maxDischargeDepth := 8) only [u5, c5_17, c5_18, r1, r2, r8, r9, r10, hi, hlv, ji, m1, RUN, Ed, knd, kndR, resV, binInt, mnmxV, mnmx2, fillL, unV, lenV, extractV, partV, loadAt, Nat.reduceAdd, Nat.reduceBEq, Nat.reduceEqDiff, Nat.reduceLT, Nat.reduceLeDiff, Nat.reduceMul, Nat.reduceSub, reduceIte, Int.reduceEq, Int.reduceNe, Int.reduceLT, Int.reduceLE, Int.reduceAdd, Int.reduceSub, Int.reduceMul, Int.reduceNeg, Int.reduceMod, Int.reduceDiv, Int.reduceTMod, Int.reduceTDiv, Int.reduceToNat, okChain_i, okLoads_nil, okLoads_in, okLoads_eq]
    refine key _ _ ?_ ?_ ?_ ?_
    all_goals first | (simp (maxDischargeDepth := 8) only [r8, r9, RUN, Ed, knd, kndR, resV, binInt, mnmxV, mnmx2, fillL, unV, lenV, extractV, partV, loadAt, Nat.reduceAdd, Nat.reduceBEq, Nat.reduceEqDiff, Nat.reduceLT, Nat.reduceLeDiff, Nat.reduceMul, Nat.reduceSub, reduceIte, Int.reduceEq, Int.reduceNe, Int.reduceLT, Int.reduceLE, Int.reduceAdd, Int.reduceSub, Int.reduceMul, Int.reduceNeg, Int.reduceMod, Int.reduceDiv, Int.reduceTMod, Int.reduceTDiv, Int.reduceToNat, okChain_i, okLoads_nil, okLoads_in, okLoads_eq]; done) | (simp (maxDischargeDepth := 8) only [r8, r9, RUN, Ed, knd, kndR, resV, binInt, mnmxV, mnmx2, fillL, unV, lenV, extractV, partV, loadAt, Nat.reduceAdd, Nat.reduceBEq, Nat.reduceEqDiff, Nat.reduceLT, Nat.reduceLeDiff, Nat.reduceMul, Nat.reduceSub, reduceIte, Int.reduceEq, Int.reduceNe, Int.reduceLT, Int.reduceLE, Int.reduceAdd, Int.reduceSub, Int.reduceMul, Int.reduceNeg, Int.reduceMod, Int.reduceDiv, Int.reduceTMod, Int.reduceTDiv, Int.reduceToNat, okChain_i, okLoads_nil, okLoads_in, okLoads_eq]; rfl)
  obtain ⟨ρ', F, e, hF⟩ := run
  exact ⟨ρ', F, e, fun t ht => E_keep e ht, hF⟩
theorem round5 (p x : Nat) (s ask : Int) (f : Int → Option La) (v : Value) (A : List Dl) (hA : A.length ≤ 120) (j : Nat) (a : Dl) (ha : A[j]? = some a) (ρ : Fr) (G : Heap) (h : TW G p x s f v A) (r1 : ρ 1 = v) (r2 : ρ 2 = .int .i64 ask) (r8 : ρ 8 = .pointer (some ⟨p, 0, none⟩)) (r9 : ρ 9 = .pointer (some ⟨x, 0, none⟩)) (r10 : ρ 10 = .int .i64 j) :
    ∃ ρ' F, E Try.prog hints l5_1 ρ G = some (.normal, ρ', F) ∧ ρ' 10 = .int .i64 (j + 1 : Nat) ∧ ∃ f', TW F p x s f' v A := by
  have hjl : j < A.length := by
    rcases Nat.lt_or_ge j A.length with q | q
    · exact q
    · rw [List.getElem?_eq_none q] at ha; cases ha
  have l1 := h.d.len
  have hlt : (j : Int) < (A.length : Int) := by omega
  have w := wrap64 ((j : Int) + 1) (by omega) (by omega)
  obtain ⟨i, hi, ty, cells, hlv, m0, m1, m2, m3⟩ := h.d.idx ha
  have ji := live_ltG hlv
  have key : ∀ (ρ1 : Fr) (G1 : Heap) (f1 : Int → Option La), TW G1 p x s f1 v A → ρ1 1 = v → ρ1 2 = .int .i64 ask → ρ1 8 = .pointer (some ⟨p, 0, none⟩) → ρ1 9 = .pointer (some ⟨x, 0, none⟩) → ρ1 10 = .int .i64 j →
      ∃ ρ' F, andThen (blk 1 (E Try.prog hints u5 ρ1 G1)) (E Try.prog hints (.region c5_25)) = some (.normal, ρ', F) ∧ ρ' 10 = .int .i64 (j + 1 : Nat) ∧ ∃ f', TW F p x s f' v A := by
    intro ρ1 G1 f1 h1 z1 z2 z8 z9 z10
    obtain ⟨ρ2, F, e, hf, hF⟩ := tail5 p x s ask f1 v A j a ha ρ1 G1 h1 z1 z2 z8 z9 z10
    have y10 := (hf 10 rfl).trans z10
    rw [e]
    refine ⟨?ρ3, F, ?run3, ?_, f1, hF⟩
    case run3 =>
      simp (maxDischargeDepth := 8) only [c5_25, y10, w, RUN, Ed, knd, kndR, resV, binInt, mnmxV, mnmx2, fillL, unV, lenV, extractV, partV, loadAt, Nat.reduceAdd, Nat.reduceBEq, Nat.reduceEqDiff, Nat.reduceLT, Nat.reduceLeDiff, Nat.reduceMul, Nat.reduceSub, reduceIte, Int.reduceEq, Int.reduceNe, Int.reduceLT, Int.reduceLE, Int.reduceAdd, Int.reduceSub, Int.reduceMul, Int.reduceNeg, Int.reduceMod, Int.reduceDiv, Int.reduceTMod, Int.reduceTDiv, Int.reduceToNat, okChain_i, okLoads_nil, okLoads_in, okLoads_eq]
      rfl
    all_goals first | (simp (maxDischargeDepth := 8) only [RUN, Ed, knd, kndR, resV, binInt, mnmxV, mnmx2, fillL, unV, lenV, extractV, partV, loadAt, Nat.reduceAdd, Nat.reduceBEq, Nat.reduceEqDiff, Nat.reduceLT, Nat.reduceLeDiff, Nat.reduceMul, Nat.reduceSub, reduceIte, Int.reduceEq, Int.reduceNe, Int.reduceLT, Int.reduceLE, Int.reduceAdd, Int.reduceSub, Int.reduceMul, Int.reduceNeg, Int.reduceMod, Int.reduceDiv, Int.reduceTMod, Int.reduceTDiv, Int.reduceToNat, okChain_i, okLoads_nil, okLoads_in, okLoads_eq]; done) | (simp (maxDischargeDepth := 8) only [RUN, Ed, knd, kndR, resV, binInt, mnmxV, mnmx2, fillL, unV, lenV, extractV, partV, loadAt, Nat.reduceAdd, Nat.reduceBEq, Nat.reduceEqDiff, Nat.reduceLT, Nat.reduceLeDiff, Nat.reduceMul, Nat.reduceSub, reduceIte, Int.reduceEq, Int.reduceNe, Int.reduceLT, Int.reduceLE, Int.reduceAdd, Int.reduceSub, Int.reduceMul, Int.reduceNeg, Int.reduceMod, Int.reduceDiv, Int.reduceTMod, Int.reduceTDiv, Int.reduceToNat, okChain_i, okLoads_nil, okLoads_in, okLoads_eq]; rfl)
  by_cases hk : a.1 = 1
  · obtain ⟨F1, F2, e1, e2, h2, s1, _⟩ := h.put a.2.1 a.2.2.1 a.2.2.2
    have hlv1 := s1.2 _ _ hlv
    have ji1 := live_ltG hlv1
    have hd : decide (a.1 = 1) = true := by simpa using hk
    generalize putB f a.2.1 a.2.2.1 = b at *
    simp only [K] at e1 e2
    have bs := bself b
    rw [l5_1t]
    simp (maxDischargeDepth := 8) only [c5_11, c5_12, c5_13, r1, r2, r8, r9, r10, l1, hlt, hi, hlv, ji, m0, m1, m2, m3, hd, e1, e2, hlv1, ji1, bs, okChain_all, RUN, Ed, knd, kndR, resV, binInt, mnmxV, mnmx2, fillL, unV, extractV, partV, loadAt, Nat.reduceAdd, Nat.reduceBEq, Nat.reduceEqDiff, Nat.reduceLT, Nat.reduceLeDiff, Nat.reduceMul, Nat.reduceSub, reduceIte, Int.reduceEq, Int.reduceNe, Int.reduceLT, Int.reduceLE, Int.reduceAdd, Int.reduceSub, Int.reduceMul, Int.reduceNeg, Int.reduceMod, Int.reduceDiv, Int.reduceTMod, Int.reduceTDiv, Int.reduceToNat]
    refine key _ _ _ h2 ?_ ?_ ?_ ?_ ?_
    all_goals first | (simp (maxDischargeDepth := 8) only [r1, r2, r8, r9, r10, RUN, Ed, knd, kndR, resV, binInt, mnmxV, mnmx2, fillL, unV, lenV, extractV, partV, loadAt, Nat.reduceAdd, Nat.reduceBEq, Nat.reduceEqDiff, Nat.reduceLT, Nat.reduceLeDiff, Nat.reduceMul, Nat.reduceSub, reduceIte, Int.reduceEq, Int.reduceNe, Int.reduceLT, Int.reduceLE, Int.reduceAdd, Int.reduceSub, Int.reduceMul, Int.reduceNeg, Int.reduceMod, Int.reduceDiv, Int.reduceTMod, Int.reduceTDiv, Int.reduceToNat, okChain_i, okLoads_nil, okLoads_in, okLoads_eq]; done) | (simp (maxDischargeDepth := 8) only [r1, r2, r8, r9, r10, RUN, Ed, knd, kndR, resV, binInt, mnmxV, mnmx2, fillL, unV, lenV, extractV, partV, loadAt, Nat.reduceAdd, Nat.reduceBEq, Nat.reduceEqDiff, Nat.reduceLT, Nat.reduceLeDiff, Nat.reduceMul, Nat.reduceSub, reduceIte, Int.reduceEq, Int.reduceNe, Int.reduceLT, Int.reduceLE, Int.reduceAdd, Int.reduceSub, Int.reduceMul, Int.reduceNeg, Int.reduceMod, Int.reduceDiv, Int.reduceTMod, Int.reduceTDiv, Int.reduceToNat, okChain_i, okLoads_nil, okLoads_in, okLoads_eq]; rfl)
  · obtain ⟨F1, F2, e1, e2, h2⟩ := h.tick
    have hd : decide (a.1 = 1) = false := by simpa using hk
    simp only [K] at e1 e2
    rw [l5_1t]
    simp (maxDischargeDepth := 8) only [c5_11, c5_12, c5_15, c5_16, r1, r2, r8, r9, r10, l1, hlt, hi, hlv, ji, m0, hd, e1, e2, RUN, Ed, knd, kndR, resV, binInt, mnmxV, mnmx2, fillL, unV, extractV, partV, loadAt, Nat.reduceAdd, Nat.reduceBEq, Nat.reduceEqDiff, Nat.reduceLT, Nat.reduceLeDiff, Nat.reduceMul, Nat.reduceSub, reduceIte, Int.reduceEq, Int.reduceNe, Int.reduceLT, Int.reduceLE, Int.reduceAdd, Int.reduceSub, Int.reduceMul, Int.reduceNeg, Int.reduceMod, Int.reduceDiv, Int.reduceTMod, Int.reduceTDiv, Int.reduceToNat, okChain_i, okLoads_nil, okLoads_in, okLoads_eq]
    refine key _ _ _ h2 ?_ ?_ ?_ ?_ ?_
    all_goals first | (simp (maxDischargeDepth := 8) only [r1, r2, r8, r9, r10, RUN, Ed, knd, kndR, resV, binInt, mnmxV, mnmx2, fillL, unV, lenV, extractV, partV, loadAt, Nat.reduceAdd, Nat.reduceBEq, Nat.reduceEqDiff, Nat.reduceLT, Nat.reduceLeDiff, Nat.reduceMul, Nat.reduceSub, reduceIte, Int.reduceEq, Int.reduceNe, Int.reduceLT, Int.reduceLE, Int.reduceAdd, Int.reduceSub, Int.reduceMul, Int.reduceNeg, Int.reduceMod, Int.reduceDiv, Int.reduceTMod, Int.reduceTDiv, Int.reduceToNat, okChain_i, okLoads_nil, okLoads_in, okLoads_eq]; done) | (simp (maxDischargeDepth := 8) only [r1, r2, r8, r9, r10, RUN, Ed, knd, kndR, resV, binInt, mnmxV, mnmx2, fillL, unV, lenV, extractV, partV, loadAt, Nat.reduceAdd, Nat.reduceBEq, Nat.reduceEqDiff, Nat.reduceLT, Nat.reduceLeDiff, Nat.reduceMul, Nat.reduceSub, reduceIte, Int.reduceEq, Int.reduceNe, Int.reduceLT, Int.reduceLE, Int.reduceAdd, Int.reduceSub, Int.reduceMul, Int.reduceNeg, Int.reduceMod, Int.reduceDiv, Int.reduceTMod, Int.reduceTDiv, Int.reduceToNat, okChain_i, okLoads_nil, okLoads_in, okLoads_eq]; rfl)
def t5 : RCode := .seq (.region c5_26) .ret
theorem b5t : b5 = (.seq (.region c5_0) (.seq (.region c5_1) (.seq (.seq (.region c5_2) (.cond (.tmp 18) (.seq (.region c5_3) .ret) .skip)) (.seq (.seq (.region c5_4) (.cond (.tmp 21) (.seq (.region c5_5) .ret) .skip)) (.seq (.region c5_6) (.seq (.region c5_7) (.seq (.seq (.region c5_8) (.cond (.tmp 28) (.seq (.region c5_9) .ret) .skip)) (.seq (.seq (.region c5_10) (.block 0 (.loop l5_1))) t5)))))))) := (rfl)
theorem plays (s ask : Int) (v : Value) (A : List Dl) (H : Heap) (hd : DoS H v A) : Ok (K 5 [.int .i64 s, v, .int .i64 ask] H) := by
  have q5 : K 5 [.int .i64 s, v, .int .i64 ask] H = done r5.res (E Try.prog hints r5.body (frame0 [.int .i64 s, v, .int .i64 ask]) H) := D_eq p5 _ _ (Nat.le_of_ble_eq_true rfl)
  obtain ⟨F0, e0, x0⟩ := first_f H
  have hd0 : DoS F0 v A := hd.old fun _ _ _ k => x0.2 _ _ k
  have l1 := hd0.len
  have l1' := hd.len
  simp only [K] at e0 q5
  rw [K, q5]
  by_cases h120 : (120 : Int) < (A.length : Int)
  · simp (maxDischargeDepth := 8) only [r5, b5t, c5_0, c5_1, c5_2, c5_3, c5_4, c5_5, e0, l1, h120, RUN, Ed, knd, kndR, resV, binInt, mnmxV, mnmx2, fillL, unV, extractV, partV, loadAt, Nat.reduceAdd, Nat.reduceBEq, Nat.reduceEqDiff, Nat.reduceLT, Nat.reduceLeDiff, Nat.reduceMul, Nat.reduceSub, reduceIte, Int.reduceEq, Int.reduceNe, Int.reduceLT, Int.reduceLE, Int.reduceAdd, Int.reduceSub, Int.reduceMul, Int.reduceNeg, Int.reduceMod, Int.reduceDiv, Int.reduceTMod, Int.reduceTDiv, Int.reduceToNat, okChain_i, okLoads_nil, okLoads_in, okLoads_eq]
    exact Ok.mk _
  · obtain ⟨p, F1, e1, k1, x1, hp⟩ := new_f s F0
    have e2 := newR_f s F1
    have hr := zeros_RC (clampZ s 0 1000)
    generalize clampZ s 0 1000 = s1 at *
    obtain ⟨F2, hF2⟩ : ∃ F2, F2 = F1 ++ [some ⟨true, 61, .int .i64 s1 :: zeros⟩] := ⟨_, rfl⟩
    rw [← hF2] at e2
    have hw : TW F2 p F1.length s1 (fun _ => none) v A := ⟨k1.ext ⟨_, hF2⟩, ⟨_, by rw [hF2, live_app_len]; rfl, hr⟩, hd0.old fun _ _ _ k => by
      have := x1.live k
      rw [hF2]; exact (Ext.more _ _).live this, by have := k1.lt; omega⟩
    have key : ∀ ρ : Fr, ρ 1 = v → ρ 2 = .int .i64 ask → ρ 7 = .bool true → ρ 8 = .pointer (some ⟨p, 0, none⟩) → ρ 9 = .pointer (some ⟨F1.length, 0, none⟩) → ρ 10 = .int .i64 (0 : Nat) →
        Ok (done [.tmp 6] (andThen (blk 0 (E Try.prog hints (.loop l5_1) ρ F2)) (E Try.prog hints t5))) := by
      intro ρ z1 z2 z7 z8 z9 z10
      obtain ⟨ρ', F', e, hf, _⟩ := loop_keep (P := Try.prog) (hs := hints) (b := l5_1) (id := 0) ρ (fun j ρ F => ρ 10 = .int .i64 j ∧ ∃ f, TW F p F1.length s1 f v A) (fun _ _ => True) A.length
        (by
          rintro j ρ1 F hj hf ⟨y10, f, h⟩
          obtain ⟨ρ', F', e, g1, g2⟩ := round5 p F1.length s1 ask f v A (by omega) j A[j] (List.getElem?_eq_getElem hj) ρ1 F h ((hf 1 rfl).trans z1) ((hf 2 rfl).trans z2) ((hf 8 rfl).trans z8) ((hf 9 rfl).trans z9) y10
          exact ⟨ρ', F', e, g1, g2⟩)
        (by
          rintro ρ1 F hf ⟨y10, f, h⟩
          have l2 := h.d.len
          have y1 := (hf 1 rfl).trans z1
          have hlt : ¬ ((A.length : Int) < (A.length : Int)) := by omega
          refine ⟨?ρ2, F, ?run2, trivial⟩
          case run2 =>
            simp (maxDischargeDepth := 8) only [l5_1, c5_11, y1, y10, l2, hlt, RUN, Ed, knd, kndR, resV, binInt, mnmxV, mnmx2, fillL, unV, extractV, partV, loadAt, Nat.reduceAdd, Nat.reduceBEq, Nat.reduceEqDiff, Nat.reduceLT, Nat.reduceLeDiff, Nat.reduceMul, Nat.reduceSub, reduceIte, Int.reduceEq, Int.reduceNe, Int.reduceLT, Int.reduceLE, Int.reduceAdd, Int.reduceSub, Int.reduceMul, Int.reduceNeg, Int.reduceMod, Int.reduceDiv, Int.reduceTMod, Int.reduceTDiv, Int.reduceToNat, okChain_i, okLoads_nil, okLoads_in, okLoads_eq]
            rfl)
        F2 ⟨z10, _, hw⟩
      have y7 := (hf 7 rfl).trans z7
      rw [e]
      simp (maxDischargeDepth := 8) only [t5, c5_26, y7, RUN, Ed, knd, kndR, resV, binInt, mnmxV, mnmx2, fillL, unV, lenV, extractV, partV, loadAt, Nat.reduceAdd, Nat.reduceBEq, Nat.reduceEqDiff, Nat.reduceLT, Nat.reduceLeDiff, Nat.reduceMul, Nat.reduceSub, reduceIte, Int.reduceEq, Int.reduceNe, Int.reduceLT, Int.reduceLE, Int.reduceAdd, Int.reduceSub, Int.reduceMul, Int.reduceNeg, Int.reduceMod, Int.reduceDiv, Int.reduceTMod, Int.reduceTDiv, Int.reduceToNat, okChain_i, okLoads_nil, okLoads_in, okLoads_eq]
      exact Ok.mk _
    simp only [K] at e1 e2
    simp (maxDischargeDepth := 8) only [r5, b5t, c5_0, c5_1, c5_2, c5_3, c5_4, c5_5, c5_6, c5_7, c5_8, c5_9, c5_10, e0, l1, h120, e1, e2, RUN, Ed, knd, kndR, resV, binInt, mnmxV, mnmx2, fillL, unV, extractV, partV, loadAt, Nat.reduceAdd, Nat.reduceBEq, Nat.reduceEqDiff, Nat.reduceLT, Nat.reduceLeDiff, Nat.reduceMul, Nat.reduceSub, reduceIte, Int.reduceEq, Int.reduceNe, Int.reduceLT, Int.reduceLE, Int.reduceAdd, Int.reduceSub, Int.reduceMul, Int.reduceNeg, Int.reduceMod, Int.reduceDiv, Int.reduceTMod, Int.reduceTDiv, Int.reduceToNat, okChain_i, okLoads_nil, okLoads_in, okLoads_eq]
    refine key _ ?_ ?_ ?_ ?_ ?_ ?_
    all_goals first | (simp (maxDischargeDepth := 8) only [RUN, Ed, knd, kndR, resV, binInt, mnmxV, mnmx2, fillL, unV, lenV, extractV, partV, loadAt, Nat.reduceAdd, Nat.reduceBEq, Nat.reduceEqDiff, Nat.reduceLT, Nat.reduceLeDiff, Nat.reduceMul, Nat.reduceSub, reduceIte, Int.reduceEq, Int.reduceNe, Int.reduceLT, Int.reduceLE, Int.reduceAdd, Int.reduceSub, Int.reduceMul, Int.reduceNeg, Int.reduceMod, Int.reduceDiv, Int.reduceTMod, Int.reduceTDiv, Int.reduceToNat, okChain_i, okLoads_nil, okLoads_in, okLoads_eq]; done) | (simp (maxDischargeDepth := 8) only [RUN, Ed, knd, kndR, resV, binInt, mnmxV, mnmx2, fillL, unV, lenV, extractV, partV, loadAt, Nat.reduceAdd, Nat.reduceBEq, Nat.reduceEqDiff, Nat.reduceLT, Nat.reduceLeDiff, Nat.reduceMul, Nat.reduceSub, reduceIte, Int.reduceEq, Int.reduceNe, Int.reduceLT, Int.reduceLE, Int.reduceAdd, Int.reduceSub, Int.reduceMul, Int.reduceNeg, Int.reduceMod, Int.reduceDiv, Int.reduceTMod, Int.reduceTDiv, Int.reduceToNat, okChain_i, okLoads_nil, okLoads_in, okLoads_eq]; rfl)
def sh5 : List Sh := [.int .i64, .slice (.agg ((.cons (.int .i64) (.cons (.int .i64) (.cons (.int .u8) (.cons (.int .i64) .nil)))))), .int .i64]
theorem plays_law (H : Heap) (ls : List (List Value)) (o : OpnAll H sh5 ls) : Ok (K 5 (argsS sh5 ls) H) := by
  obtain ⟨l0, _, rfl, h0, o⟩ := o.uncons
  obtain ⟨l1, _, rfl, h1, o⟩ := o.uncons
  obtain ⟨l2, _, rfl, h2, o⟩ := o.uncons
  cases o.unnil
  obtain ⟨v, A, rfl, hA, _⟩ := Opn_dls h1
  simp only [Opn.eq_1] at h0 h2
  obtain ⟨s, rfl, _⟩ := h0
  obtain ⟨ask, rfl, _⟩ := h2
  exact plays s ask v A H hA
end Go.Proofs.Ytoknmodbdlfdmaa.Sim
