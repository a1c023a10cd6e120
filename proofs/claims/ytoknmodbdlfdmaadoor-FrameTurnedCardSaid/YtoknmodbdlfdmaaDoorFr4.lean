/- Bytes as frames: what Split gives. -/
import Derived.Test.YtoknmodbdlfdmaaDoorFr3
import Derived.Test.YtoknmodbdlfdmaaDoorSim21
namespace Go.Proofs.YtoknmodbdlfdmaaDoor.Sim
open Go Go.Proofs.YtoknmodbdlfdmaaDoor.CrcMath
set_option linter.unusedSimpArgs false
set_option linter.unusedVariables false
def splitN : Nat → List B8 → List Fra × Nat
  | 0, _ => ([], 0)
  | n + 1, m => if m = [] then ([], 0) else if begC m then (begF m :: (splitN n (m.drop (6 + bodyN m))).1, (splitN n (m.drop (6 + bodyN m))).2) else ((splitN n (m.drop 1)).1, (splitN n (m.drop 1)).2 + 1)
theorem splitN_eq : ∀ (n k : Nat) (m : List B8), m.length ≤ n → m.length ≤ k → splitN n m = splitN k m := by
  intro n
  induction n with
  | zero =>
    intro k m h _
    have : m = [] := List.eq_nil_of_length_eq_zero (by omega)
    subst this
    cases k with
    | zero => rfl
    | succ k => simp [splitN]
  | succ n ih =>
    intro k m h g
    cases k with
    | zero =>
      have : m = [] := List.eq_nil_of_length_eq_zero (by omega)
      subst this
      simp [splitN]
    | succ k =>
      simp only [splitN]
      by_cases hm : m = []
      · rw [if_pos hm, if_pos hm]
      · have hp : 0 < m.length := List.length_pos_iff.2 hm
        rw [if_neg hm, if_neg hm, ih k (m.drop 1) (by rw [List.length_drop]; omega) (by rw [List.length_drop]; omega), ih k (m.drop (6 + bodyN m)) (by rw [List.length_drop]; omega) (by rw [List.length_drop]; omega)]
/-- The frames of bytes, and how many bytes were passed over. -/
def splitP (m : List B8) : List Fra × Nat := splitN m.length m
theorem splitP_nil : splitP [] = ([], 0) := rfl
theorem splitP_eq {n : Nat} {m : List B8} (h : m.length ≤ n) : splitN n m = splitP m := splitN_eq _ _ _ h (Nat.le_refl _)
theorem splitP_beg {m : List B8} (h : begC m) : splitP m = (begF m :: (splitP (m.drop (6 + bodyN m))).1, (splitP (m.drop (6 + bodyN m))).2) := by
  have h6 := h.1
  obtain ⟨n, hn⟩ : ∃ n, m.length = n + 1 := ⟨m.length - 1, by omega⟩
  rw [← splitP_eq (n := n + 1) (by omega)]
  have hm : m ≠ [] := by intro e; subst e; simp at h6
  simp only [splitN]
  rw [if_neg hm, if_pos h, splitP_eq (by rw [List.length_drop]; omega)]
theorem splitP_not {m : List B8} (h : ¬ begC m) (hm : m ≠ []) : splitP m = ((splitP (m.drop 1)).1, (splitP (m.drop 1)).2 + 1) := by
  have hp : 0 < m.length := List.length_pos_iff.2 hm
  obtain ⟨n, hn⟩ : ∃ n, m.length = n + 1 := ⟨m.length - 1, by omega⟩
  rw [← splitP_eq (n := n + 1) (by omega)]
  simp only [splitN]
  rw [if_neg hm, if_neg h, splitP_eq (by rw [List.length_drop]; omega)]
/- Blocks that no row of frames is. -/
def Kq (F F' : Heap) : Prop := ∀ i b, live F i = some b → (b.own = false ∨ b.ty ≠ 24) → live F' i = some b
theorem Kq.refl (F : Heap) : Kq F F := fun _ _ h _ => h
theorem Kq.ext {F F' : Heap} (h : Ext F F') : Kq F F' := fun _ _ hb _ => h.live hb
theorem Kq.trans {A B C : Heap} (h : Kq A B) (g : Kq B C) : Kq A C := fun i b hb ht => g i b (h i b hb ht) ht
/-- A slice of bytes in such a block. -/
def BW (H : Heap) (v : Value) (A : List Int) : Prop := (A = [] ∧ ∃ e, v = .slice none 0 e) ∨ ∃ i o e ow ty cells, v = .slice (some ⟨i, o, none⟩) A.length e ∧ live H i = some ⟨ow, ty, cells⟩ ∧ (ow = false ∨ ty ≠ 24) ∧ o + A.length ≤ cells.length ∧ ∀ j a, A[j]? = some a → cells[o + j]? = some (.int .u8 a)
theorem BW.BS {H : Heap} {v : Value} {A : List Int} (h : BW H v A) : BS H v A := by
  rcases h with h | ⟨i, o, e, ow, ty, cells, h1, h2, _, h3⟩
  · exact .inl h
  · exact .inr ⟨i, o, e, ow, ty, cells, h1, h2, h3⟩
theorem BW.keep {F F' : Heap} {v : Value} {A : List Int} (h : BW F v A) (k : Kq F F') : BW F' v A := by
  rcases h with h | ⟨i, o, e, ow, ty, cells, h1, h2, ht, h3⟩
  · exact .inl h
  · exact .inr ⟨i, o, e, ow, ty, cells, h1, k _ _ h2 ht, ht, h3⟩
theorem SM.BW {H G : Heap} {v : Value} {A : List Int} (h : SM 5 1 H G v A.length (bL A)) : Sim.BW G v A := by
  rcases h with ⟨h1, rfl, _⟩ | ⟨c, _, rfl, h3, _⟩
  · rw [List.eq_nil_of_length_eq_zero h1]; exact .inl ⟨rfl, 0, rfl⟩
  · refine .inr ⟨c, 0, 1, true, 5, bL A, rfl, h3, .inr (by decide), by rw [bL_len]; omega, fun j a ha => ?_⟩
    rw [Nat.zero_add]; unfold bL; rw [List.getElem?_map, ha]; rfl
def frL (f : Fra) (w : Value) : List Value := [.int .u8 (w8 f.1), .int .u8 (w8 f.2.1), w]
def FC (H : Heap) (c : List Value) (f : Fra) : Prop := ∃ w, c = frL f w ∧ BW H w (f.2.2.map w8)
def FCs (H : Heap) : List Value → List Fra → Prop
  | cells, [] => cells = []
  | cells, f :: L => ∃ c r, cells = c ++ r ∧ FC H c f ∧ FCs H r L
theorem FCs.keep {F F' : Heap} (k : Kq F F') : ∀ (L : List Fra) (cells : List Value), FCs F cells L → FCs F' cells L := by
  intro L
  induction L with
  | nil => intro cells h; exact h
  | cons f L ih =>
    intro cells h
    obtain ⟨c, r, h1, ⟨w, h2, h3⟩, h4⟩ := h
    exact ⟨c, r, h1, ⟨w, h2, h3.keep k⟩, ih r h4⟩
theorem FCs.len {H : Heap} : ∀ (L : List Fra) (cells : List Value), FCs H cells L → cells.length = L.length * 3 := by
  intro L
  induction L with
  | nil => intro cells h; simp only [FCs] at h; subst h; rfl
  | cons f L ih =>
    intro cells h
    obtain ⟨c, r, h1, ⟨w, h2, h3⟩, h4⟩ := h
    subst h1; subst h2
    rw [List.length_append, ih r h4, List.length_cons]; simp [frL]; omega
theorem FCs.add {H : Heap} {c : List Value} {f : Fra} (hf : FC H c f) : ∀ (L : List Fra) (cells : List Value), FCs H cells L → FCs H (cells ++ c) (L ++ [f]) := by
  intro L
  induction L with
  | nil =>
    intro cells h
    simp only [FCs] at h
    subst h
    exact ⟨c, [], by simp, hf, rfl⟩
  | cons g L ih =>
    intro cells h
    obtain ⟨d, r, h1, h2, h4⟩ := h
    exact ⟨d, r ++ c, by rw [h1, List.append_assoc], h2, ih r h4⟩
theorem FCs.get {H : Heap} : ∀ (L : List Fra) (cells : List Value), FCs H cells L → ∀ (j : Nat) (f : Fra), L[j]? = some f → j * 3 + 3 ≤ cells.length ∧ ∃ w, (cells.drop (j * 3)).take 3 = frL f w ∧ cells[j * 3 + 2]? = some w ∧ BW H w (f.2.2.map w8) := by
  intro L
  induction L with
  | nil => intro cells _ j f h; simp at h
  | cons g L ih =>
    intro cells h j f hj
    obtain ⟨c, r, h1, ⟨w, h2, h3⟩, h4⟩ := h
    subst h1; subst h2
    cases j with
    | zero =>
      simp at hj; subst hj
      exact ⟨by simp [frL], w, rfl, rfl, h3⟩
    | succ j =>
      simp only [List.getElem?_cons_succ] at hj
      obtain ⟨g1, w', g2, g3, g4⟩ := ih r h4 j f hj
      refine ⟨by rw [List.length_append]; simp [frL]; omega, w', ?_, ?_, g4⟩
      · rw [show (j + 1) * 3 = j * 3 + 3 by omega]; exact g2
      · rw [show (j + 1) * 3 + 2 = j * 3 + 2 + 3 by omega]; exact g3
/-- A row of frames that was made here. -/
def FO (H G : Heap) (w : Value) (L : List Fra) : Prop := ∃ cells, SM 24 3 H G w L.length cells ∧ FCs G cells L
theorem FO.nil (H G : Heap) : FO H G (.slice none 0 0) [] := ⟨[], SM.nil _ _ _ _, rfl⟩
theorem FO.ext {H G F : Heap} {w : Value} {L : List Fra} (h : FO H G w L) (e : Ext G F) : FO H F w L := by
  obtain ⟨cells, h1, h2⟩ := h
  exact ⟨cells, h1.ext e, FCs.keep (Kq.ext e) _ _ h2⟩
theorem SM.fresh {ty esz : Nat} {H G : Heap} {v : Value} {n : Nat} {cells : List Value} (h : SM ty esz H G v n cells) {p : Nat} (hp : G.length ≤ p) : ¬ owns v p := by
  rintro ⟨m, e, he⟩
  rcases h with ⟨_, rfl, _⟩ | ⟨c, _, rfl, h3, _⟩
  · cases he
  · have := live_ltG h3
    injection he with he; injection he with he; injection he with he; omega
theorem SM.kp {H G F F' : Heap} {v : Value} {n : Nat} {cells : List Value} (h : SM 24 3 H G v n cells) (e : Ext G F) (hk : ∀ i b, ¬ owns v i → live F i = some b → live F' i = some b) : Kq F F' := by
  intro i b hb ht
  refine hk i b ?_ hb
  rintro ⟨m, e', he⟩
  rcases h with ⟨_, rfl, _⟩ | ⟨c, _, rfl, h3, _⟩
  · cases he
  · injection he with he; injection he with he; injection he with he
    subst he
    rw [e.live h3] at hb
    injection hb with hb
    subst hb
    rcases ht with ht | ht
    · cases ht
    · exact ht rfl
def m10 : RCode := (.seq (.seq (.region c10_11) (.cond (.tmp 12) (.seq (.region c10_12) .ret) .skip)) (.seq (.region c10_13) (.seq (.seq (.region c10_14) (.cond (.tmp 23) (.seq (.region c10_15) (.seq (.region c10_16) (.goto 0))) .skip)) (.seq (.region c10_17) (.seq (.region c10_18) (.goto 0))))))
structure S10 (v w : Value) (p k : Nat) (ρ : Fr) : Prop where
  q0 : ρ 0 = v
  q4 : ρ 4 = w
  q5 : ρ 5 = .int .i64 p
  q6 : ρ 6 = .int .i64 k
theorem step10 (H : Heap) (v : Value) (m : List B8) (hl : m.length ≤ 10000) (hB : BS H v (m.map w8)) (w : Value) (p k : Nat) (hk : k < m.length) (hp : p ≤ 10000) (L : List Fra) (hL : L.length ≤ 10000) (ρ : Fr) (G : Heap) (hs : S10 v w p k ρ) (hE : Ext H G) (hm : FO H G w L) :
    (begC (m.drop k) → ∃ ρ' G' w', E Tryd.prog hints m10 ρ G = some (.goto 0, ρ', G') ∧ S10 v w' p (k + (6 + bodyN (m.drop k))) ρ' ∧ Ext H G' ∧ FO H G' w' (L ++ [begF (m.drop k)])) ∧
    (¬ begC (m.drop k) → ∃ ρ' G', E Tryd.prog hints m10 ρ G = some (.goto 0, ρ', G') ∧ S10 v w (p + 1) (k + 1) ρ' ∧ Ext H G' ∧ FO H G' w L) := by
  obtain ⟨q0, q4, q5, q6⟩ := hs
  have hBG := hB.ext hE
  have l1 := hBG.len
  rw [List.length_map] at l1
  have hd : decide ((k : Int) = (m.length : Int)) = false := by rw [decide_eq_false_iff_not]; omega
  obtain ⟨u, es, hu⟩ := hBG.cut (lo := some (.int .i64 (k : Int))) (hi := none) (l := k) (r := (m.map w8).length) (bound_nat _ _ _) rfl (by rw [List.length_map]; omega) (Nat.le_refl _)
  rw [List.take_length, ← List.map_drop] at hu
  obtain ⟨b1, b2⟩ := begin_f u (m.drop k) (by rw [List.length_drop]; omega) G hu
  have wp := wrap64 ((p : Int) + 1) (by omega) (by omega)
  have wk := wrap64 ((k : Int) + 1) (by omega) (by omega)
  constructor
  · intro hbeg
    obtain ⟨w1, X, eb, hw1⟩ := b1 hbeg
    obtain ⟨v1, v2⟩ := hw1.one
    have hn : bodyN (m.drop k) ≤ 32 := hbeg.2.2.1
    have hlen : (begF (m.drop k)).2.2.length = bodyN (m.drop k) := by
      have := hbeg.2.2.2.1
      simp only [begF, List.length_drop, List.length_take] at this ⊢; omega
    have hwk : IntKind.i64.wrap ((k : Int) + (6 + ((bodyN (m.drop k) : Nat) : Int))) = ((k + (6 + bodyN (m.drop k)) : Nat) : Int) := by rw [wrap64 _ (by omega) (by omega)]; omega
    obtain ⟨cells, hsm, hfc⟩ := hm
    have hF : Ext G (G ++ (X ++ [some ⟨true, 24, frL (begF (m.drop k)) w1⟩, some ⟨true, 24, frL (begF (m.drop k)) w1⟩])) := Ext.more _ _
    have hj : live (G ++ (X ++ [some ⟨true, 24, frL (begF (m.drop k)) w1⟩, some ⟨true, 24, frL (begF (m.drop k)) w1⟩])) (G.length + (X.length + 1)) = some ⟨true, 24, frL (begF (m.drop k)) w1⟩ := by
      rw [live_app_add, live_app_add]; rfl
    have hp7 : live (G ++ (X ++ [some ⟨true, 24, frL (begF (m.drop k)) w1⟩, some ⟨true, 24, frL (begF (m.drop k)) w1⟩])) (G.length + X.length) = some ⟨true, 24, frL (begF (m.drop k)) w1⟩ := by
      rw [live_app_add, live_app_len]; rfl
    have hall : (frL (begF (m.drop k)) w1).all Value.oneCell' = true := by simp only [frL, List.all_cons, List.all_nil, v1, one_int, Bool.and_true]
    obtain ⟨w', F', ea, hm', he', hk', _, _⟩ := hsm.append (bytes := 32) hE hF (m := 1) (e := 3) hj (by omega) rfl (by omega) hall
    have hkq := hsm.kp hF hk'
    have hp7' := hk' _ _ (hsm.fresh (by omega)) hp7
    have ip7 := live_ltG hp7'
    have hbw := (hw1.BW.keep (Kq.ext (show Ext (G ++ X) (G ++ (X ++ [some ⟨true, 24, frL (begF (m.drop k)) w1⟩, some ⟨true, 24, frL (begF (m.drop k)) w1⟩])) by rw [← List.append_assoc]; exact Ext.more _ _))).keep hkq
    have esz := size_f (w8 (begF (m.drop k)).1) (w8 (begF (m.drop k)).2.1) w1 (bodyN (m.drop k)) (by omega) F' _ hbw.BS (by rw [List.length_map, hlen])
    have hfo : FO H F' w' (L ++ [begF (m.drop k)]) := ⟨cells ++ frL (begF (m.drop k)) w1, by rw [List.length_append]; exact hm', FCs.add ⟨w1, rfl, hbw⟩ _ _ (FCs.keep ((Kq.ext hF).trans hkq) _ _ hfc)⟩
    simp only [frL, begF] at ea esz hp7'
    generalize hm'' : m.drop k = md at *
    generalize bodyN md = N at *
    refine ⟨?ρ2, ?G2, w', ?run2, ⟨?_, ?_, ?_, ?_⟩, ?e2, ?f2⟩
    case run2 =>
      simp (maxDischargeDepth := 8) only [m10, c10_0, c10_1, c10_2, c10_3, c10_4, c10_5, c10_6, c10_7, c10_8, c10_9, c10_10, c10_11, c10_12, c10_13, c10_14, c10_15, c10_16, c10_17, c10_18, q0, q4, q5, q6, l1, hd, es, eb, ea, esz, hwk, hp7', ip7, v1, v2, RUN, Ed, knd, kndR, resV, binInt, mnmxV, mnmx2, fillL, unV, extractV, partV, loadAt, Nat.reduceAdd, Nat.reduceBEq, Nat.reduceEqDiff, Nat.reduceLT, Nat.reduceLeDiff, Nat.reduceMul, Nat.reduceSub, reduceIte, Int.reduceEq, Int.reduceNe, Int.reduceLT, Int.reduceLE, Int.reduceAdd, Int.reduceSub, Int.reduceMul, Int.reduceNeg, Int.reduceMod, Int.reduceDiv, Int.reduceTMod, Int.reduceTDiv, Int.reduceToNat, okChain_i, okLoads_nil, okLoads_in, okLoads_eq]
      rfl
    case e2 => exact he'.app _
    case f2 => exact hfo.ext (Ext.more _ _)
    all_goals first | (simp (maxDischargeDepth := 8) only [q0, q4, q5, q6, RUN, Ed, knd, kndR, resV, binInt, mnmxV, mnmx2, fillL, unV, lenV, extractV, partV, loadAt, Nat.reduceAdd, Nat.reduceBEq, Nat.reduceEqDiff, Nat.reduceLT, Nat.reduceLeDiff, Nat.reduceMul, Nat.reduceSub, reduceIte, Int.reduceEq, Int.reduceNe, Int.reduceLT, Int.reduceLE, Int.reduceAdd, Int.reduceSub, Int.reduceMul, Int.reduceNeg, Int.reduceMod, Int.reduceDiv, Int.reduceTMod, Int.reduceTDiv, Int.reduceToNat, okChain_i, okLoads_nil, okLoads_in, okLoads_eq]; done) | (simp (maxDischargeDepth := 8) only [q0, q4, q5, q6, RUN, Ed, knd, kndR, resV, binInt, mnmxV, mnmx2, fillL, unV, lenV, extractV, partV, loadAt, Nat.reduceAdd, Nat.reduceBEq, Nat.reduceEqDiff, Nat.reduceLT, Nat.reduceLeDiff, Nat.reduceMul, Nat.reduceSub, reduceIte, Int.reduceEq, Int.reduceNe, Int.reduceLT, Int.reduceLE, Int.reduceAdd, Int.reduceSub, Int.reduceMul, Int.reduceNeg, Int.reduceMod, Int.reduceDiv, Int.reduceTMod, Int.reduceTDiv, Int.reduceToNat, okChain_i, okLoads_nil, okLoads_in, okLoads_eq]; rfl)
  · intro hbeg
    obtain ⟨X, eb⟩ := b2 hbeg
    refine ⟨?ρ1, ?G1, ?run1, ⟨?_, ?_, ?_, ?_⟩, ?e1, ?f1⟩
    case run1 =>
      simp (maxDischargeDepth := 8) only [m10, c10_0, c10_1, c10_2, c10_3, c10_4, c10_5, c10_6, c10_7, c10_8, c10_9, c10_10, c10_11, c10_12, c10_13, c10_14, c10_15, c10_16, c10_17, c10_18, q0, q4, q5, q6, l1, hd, es, eb, wp, wk, RUN, Ed, knd, kndR, resV, binInt, mnmxV, mnmx2, fillL, unV, extractV, partV, loadAt, Nat.reduceAdd, Nat.reduceBEq, Nat.reduceEqDiff, Nat.reduceLT, Nat.reduceLeDiff, Nat.reduceMul, Nat.reduceSub, reduceIte, Int.reduceEq, Int.reduceNe, Int.reduceLT, Int.reduceLE, Int.reduceAdd, Int.reduceSub, Int.reduceMul, Int.reduceNeg, Int.reduceMod, Int.reduceDiv, Int.reduceTMod, Int.reduceTDiv, Int.reduceToNat, okChain_i, okLoads_nil, okLoads_in, okLoads_eq]
      rfl
    case e1 => exact hE.app _
    case f1 => exact hm.ext (Ext.more _ _)
    all_goals first | (simp (maxDischargeDepth := 8) only [q0, q4, q5, q6, RUN, Ed, knd, kndR, resV, binInt, mnmxV, mnmx2, fillL, unV, lenV, extractV, partV, loadAt, Nat.reduceAdd, Nat.reduceBEq, Nat.reduceEqDiff, Nat.reduceLT, Nat.reduceLeDiff, Nat.reduceMul, Nat.reduceSub, reduceIte, Int.reduceEq, Int.reduceNe, Int.reduceLT, Int.reduceLE, Int.reduceAdd, Int.reduceSub, Int.reduceMul, Int.reduceNeg, Int.reduceMod, Int.reduceDiv, Int.reduceTMod, Int.reduceTDiv, Int.reduceToNat, okChain_i, okLoads_nil, okLoads_in, okLoads_eq]; done) | (simp (maxDischargeDepth := 8) only [q0, q4, q5, q6, RUN, Ed, knd, kndR, resV, binInt, mnmxV, mnmx2, fillL, unV, lenV, extractV, partV, loadAt, Nat.reduceAdd, Nat.reduceBEq, Nat.reduceEqDiff, Nat.reduceLT, Nat.reduceLeDiff, Nat.reduceMul, Nat.reduceSub, reduceIte, Int.reduceEq, Int.reduceNe, Int.reduceLT, Int.reduceLE, Int.reduceAdd, Int.reduceSub, Int.reduceMul, Int.reduceNeg, Int.reduceMod, Int.reduceDiv, Int.reduceTMod, Int.reduceTDiv, Int.reduceToNat, okChain_i, okLoads_nil, okLoads_in, okLoads_eq]; rfl)
theorem loop10 (H : Heap) (v : Value) (m : List B8) (hl : m.length ≤ 1000) (hB : BS H v (m.map w8)) : ∀ (d k : Nat), k + d = m.length → ∀ (w : Value) (p : Nat) (L : List Fra) (ρ : Fr) (G : Heap), p ≤ k → L.length ≤ k → S10 v w p k ρ → Ext H G → FO H G w L →
    ∃ ρ' G' w', jmp 0 (E Tryd.prog hints (.scope 0 l10_0 l10_0)) (E Tryd.prog hints m10 ρ G) = some (.ret, ρ', G') ∧ ρ' 2 = w' ∧ ρ' 3 = .int .i64 (p + (splitP (m.drop k)).2 : Nat) ∧ Ext H G' ∧ FO H G' w' (L ++ (splitP (m.drop k)).1) := by
  have hm10 : l10_0 = .seq .skip m10 := rfl
  intro d
  induction d using Nat.strongRecOn with
  | _ d ih =>
    intro k hkd w p L ρ G hp hL hs hE hm
    have next : ∀ ρ1 G1, jmp 0 (E Tryd.prog hints (.scope 0 l10_0 l10_0)) (some (.goto 0, ρ1, G1)) = jmp 0 (E Tryd.prog hints (.scope 0 l10_0 l10_0)) (E Tryd.prog hints m10 ρ1 G1) := by
      intro ρ1 G1
      rw [jmp_g, Eg]
      conv => lhs; rw [show E Tryd.prog hints l10_0 ρ1 G1 = E Tryd.prog hints m10 ρ1 G1 by rw [hm10, Es, E_skip, andThen_n]]
    by_cases hk : k < m.length
    · obtain ⟨s1, s2⟩ := step10 H v m (by omega) hB w p k hk (by omega) L (by omega) ρ G hs hE hm
      by_cases hbeg : begC (m.drop k)
      · obtain ⟨ρ1, G1, w1, e1, hs1, hE1, hm1⟩ := s1 hbeg
        have h6 := hbeg.2.2.2.1
        rw [List.length_drop] at h6
        rw [e1, next]
        obtain ⟨ρ2, G2, w2, e2, y2, y3, hE2, hm2⟩ := ih (d - (6 + bodyN (m.drop k))) (by omega) (k + (6 + bodyN (m.drop k))) (by omega) w1 p _ ρ1 G1 (by omega) (by simp; omega) hs1 hE1 hm1
        rw [splitP_beg hbeg, List.drop_drop]
        refine ⟨ρ2, G2, w2, e2, y2, y3, hE2, ?_⟩
        simpa using hm2
      · obtain ⟨ρ1, G1, e1, hs1, hE1, hm1⟩ := s2 hbeg
        rw [e1, next]
        obtain ⟨ρ2, G2, w2, e2, y2, y3, hE2, hm2⟩ := ih (d - 1) (by omega) (k + 1) (by omega) w (p + 1) L ρ1 G1 (by omega) (by omega) hs1 hE1 hm1
        have hne : m.drop k ≠ [] := by
          intro e
          have := congrArg List.length e
          rw [List.length_drop] at this; simp at this; omega
        rw [splitP_not hbeg hne, List.drop_drop]
        refine ⟨ρ2, G2, w2, e2, y2, ?_, hE2, hm2⟩
        rw [y3]; congr 1; simp only; omega
    · have hkl : k = m.length := by omega
      subst hkl
      obtain ⟨q0, q4, q5, q6⟩ := hs
      have l1 := (hB.ext hE).len
      rw [List.length_map] at l1
      have hd : decide ((m.length : Int) = (m.length : Int)) = true := by simp
      rw [List.drop_length, splitP_nil]
      refine ⟨?ρ9, G, w, ?run9, ?_, ?_, hE, by simpa using hm⟩
      case run9 =>
        simp (maxDischargeDepth := 8) only [m10, c10_0, c10_1, c10_2, c10_3, c10_4, c10_5, c10_6, c10_7, c10_8, c10_9, c10_10, c10_11, c10_12, c10_13, c10_14, c10_15, c10_16, c10_17, c10_18, q0, q4, q5, q6, l1, hd, RUN, Ed, knd, kndR, resV, binInt, mnmxV, mnmx2, fillL, unV, extractV, partV, loadAt, Nat.reduceAdd, Nat.reduceBEq, Nat.reduceEqDiff, Nat.reduceLT, Nat.reduceLeDiff, Nat.reduceMul, Nat.reduceSub, reduceIte, Int.reduceEq, Int.reduceNe, Int.reduceLT, Int.reduceLE, Int.reduceAdd, Int.reduceSub, Int.reduceMul, Int.reduceNeg, Int.reduceMod, Int.reduceDiv, Int.reduceTMod, Int.reduceTDiv, Int.reduceToNat, okChain_i, okLoads_nil, okLoads_in, okLoads_eq]
        rfl
      all_goals first | (simp (maxDischargeDepth := 8) only [q0, q4, q5, q6, RUN, Ed, knd, kndR, resV, binInt, mnmxV, mnmx2, fillL, unV, lenV, extractV, partV, loadAt, Nat.reduceAdd, Nat.reduceBEq, Nat.reduceEqDiff, Nat.reduceLT, Nat.reduceLeDiff, Nat.reduceMul, Nat.reduceSub, reduceIte, Int.reduceEq, Int.reduceNe, Int.reduceLT, Int.reduceLE, Int.reduceAdd, Int.reduceSub, Int.reduceMul, Int.reduceNeg, Int.reduceMod, Int.reduceDiv, Int.reduceTMod, Int.reduceTDiv, Int.reduceToNat, okChain_i, okLoads_nil, okLoads_in, okLoads_eq]; done) | (simp (maxDischargeDepth := 8) only [q0, q4, q5, q6, RUN, Ed, knd, kndR, resV, binInt, mnmxV, mnmx2, fillL, unV, lenV, extractV, partV, loadAt, Nat.reduceAdd, Nat.reduceBEq, Nat.reduceEqDiff, Nat.reduceLT, Nat.reduceLeDiff, Nat.reduceMul, Nat.reduceSub, reduceIte, Int.reduceEq, Int.reduceNe, Int.reduceLT, Int.reduceLE, Int.reduceAdd, Int.reduceSub, Int.reduceMul, Int.reduceNeg, Int.reduceMod, Int.reduceDiv, Int.reduceTMod, Int.reduceTDiv, Int.reduceToNat, okChain_i, okLoads_nil, okLoads_in, okLoads_eq]; rfl)
theorem split_f (H : Heap) (v : Value) (m : List B8) (hl : m.length ≤ 1000) (hB : BS H v (m.map w8)) :
    ∃ w F, D Tryd.prog hints 10 [v] H = some (.tuple ⟨[w, .int .i64 ((splitP m).2 : Nat)]⟩, F) ∧ Ext H F ∧ FO H F w (splitP m).1 := by
  have hb : b10 = .seq (.region c10_0) (.scope 0 (.seq (.region c10_1) (.seq (.region c10_2) (.seq (.label 0) m10))) l10_0) := rfl
  have key : ∀ ρ, S10 v (.slice none 0 0) 0 0 ρ → ∃ w F, done [.tmp 2, .tmp 3] (jmp 0 (E Tryd.prog hints (.scope 0 l10_0 l10_0)) (E Tryd.prog hints m10 ρ H)) = some (.tuple ⟨[w, .int .i64 ((splitP m).2 : Nat)]⟩, F) ∧ Ext H F ∧ FO H F w (splitP m).1 := by
    intro ρ hs
    obtain ⟨ρ', G', w', e, y2, y3, hE, hm⟩ := loop10 H v m hl hB m.length 0 (by omega) _ 0 [] ρ H (by omega) (by simp) hs (Ext.refl H) (FO.nil _ _)
    simp only [List.drop_zero, List.nil_append, Nat.zero_add] at y3 hm
    refine ⟨w', G', ?_, hE, hm⟩
    rw [e]
    simp (maxDischargeDepth := 8) only [y2, y3, RUN, Ed, knd, kndR, resV, binInt, mnmxV, mnmx2, fillL, unV, lenV, extractV, partV, loadAt, Nat.reduceAdd, Nat.reduceBEq, Nat.reduceEqDiff, Nat.reduceLT, Nat.reduceLeDiff, Nat.reduceMul, Nat.reduceSub, reduceIte, Int.reduceEq, Int.reduceNe, Int.reduceLT, Int.reduceLE, Int.reduceAdd, Int.reduceSub, Int.reduceMul, Int.reduceNeg, Int.reduceMod, Int.reduceDiv, Int.reduceTMod, Int.reduceTDiv, Int.reduceToNat, okChain_i, okLoads_nil, okLoads_in, okLoads_eq]
  rw [D_eq p10 _ _ (Nat.le_of_ble_eq_true rfl)]
  simp (maxDischargeDepth := 8) only [r10, hb, c10_0, c10_1, c10_2, Eg, RUN, Ed, knd, kndR, resV, binInt, mnmxV, mnmx2, fillL, unV, lenV, extractV, partV, loadAt, Nat.reduceAdd, Nat.reduceBEq, Nat.reduceEqDiff, Nat.reduceLT, Nat.reduceLeDiff, Nat.reduceMul, Nat.reduceSub, reduceIte, Int.reduceEq, Int.reduceNe, Int.reduceLT, Int.reduceLE, Int.reduceAdd, Int.reduceSub, Int.reduceMul, Int.reduceNeg, Int.reduceMod, Int.reduceDiv, Int.reduceTMod, Int.reduceTDiv, Int.reduceToNat, okChain_i, okLoads_nil, okLoads_in, okLoads_eq]
  refine key _ ⟨?_, ?_, ?_, ?_⟩
  all_goals first | (simp (maxDischargeDepth := 8) only [RUN, Ed, knd, kndR, resV, binInt, mnmxV, mnmx2, fillL, unV, lenV, extractV, partV, loadAt, Nat.reduceAdd, Nat.reduceBEq, Nat.reduceEqDiff, Nat.reduceLT, Nat.reduceLeDiff, Nat.reduceMul, Nat.reduceSub, reduceIte, Int.reduceEq, Int.reduceNe, Int.reduceLT, Int.reduceLE, Int.reduceAdd, Int.reduceSub, Int.reduceMul, Int.reduceNeg, Int.reduceMod, Int.reduceDiv, Int.reduceTMod, Int.reduceTDiv, Int.reduceToNat, okChain_i, okLoads_nil, okLoads_in, okLoads_eq]; done) | (simp (maxDischargeDepth := 8) only [RUN, Ed, knd, kndR, resV, binInt, mnmxV, mnmx2, fillL, unV, lenV, extractV, partV, loadAt, Nat.reduceAdd, Nat.reduceBEq, Nat.reduceEqDiff, Nat.reduceLT, Nat.reduceLeDiff, Nat.reduceMul, Nat.reduceSub, reduceIte, Int.reduceEq, Int.reduceNe, Int.reduceLT, Int.reduceLE, Int.reduceAdd, Int.reduceSub, Int.reduceMul, Int.reduceNeg, Int.reduceMod, Int.reduceDiv, Int.reduceTMod, Int.reduceTDiv, Int.reduceToNat, okChain_i, okLoads_nil, okLoads_in, okLoads_eq]; rfl)
end Go.Proofs.YtoknmodbdlfdmaaDoor.Sim
