/- PilotLands over the plain heap. -/
import Derived.Test.YtdmfedmhcegggaaDoorPil3
import Derived.Test.YtdmfedmhcegggaaDoorSim21
namespace Go.Proofs.YtdmfedmhcegggaaDoor.Sim
open Go
set_option linter.unusedSimpArgs false
set_option linter.unusedVariables false
/-- A slice of pairs. -/
def RS (H : Heap) (v : Value) (A : List (Int × Int)) : Prop := (A = [] ∧ ∃ e, v = .slice none 0 e) ∨ ∃ i e ow ty cells, v = .slice (some ⟨i, 0, none⟩) A.length e ∧ live H i = some ⟨ow, ty, cells⟩ ∧ ow = false ∧ ∀ j a, A[j]? = some a → cells[j * 2]? = some (.int .i64 a.1) ∧ cells[j * 2 + 1]? = some (.int .i64 a.2)
theorem RS.len {H : Heap} {v : Value} {A : List (Int × Int)} (h : RS H v A) : lenV false v = some (.int .i64 A.length) := by
  rcases h with ⟨rfl, e, rfl⟩ | ⟨i, e, ow, ty, cells, rfl, _, _⟩ <;> rfl
theorem RS.more {H : Heap} {v : Value} {A : List (Int × Int)} (h : RS H v A) (X : Heap) : RS (H ++ X) v A := by
  rcases h with h | ⟨i, e, ow, ty, cells, h1, h2, h3⟩
  · exact .inl h
  · exact .inr ⟨i, e, ow, ty, cells, h1, live_more0 h2 X, h3⟩
theorem RS.idx {H : Heap} {v : Value} {A : List (Int × Int)} (h : RS H v A) {j : Nat} {a : Int × Int} (ha : A[j]? = some a) : ∃ i, idxSV 2 v (.int .i64 j) = some (.pointer (some ⟨i, j * 2, none⟩)) ∧ ∃ ty cells, live H i = some ⟨false, ty, cells⟩ ∧ cells[j * 2]? = some (.int .i64 a.1) ∧ cells[j * 2 + 1]? = some (.int .i64 a.2) := by
  rcases h with ⟨rfl, e, rfl⟩ | ⟨i, e, ow, ty, cells, rfl, h2, rfl, h3⟩
  · simp at ha
  · have hj : j < A.length := by
      rcases Nat.lt_or_ge j A.length with q | q
      · exact q
      · rw [List.getElem?_eq_none q] at ha; cases ha
    exact ⟨i, by rw [idxS_s _ _ _ _ _ _ _ (by omega) (by omega)]; simp, ty, cells, h2, h3 j a ha⟩
theorem Opn_pairs {H : Heap} {l : List Value} (h : Opn H (.slice (.agg ((.cons (.int .i64) (.cons (.int .i64) .nil))))) l) : ∃ v A, l = [v] ∧ RS H v A := by
  simp only [Opn, OpnL] at h
  obtain ⟨i, x, ty, L, rfl, hl, hc, hm⟩ := h
  obtain ⟨M, rfl, hM⟩ := rows_map (fun a : Int × Int => [Value.int .i64 a.1, Value.int .i64 a.2]) (fun a => True) L (fun c hc' => by
    obtain ⟨a, b, rfl, ⟨x, rfl, _⟩, c', d, rfl, ⟨y, rfl, _⟩, rfl⟩ := hc c hc'
    exact ⟨(x, y), rfl, trivial⟩)
  rw [List.length_map] at hm ⊢
  refine ⟨_, M, rfl, ?_⟩
  unfold argV
  by_cases h0 : M.length = 0
  · rw [if_pos h0]
    exact .inl ⟨List.eq_nil_of_length_eq_zero h0, x, rfl⟩
  · rw [if_neg h0]
    refine .inr ⟨i, 0, false, ty, _, rfl, hm (by omega), rfl, ?_⟩
    clear hM hm hc hl h0
    induction M with
    | nil => intro j a h; simp at h
    | cons b M ih =>
      intro j a h
      cases j with
      | zero => simp at h; subst h; exact ⟨rfl, rfl⟩
      | succ j =>
        simp only [List.getElem?_cons_succ] at h
        have := ih j a h
        rw [List.map_cons, List.flatten_cons]
        rw [show (j + 1) * 2 = (j * 2) + 2 by omega, show j * 2 + 2 + 1 = (j * 2 + 1) + 2 by omega]
        exact this
def r9t : RCode := .seq (.region c9_13) (.seq (.region c9_14) (.seq (.region c9_15) (.seq (.region c9_16) (.seq (.region c9_17) .ret))))
theorem b9t : b9 = .seq (.region c9_0) (.seq (.region c9_1) (.seq (.seq (.region c9_2) (.cond (.tmp 19) (.seq (.region c9_3) .ret) .skip)) (.seq (.seq (.region c9_4) (.cond (.tmp 22) (.seq (.region c9_5) .ret) .skip)) (.seq (.region c9_6) (.seq (.seq (.region c9_7) (.block 0 (.loop l9_0))) r9t))))) := (rfl)
structure S9 (v : Value) (c a s : Int) (p : Nat) (k : Nat) (ρ : Fr) : Prop where
  q0 : ρ 0 = v
  q1 : ρ 1 = .int .i64 c
  q2 : ρ 2 = .int .i64 a
  q3 : ρ 3 = .int .u8 s
  q9 : ρ 9 = .bool true
  q10 : ρ 10 = .pointer (some ⟨p, 0, none⟩)
  q11 : ρ 11 = .int .i64 k
def M9 (H : Heap) (p : Nat) (G : Heap) : Prop := ∃ x : PS, x.ok ∧ x.l = true ∧ G = H.set p (some ⟨true, 58, x.L⟩)
theorem apP_l (x : PS) (c a : Int) (h : x.l = true) : (apP x c a).l = true := by
  unfold apP
  split
  · split
    · exact h
    · split
      · exact h
      · split
        · rfl
        · split
          · exact h
          · exact h
  · exact h
theorem round9 (H : Heap) (v : Value) (A : List (Int × Int)) (hA : RS H v A) (c a s : Int) (p : Nat) (x0 : PS) (hp : live H p = some ⟨true, 58, x0.L⟩) (k : Nat) (e : Int × Int) (ha : A[k]? = some e) (hl : A.length ≤ 40) (ρ : Fr) (G : Heap) (hs : S9 v c a s p k ρ) (hm : M9 H p G) :
    ∃ ρ' G', E Tryd.prog hints l9_0 ρ G = some (.normal, ρ', G') ∧ S9 v c a s p (k + 1) ρ' ∧ M9 H p G' := by
  obtain ⟨q0, q1, q2, q3, q9, q10, q11⟩ := hs
  obtain ⟨x, hx, hxl, rfl⟩ := hm
  obtain ⟨i, e1, ty, cells, e2, e3, e4⟩ := hA.idx ha
  have l1 := hA.len
  have hk : k < A.length := by
    rcases Nat.lt_or_ge k A.length with q | q
    · exact q
    · rw [List.getElem?_eq_none q] at ha; cases ha
  have hlt : (k : Int) < (A.length : Int) := by omega
  have ip := live_lt hp
  have hip : i ≠ p := by
    rintro rfl
    rw [hp] at e2
    cases e2
  have f2 : live (H.set p (some ⟨true, 58, x.L⟩)) i = some ⟨false, ty, cells⟩ := by rw [live_set_ne _ _ _ _ (by omega)]; exact e2
  have fp : live (H.set p (some ⟨true, 58, x.L⟩)) p = some ⟨true, 58, x.L⟩ := live_set_eq _ _ _ ip
  have ea := apply_f p x e.1 e.2 58 _ fp hx
  rw [List.set_set] at ea
  simp only [K] at ea
  have i2 := live_lt f2
  have ipp := live_lt fp
  have fp' : live (H.set p (some ⟨true, 58, (apP x e.1 e.2).L⟩)) p = some ⟨true, 58, [.bool (apP x e.1 e.2).e, .bool (apP x e.1 e.2).s, .bool true, .bool (apP x e.1 e.2).r, .int .i64 (apP x e.1 e.2).n]⟩ := by
    rw [← apP_l x e.1 e.2 hxl]; exact live_set_eq _ _ _ ip
  have w := wrap64 ((k : Int) + 1) (by omega) (by omega)
  have x0' : idxAV 2 1 (.pointer (some ⟨i, k * 2, none⟩)) (.int .i64 0) = some (.pointer (some ⟨i, k * 2, none⟩)) := rfl
  have x1' : idxAV 2 1 (.pointer (some ⟨i, k * 2, none⟩)) (.int .i64 1) = some (.pointer (some ⟨i, k * 2 + 1, none⟩)) := rfl
  obtain ⟨z, hz⟩ : ∃ z : List Value, z = x.L := ⟨_, rfl⟩
  obtain ⟨z', hz'⟩ : ∃ z' : List Value, z' = (apP x e.1 e.2).L := ⟨_, rfl⟩
  have hM : M9 H p (H.set p (some ⟨true, 58, z'⟩)) := ⟨apP x e.1 e.2, apP_ok _ _ _ hx, apP_l _ _ _ hxl, by rw [hz']⟩
  rw [← hz] at f2 fp ea i2 ipp ⊢
  rw [← hz'] at ea fp'
  have ilt : i < H.length := live_lt e2
  refine ⟨?ρ1, ?G1, ?run1, ?inv1, ?inv2⟩
  case run1 =>
    simp (maxDischargeDepth := 8) only [l9_0, c9_8, c9_9, c9_10, c9_11, c9_12, q0, q1, q2, q3, q9, q10, q11, e1, f2, fp, fp', e2, e3, e4, l1, hlt, i2, ip, ipp, ilt, ea, w, x0', x1', List.length_set, Nat.mul_one, Nat.add_zero, okChain_all, RUN, Ed, knd, kndR, resV, binInt, mnmxV, mnmx2, fillL, unV, extractV, partV, loadAt, Nat.reduceAdd, Nat.reduceBEq, Nat.reduceEqDiff, Nat.reduceLT, Nat.reduceLeDiff, Nat.reduceMul, Nat.reduceSub, reduceIte, Int.reduceEq, Int.reduceNe, Int.reduceLT, Int.reduceLE, Int.reduceAdd, Int.reduceSub, Int.reduceMul, Int.reduceNeg, Int.reduceMod, Int.reduceDiv, Int.reduceTMod, Int.reduceTDiv, Int.reduceToNat]
    rfl
  case inv1 => refine ⟨?_, ?_, ?_, ?_, ?_, ?_, ?_⟩ <;> first | (simp (maxDischargeDepth := 8) only [q0, q1, q2, q3, q9, q10, q11, RUN, Ed, knd, kndR, resV, binInt, mnmxV, mnmx2, fillL, unV, lenV, extractV, partV, loadAt, Nat.reduceAdd, Nat.reduceBEq, Nat.reduceEqDiff, Nat.reduceLT, Nat.reduceLeDiff, Nat.reduceMul, Nat.reduceSub, reduceIte, Int.reduceEq, Int.reduceNe, Int.reduceLT, Int.reduceLE, Int.reduceAdd, Int.reduceSub, Int.reduceMul, Int.reduceNeg, Int.reduceMod, Int.reduceDiv, Int.reduceTMod, Int.reduceTDiv, Int.reduceToNat, okChain_i, okLoads_nil, okLoads_in, okLoads_eq]; done) | (simp (maxDischargeDepth := 8) only [q0, q1, q2, q3, q9, q10, q11, RUN, Ed, knd, kndR, resV, binInt, mnmxV, mnmx2, fillL, unV, lenV, extractV, partV, loadAt, Nat.reduceAdd, Nat.reduceBEq, Nat.reduceEqDiff, Nat.reduceLT, Nat.reduceLeDiff, Nat.reduceMul, Nat.reduceSub, reduceIte, Int.reduceEq, Int.reduceNe, Int.reduceLT, Int.reduceLE, Int.reduceAdd, Int.reduceSub, Int.reduceMul, Int.reduceNeg, Int.reduceMod, Int.reduceDiv, Int.reduceTMod, Int.reduceTDiv, Int.reduceToNat, okChain_i, okLoads_nil, okLoads_in, okLoads_eq]; rfl)
  case inv2 => exact hM
theorem EH.setG {on : Nat → Bool} {H : Heap} (h : EH on H) (X : Heap) (k : Nat) (y : Option Blk) (hk : H.length ≤ k) : EH on ((H ++ X).set k y) := fun i hi ho => by
  obtain ⟨ty, e⟩ := h i hi ho
  have := live_lt e
  exact ⟨ty, by rw [live_set_ne _ _ _ _ (by omega)]; exact live_more0 e X⟩
theorem rdP_pb (c a : Int) (h : OkC c a) : rdP 80 (pbP c a) = (c, a, none) := by
  have h' := h
  unfold OkC at h'
  unfold rdP pbP
  rw [if_pos rfl, if_neg (by simp), if_neg (by simp)]
  have e1 : c % 256 = c := by omega
  have e2 : a % 256 = a := by omega
  rw [e1, e2]
  exact if_pos h
theorem tail9 (on : Nat → Bool) (ho : on 0 = true) (h1 : on 1 = true) (h2 : on 2 = true) (v : Value) (c a s : Int) (p k : Nat) (ρ : Fr) (F : Heap) (hs : S9 v c a s p k ρ) (hE : EH on F) : Ok (done [.tmp 8] (E Tryd.prog hints r9t ρ F)) := by
  obtain ⟨q0, q1, q2, q3, q9, q10, q11⟩ := hs
  obtain ⟨q, m1, m2, hq⟩ := mod5 c
  obtain ⟨b, mb, hb0, hb1⟩ := mask a 1 (by decide) (by decide)
  have hq1 : 0 ≤ q ∧ q ≤ 4 := by omega
  have w := wrap64 (q + 1) (by omega) (by omega)
  have hg : OkC (q + 1) b := by unfold OkC; omega
  have e1 := fun G => pputGood_f (q + 1) b s G hg
  have hB : BS (F ++ [some ⟨true, 27, [.int .u8 80, .int .u8 s, .slice (some ⟨F.length + 1, 0, none⟩) 2 1]⟩, some ⟨true, 5, bL (pbP (q + 1) b)⟩, some ⟨true, 27, [.int .u8 80, .int .u8 s, .slice (some ⟨F.length + 1, 0, none⟩) 2 1]⟩]) (.slice (some ⟨F.length + 1, 0, none⟩) 2 1) (pbP (q + 1) b) := BS.blk (e := 1) (l := pbP (q + 1) b) (ow := true) (ty := 5) ((live_app_add _ _ _).trans rfl)
  obtain ⟨X, e2⟩ := readP_f on ho h1 h2 80 s _ _ (by intro z hz; simp [pbP] at hz; rcases hz with rfl | rfl <;> omega) _ (hE.more _) hB
  rw [rdP_pb _ _ hg] at e2
  simp only [EV] at e2
  simp (maxDischargeDepth := 8) only [r9t, c9_13, c9_14, c9_15, c9_16, c9_17, q0, q1, q2, q3, q9, q10, q11, m1, m2, mb, w, e1, e2, same_nn, RUN, Ed, knd, kndR, resV, binInt, mnmxV, mnmx2, fillL, unV, lenV, extractV, partV, loadAt, Nat.reduceAdd, Nat.reduceBEq, Nat.reduceEqDiff, Nat.reduceLT, Nat.reduceLeDiff, Nat.reduceMul, Nat.reduceSub, reduceIte, Int.reduceEq, Int.reduceNe, Int.reduceLT, Int.reduceLE, Int.reduceAdd, Int.reduceSub, Int.reduceMul, Int.reduceNeg, Int.reduceMod, Int.reduceDiv, Int.reduceTMod, Int.reduceTDiv, Int.reduceToNat, okChain_i, okLoads_nil, okLoads_in, okLoads_eq]
  exact Ok.mk _
theorem lands (on : Nat → Bool) (ho : on 0 = true) (h1 : on 1 = true) (h2 : on 2 = true) (v : Value) (A : List (Int × Int)) (c a s : Int) (H : Heap) (h : EH on H) (hA : RS H v A) : Ok (K 9 [v, .int .i64 c, .int .i64 a, .int .u8 s] H) := by
  obtain ⟨X0, e0⟩ := firstP_f H
  obtain ⟨G, hG⟩ : ∃ G, G = H ++ X0 := ⟨_, rfl⟩
  simp only [K] at e0
  rw [← hG] at e0
  have hE : EH on G := by rw [hG]; exact h.more _
  have hA2 : RS G v A := by rw [hG]; exact hA.more _
  have l1 := hA.len
  rw [K, D_eq p9 _ _ (Nat.le_of_ble_eq_true rfl)]
  by_cases h40 : (40 : Int) < (A.length : Int)
  · simp (maxDischargeDepth := 8) only [r9, b9t, c9_0, c9_1, c9_2, c9_3, c9_4, c9_5, e0, l1, h40, RUN, Ed, knd, kndR, resV, binInt, mnmxV, mnmx2, fillL, unV, extractV, partV, loadAt, Nat.reduceAdd, Nat.reduceBEq, Nat.reduceEqDiff, Nat.reduceLT, Nat.reduceLeDiff, Nat.reduceMul, Nat.reduceSub, reduceIte, Int.reduceEq, Int.reduceNe, Int.reduceLT, Int.reduceLE, Int.reduceAdd, Int.reduceSub, Int.reduceMul, Int.reduceNeg, Int.reduceMod, Int.reduceDiv, Int.reduceTMod, Int.reduceTDiv, Int.reduceToNat, okChain_i, okLoads_nil, okLoads_in, okLoads_eq]
    exact Ok.mk _
  · have hl : A.length ≤ 40 := by omega
    simp (maxDischargeDepth := 8) only [r9, b9t, c9_0, c9_1, c9_2, c9_3, c9_4, c9_5, c9_6, c9_7, e0, l1, h40, RUN, Ed, knd, kndR, resV, binInt, mnmxV, mnmx2, fillL, unV, extractV, partV, loadAt, Nat.reduceAdd, Nat.reduceBEq, Nat.reduceEqDiff, Nat.reduceLT, Nat.reduceLeDiff, Nat.reduceMul, Nat.reduceSub, reduceIte, Int.reduceEq, Int.reduceNe, Int.reduceLT, Int.reduceLE, Int.reduceAdd, Int.reduceSub, Int.reduceMul, Int.reduceNeg, Int.reduceMod, Int.reduceDiv, Int.reduceTMod, Int.reduceTDiv, Int.reduceToNat, okChain_i, okLoads_nil, okLoads_in, okLoads_eq]
    have hp : live (G ++ [some ⟨true, 58, (⟨false, false, true, false, 0⟩ : PS).L⟩]) G.length = some ⟨true, 58, (⟨false, false, true, false, 0⟩ : PS).L⟩ := (live_app_len _ _).trans rfl
    refine cut_loop (fun ρ F => S9 v c a s G.length 0 ρ ∧ M9 (G ++ [some ⟨true, 58, (⟨false, false, true, false, 0⟩ : PS).L⟩]) G.length F) (fun ρ F => S9 v c a s G.length A.length ρ ∧ M9 (G ++ [some ⟨true, 58, (⟨false, false, true, false, 0⟩ : PS).L⟩]) G.length F) ⟨⟨?_, ?_, ?_, ?_, ?_, ?_, ?_⟩, ?_⟩ ?_ ?_
    all_goals first | (simp (maxDischargeDepth := 8) only [RUN, Ed, knd, kndR, resV, binInt, mnmxV, mnmx2, fillL, unV, lenV, extractV, partV, loadAt, Nat.reduceAdd, Nat.reduceBEq, Nat.reduceEqDiff, Nat.reduceLT, Nat.reduceLeDiff, Nat.reduceMul, Nat.reduceSub, reduceIte, Int.reduceEq, Int.reduceNe, Int.reduceLT, Int.reduceLE, Int.reduceAdd, Int.reduceSub, Int.reduceMul, Int.reduceNeg, Int.reduceMod, Int.reduceDiv, Int.reduceTMod, Int.reduceTDiv, Int.reduceToNat, okChain_i, okLoads_nil, okLoads_in, okLoads_eq]; done) | (simp (maxDischargeDepth := 8) only [RUN, Ed, knd, kndR, resV, binInt, mnmxV, mnmx2, fillL, unV, lenV, extractV, partV, loadAt, Nat.reduceAdd, Nat.reduceBEq, Nat.reduceEqDiff, Nat.reduceLT, Nat.reduceLeDiff, Nat.reduceMul, Nat.reduceSub, reduceIte, Int.reduceEq, Int.reduceNe, Int.reduceLT, Int.reduceLE, Int.reduceAdd, Int.reduceSub, Int.reduceMul, Int.reduceNeg, Int.reduceMod, Int.reduceDiv, Int.reduceTMod, Int.reduceTDiv, Int.reduceToNat, okChain_i, okLoads_nil, okLoads_in, okLoads_eq]; rfl) | skip
    · refine ⟨⟨false, false, true, false, 0⟩, ⟨by decide, by decide⟩, rfl, ?_⟩
      rw [set_same hp]
      rfl
    · rintro ρ F ⟨hs, hm⟩
      refine loop_inv (fun k ρ F => S9 v c a s G.length k ρ ∧ M9 (G ++ [some ⟨true, 58, (⟨false, false, true, false, 0⟩ : PS).L⟩]) G.length F) _ A.length ?_ ?_ ρ F ⟨hs, hm⟩
      · rintro k ρ F hk ⟨hs, hm⟩
        exact round9 _ v A (hA2.more _) c a s G.length _ hp k A[k] (List.getElem?_eq_getElem hk) hl ρ F hs hm
      · rintro ρ F ⟨⟨q0, q1, q2, q3, q9, q10, q11⟩, hm⟩
        have hlt : ¬ ((A.length : Int) < (A.length : Int)) := by omega
        refine ⟨?ρ2, F, ?run2, ?inv2, hm⟩
        case run2 =>
          simp (maxDischargeDepth := 8) only [l9_0, c9_8, q0, q11, l1, hlt, RUN, Ed, knd, kndR, resV, binInt, mnmxV, mnmx2, fillL, unV, extractV, partV, loadAt, Nat.reduceAdd, Nat.reduceBEq, Nat.reduceEqDiff, Nat.reduceLT, Nat.reduceLeDiff, Nat.reduceMul, Nat.reduceSub, reduceIte, Int.reduceEq, Int.reduceNe, Int.reduceLT, Int.reduceLE, Int.reduceAdd, Int.reduceSub, Int.reduceMul, Int.reduceNeg, Int.reduceMod, Int.reduceDiv, Int.reduceTMod, Int.reduceTDiv, Int.reduceToNat, okChain_i, okLoads_nil, okLoads_in, okLoads_eq]
          rfl
        case inv2 => constructor <;> simp (maxDischargeDepth := 8) only [q0, q1, q2, q3, q9, q10, q11, RUN, Ed, knd, kndR, resV, binInt, mnmxV, mnmx2, fillL, unV, lenV, extractV, partV, loadAt, Nat.reduceAdd, Nat.reduceBEq, Nat.reduceEqDiff, Nat.reduceLT, Nat.reduceLeDiff, Nat.reduceMul, Nat.reduceSub, reduceIte, Int.reduceEq, Int.reduceNe, Int.reduceLT, Int.reduceLE, Int.reduceAdd, Int.reduceSub, Int.reduceMul, Int.reduceNeg, Int.reduceMod, Int.reduceDiv, Int.reduceTMod, Int.reduceTDiv, Int.reduceToNat, okChain_i, okLoads_nil, okLoads_in, okLoads_eq]
    · rintro ρ F ⟨hs, x, _, _, rfl⟩
      exact tail9 on ho h1 h2 v c a s _ _ ρ _ hs (hE.setG _ _ _ (Nat.le_refl _))
def sh9 : List Sh := [.slice (.agg ((.cons (.int .i64) (.cons (.int .i64) .nil)))), .int .i64, .int .i64, .int .u8]
theorem lands_law (H : Heap) (h : EH (fun i => [0, 1, 2].contains i) H) (ls : List (List Value)) (o : OpnAll H sh9 ls) : Ok (K 9 (argsS sh9 ls) H) := by
  obtain ⟨l0, _, rfl, h0, o⟩ := o.uncons
  obtain ⟨l1, _, rfl, h1, o⟩ := o.uncons
  obtain ⟨l2, _, rfl, h2, o⟩ := o.uncons
  obtain ⟨l3, _, rfl, h3, o⟩ := o.uncons
  cases o.unnil
  obtain ⟨v, A, rfl, hA⟩ := Opn_pairs h0
  simp only [Opn.eq_1] at h1 h2 h3
  obtain ⟨c, rfl, _⟩ := h1
  obtain ⟨a, rfl, _⟩ := h2
  obtain ⟨s, rfl, _⟩ := h3
  exact lands _ (by decide) (by decide) (by decide) v A c a s H h hA
end Go.Proofs.YtdmfedmhcegggaaDoor.Sim
