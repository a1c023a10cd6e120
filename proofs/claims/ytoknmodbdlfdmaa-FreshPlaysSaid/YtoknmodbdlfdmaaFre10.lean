/- The document's bank over the plain heap: Put and Tick. -/
import Derived.Test.YtoknmodbdlfdmaaFre9
import Derived.Test.YtoknmodbdlfdmaaSim21
namespace Go.Proofs.Ytoknmodbdlfdmaa.Sim
open Go
set_option linter.unusedSimpArgs false
set_option linter.unusedVariables false
def putC (cs : List Value) (n : Nat) (v q : Int) : List Value := (((cs.set (145 + n) (.bool true)).set (1 + n) (.int .i64 v)).set (49 + n) (.int .u8 q)).set (97 + n) (.int .i64 0)
theorem RC.put {cs : List Value} {s : Int} {f : Int → Option La} (h : RC cs s f) (n : Nat) (hn : n < 48) (h1 : 1 ≤ n) (v q : Int) : RC (putC cs n v q) s (fun d => if d = (n : Int) then some (v, q, 0) else f d) := by
  have hl := h.len
  unfold putC
  refine ⟨by simp only [List.length_set]; exact hl, ?_, fun c hc => ?_, fun c hc => ?_⟩
  · rw [List.getElem?_set_ne (by omega), List.getElem?_set_ne (by omega), List.getElem?_set_ne (by omega), List.getElem?_set_ne (by omega)]; exact h.s0
  · by_cases hcn : c = n
    · subst hcn
      refine ⟨v, q, 0, true, ?_, ?_, ?_, ?_, by omega, by omega, fun _ => by simp⟩
      · rw [List.getElem?_set_ne (by omega), List.getElem?_set_ne (by omega), List.getElem?_set_self (by simp only [List.length_set]; omega)]
      · rw [List.getElem?_set_ne (by omega), List.getElem?_set_self (by simp only [List.length_set]; omega)]
      · rw [List.getElem?_set_self (by simp only [List.length_set]; omega)]
      · rw [List.getElem?_set_ne (by omega), List.getElem?_set_ne (by omega), List.getElem?_set_ne (by omega), List.getElem?_set_self (by omega)]
    · obtain ⟨v', q', a', b', e1, e2, e3, e4, a0, a1, hf⟩ := h.row c hc
      refine ⟨v', q', a', b', ?_, ?_, ?_, ?_, a0, a1, fun hc1 => ?_⟩
      · rw [List.getElem?_set_ne (by omega), List.getElem?_set_ne (by omega), List.getElem?_set_ne (by omega), List.getElem?_set_ne (by omega)]; exact e1
      · rw [List.getElem?_set_ne (by omega), List.getElem?_set_ne (by omega), List.getElem?_set_ne (by omega), List.getElem?_set_ne (by omega)]; exact e2
      · rw [List.getElem?_set_ne (by omega), List.getElem?_set_ne (by omega), List.getElem?_set_ne (by omega), List.getElem?_set_ne (by omega)]; exact e3
      · rw [List.getElem?_set_ne (by omega), List.getElem?_set_ne (by omega), List.getElem?_set_ne (by omega), List.getElem?_set_ne (by omega)]; exact e4
      · rw [if_neg (by omega)]; exact hf hc1
  · rw [if_neg (by intro e; subst e; have := (chan_not _).1 hc; omega)]; exact h.out c hc
theorem putR_f {F : Heap} {p : Nat} {s : Int} {f : Int → Option La} (hb : RB F p s f) (c q v : Int) : ∃ cs', K 15 [.pointer (some ⟨p, 0, none⟩), .int .i64 c, .int .u8 q, .int .i64 v] F = some (.bool (putB f c q), F.set p (some ⟨true, 61, cs'⟩)) ∧ RC cs' s (putF f c q v) := by
  have q15 : K 15 [.pointer (some ⟨p, 0, none⟩), .int .i64 c, .int .u8 q, .int .i64 v] F = done r15.res (E Try.prog hints r15.body (frame0 [.pointer (some ⟨p, 0, none⟩), .int .i64 c, .int .u8 q, .int .i64 v]) F) := D_eq p15 _ _ (Nat.le_of_ble_eq_true rfl)
  obtain ⟨cs, h1, hc⟩ := hb
  have j1 := live_ltG h1
  have hsame := set_same h1
  have n1 := fun a b H => newerR_f a b H
  simp only [K] at q15 n1
  have hno : putB f c q = false → K 15 [.pointer (some ⟨p, 0, none⟩), .int .i64 c, .int .u8 q, .int .i64 v] F = some (.bool false, F) → ∃ cs', K 15 [.pointer (some ⟨p, 0, none⟩), .int .i64 c, .int .u8 q, .int .i64 v] F = some (.bool (putB f c q), F.set p (some ⟨true, 61, cs'⟩)) ∧ RC cs' s (putF f c q v) := by
    intro hb hr
    refine ⟨cs, by rw [hb, hsame]; exact hr, ?_⟩
    unfold putF; rw [if_neg (by rw [hb]; decide)]; exact hc
  by_cases hlo : c < 1
  · refine hno (by unfold putB; rw [(chan_not c).2 (.inl hlo)]; rfl) ?_
    rw [K, q15]
    simp (maxDischargeDepth := 8) only [r15, b15, c15_0, c15_1, c15_2, c15_3, c15_4, c15_5, c15_6, c15_7, hlo, RUN, Ed, knd, kndR, resV, binInt, mnmxV, mnmx2, fillL, unV, lenV, extractV, partV, loadAt, Nat.reduceAdd, Nat.reduceBEq, Nat.reduceEqDiff, Nat.reduceLT, Nat.reduceLeDiff, Nat.reduceMul, Nat.reduceSub, reduceIte, Int.reduceEq, Int.reduceNe, Int.reduceLT, Int.reduceLE, Int.reduceAdd, Int.reduceSub, Int.reduceMul, Int.reduceNeg, Int.reduceMod, Int.reduceDiv, Int.reduceTMod, Int.reduceTDiv, Int.reduceToNat, okChain_i, okLoads_nil, okLoads_in, okLoads_eq]
  · by_cases hhi : 48 ≤ c
    · refine hno (by unfold putB; rw [(chan_not c).2 (.inr hhi)]; rfl) ?_
      rw [K, q15]
      simp (maxDischargeDepth := 8) only [r15, b15, c15_0, c15_1, c15_2, c15_3, c15_4, c15_5, c15_6, c15_7, hlo, hhi, RUN, Ed, knd, kndR, resV, binInt, mnmxV, mnmx2, fillL, unV, lenV, extractV, partV, loadAt, Nat.reduceAdd, Nat.reduceBEq, Nat.reduceEqDiff, Nat.reduceLT, Nat.reduceLeDiff, Nat.reduceMul, Nat.reduceSub, reduceIte, Int.reduceEq, Int.reduceNe, Int.reduceLT, Int.reduceLE, Int.reduceAdd, Int.reduceSub, Int.reduceMul, Int.reduceNeg, Int.reduceMod, Int.reduceDiv, Int.reduceTMod, Int.reduceTDiv, Int.reduceToNat, okChain_i, okLoads_nil, okLoads_in, okLoads_eq]
    · have g0 : 0 ≤ c := by omega
      have g1 : c < 48 := by omega
      have hcn : ((c.toNat : Nat) : Int) = c := by omega
      obtain ⟨v0, q0, a0, b0, e1, e2, e3, e4, _, _, hf⟩ := hc.row c.toNat (by omega)
      rw [hcn] at hf
      have hf := hf (by omega)
      have hch : chan c = true := (chan_iff c).2 ⟨by omega, by omega⟩
      have g1' : c < ((48 : Nat) : Int) := by omega
      have hl := hc.len
      have w1 : 145 + c.toNat < cs.length := by omega
      have w2 : 1 + c.toNat < cs.length := by omega
      have w3 : 49 + c.toNat < cs.length := by omega
      have w4 : 97 + c.toNat < cs.length := by omega
      have hrc := hc.put c.toNat (by omega) (by omega) v q
      rw [hcn] at hrc
      have yes : putB f c q = true → RC (putC cs c.toNat v q) s (putF f c q v) := fun hb => by unfold putF; rw [if_pos hb]; exact hrc
      cases b0
      · have hb : putB f c q = true := by unfold putB; rw [hch, hf]; rfl
        refine ⟨putC cs c.toNat v q, ?_, yes hb⟩
        rw [hb, K, q15]
        simp (maxDischargeDepth := 8) only [r15, b15, c15_0, c15_1, c15_2, c15_3, c15_4, c15_5, c15_6, c15_7, hlo, hhi, h1, j1, g0, g1', Nat.mul_one, e1, e2, e3, e4, w1, w2, w3, w4, RUN, Ed, knd, kndR, resV, binInt, mnmxV, mnmx2, fillL, unV, lenV, extractV, partV, loadAt, Nat.reduceAdd, Nat.reduceBEq, Nat.reduceEqDiff, Nat.reduceLT, Nat.reduceLeDiff, Nat.reduceMul, Nat.reduceSub, reduceIte, Int.reduceEq, Int.reduceNe, Int.reduceLT, Int.reduceLE, Int.reduceAdd, Int.reduceSub, Int.reduceMul, Int.reduceNeg, Int.reduceMod, Int.reduceDiv, Int.reduceTMod, Int.reduceTDiv, Int.reduceToNat, okChain_i, okLoads_nil, okLoads_in, okLoads_eq]
        rfl
      · by_cases hn : newerB q q0 = true
        · have hb : putB f c q = true := by unfold putB; rw [hch, hf]; exact hn
          refine ⟨putC cs c.toNat v q, ?_, yes hb⟩
          rw [hb, K, q15]
          simp (maxDischargeDepth := 8) only [r15, b15, c15_0, c15_1, c15_2, c15_3, c15_4, c15_5, c15_6, c15_7, hlo, hhi, h1, j1, g0, g1', Nat.mul_one, e1, e2, e3, e4, w1, w2, w3, w4, n1, hn, RUN, Ed, knd, kndR, resV, binInt, mnmxV, mnmx2, fillL, unV, lenV, extractV, partV, loadAt, Nat.reduceAdd, Nat.reduceBEq, Nat.reduceEqDiff, Nat.reduceLT, Nat.reduceLeDiff, Nat.reduceMul, Nat.reduceSub, reduceIte, Int.reduceEq, Int.reduceNe, Int.reduceLT, Int.reduceLE, Int.reduceAdd, Int.reduceSub, Int.reduceMul, Int.reduceNeg, Int.reduceMod, Int.reduceDiv, Int.reduceTMod, Int.reduceTDiv, Int.reduceToNat, okChain_i, okLoads_nil, okLoads_in, okLoads_eq]
          rfl
        · have hn' : newerB q q0 = false := by simpa using hn
          refine hno (by unfold putB; rw [hch, hf]; exact hn') ?_
          rw [K, q15]
          simp (maxDischargeDepth := 8) only [r15, b15, c15_0, c15_1, c15_2, c15_3, c15_4, c15_5, c15_6, c15_7, hlo, hhi, h1, j1, g0, g1', Nat.mul_one, e1, e2, e3, e4, n1, hn', RUN, Ed, knd, kndR, resV, binInt, mnmxV, mnmx2, fillL, unV, lenV, extractV, partV, loadAt, Nat.reduceAdd, Nat.reduceBEq, Nat.reduceEqDiff, Nat.reduceLT, Nat.reduceLeDiff, Nat.reduceMul, Nat.reduceSub, reduceIte, Int.reduceEq, Int.reduceNe, Int.reduceLT, Int.reduceLE, Int.reduceAdd, Int.reduceSub, Int.reduceMul, Int.reduceNeg, Int.reduceMod, Int.reduceDiv, Int.reduceTMod, Int.reduceTDiv, Int.reduceToNat, okChain_i, okLoads_nil, okLoads_in, okLoads_eq]
/-- So many ages have gone up. -/
structure TC (cs cs' : List Value) (j : Nat) : Prop where
  len : cs'.length = 193
  old : ∀ k, k < 97 ∨ 145 ≤ k → cs'[k]? = cs[k]?
  age : ∀ d, d < 48 → ∃ a, cs[97 + d]? = some (.int .i64 a) ∧ 0 ≤ a ∧ a ≤ 1000 ∧ cs'[97 + d]? = some (.int .i64 (if d < j then age1 a else a))
theorem RC.tick {cs cs' : List Value} {s : Int} {f : Int → Option La} (h : RC cs s f) (t : TC cs cs' 48) : RC cs' s (tickS f) := by
  refine ⟨t.len, (t.old 0 (.inl (by omega))).trans h.s0, fun c hc => ?_, fun c hc => by unfold tickS; rw [h.out c hc]; rfl⟩
  obtain ⟨v, q, a, b, e1, e2, e3, e4, a0, a1, hf⟩ := h.row c hc
  obtain ⟨a', g1, g2, g3, g4⟩ := t.age c hc
  rw [e3] at g1
  cases g1
  rw [if_pos hc] at g4
  refine ⟨v, q, age1 a, b, (t.old _ (.inl (by omega))).trans e1, (t.old _ (.inl (by omega))).trans e2, g4, (t.old _ (.inr (by omega))).trans e4, ?_, ?_, fun hc1 => ?_⟩
  · unfold age1; split <;> omega
  · unfold age1; split <;> omega
  · unfold tickS; rw [hf hc1]; cases b <;> rfl
theorem tickR_f {F : Heap} {p : Nat} {s : Int} {f : Int → Option La} (hb : RB F p s f) : ∃ cs', K 17 [.pointer (some ⟨p, 0, none⟩)] F = some (.tuple ⟨[]⟩, F.set p (some ⟨true, 61, cs'⟩)) ∧ RC cs' s (tickS f) := by
  have q17 : K 17 [.pointer (some ⟨p, 0, none⟩)] F = done r17.res (E Try.prog hints r17.body (frame0 [.pointer (some ⟨p, 0, none⟩)]) F) := D_eq p17 _ _ (Nat.le_of_ble_eq_true rfl)
  obtain ⟨cs, h1, hc⟩ := hb
  have j1 := live_ltG h1
  have key : ∀ ρ : Fr, ρ 0 = .pointer (some ⟨p, 0, none⟩) → ρ 2 = .int .i64 (0 : Nat) → ∃ ρ' cs', E Try.prog hints (.loop l17_0) ρ F = some (.exit 0, ρ', F.set p (some ⟨true, 61, cs'⟩)) ∧ RC cs' s (tickS f) := by
    intro ρ r0 r2
    obtain ⟨ρ', F', e, hf, cs', rfl, ht⟩ := loop_keep (P := Try.prog) (hs := hints) (b := l17_0) (id := 0) ρ (fun j ρ G => ρ 2 = .int .i64 j ∧ ∃ cs', G = F.set p (some ⟨true, 61, cs'⟩) ∧ TC cs cs' j) (fun _ G => ∃ cs', G = F.set p (some ⟨true, 61, cs'⟩) ∧ TC cs cs' 48) 48
      (by
        rintro j ρ1 G hj hf ⟨z2, cs', rfl, ht⟩
        have z0 := (hf 0 rfl).trans r0
        have hlt : (j : Int) < 48 := by omega
        have hlt' : (j : Int) < ((48 : Nat) : Int) := by omega
        have g0 : 0 ≤ (j : Int) := by omega
        have w := wrap64 ((j : Int) + 1) (by omega) (by omega)
        obtain ⟨a, a1, a2, a3, a4⟩ := ht.age j hj
        rw [if_neg (by omega)] at a4
        have wa := wrap64 (a + 1) (by omega) (by omega)
        have hl := ht.len
        have w4 : 97 + j < cs'.length := by omega
        have hag : (if 1000 < a + 1 then 1000 else a + 1) = age1 a := rfl
        have htn : (j : Int).toNat = j := by omega
        refine ⟨?ρ1, _, ?run1, ?_, cs'.set (97 + j) (.int .i64 (age1 a)), rfl, ?tc⟩
        case run1 =>
          simp (maxDischargeDepth := 8) only [l17_0, c17_0, c17_1, c17_2, c17_3, z0, z2, hlt, hlt', g0, w, wa, htn, a4, w4, hag, h1, j1, Nat.mul_one, okChain_all, RUN, Ed, knd, kndR, resV, binInt, mnmxV, mnmx2, fillL, unV, lenV, extractV, partV, loadAt, Nat.reduceAdd, Nat.reduceBEq, Nat.reduceEqDiff, Nat.reduceLT, Nat.reduceLeDiff, Nat.reduceMul, Nat.reduceSub, reduceIte, Int.reduceEq, Int.reduceNe, Int.reduceLT, Int.reduceLE, Int.reduceAdd, Int.reduceSub, Int.reduceMul, Int.reduceNeg, Int.reduceMod, Int.reduceDiv, Int.reduceTMod, Int.reduceTDiv, Int.reduceToNat]
          rfl
        case tc =>
          refine ⟨by simp only [List.length_set]; exact hl, fun k hk => ?_, fun d hd => ?_⟩
          · rw [List.getElem?_set_ne (by omega)]; exact ht.old k hk
          · obtain ⟨b, b1, b2, b3, b4⟩ := ht.age d hd
            by_cases hdj : d = j
            · subst hdj
              rw [b1] at a1; cases a1
              exact ⟨a, b1, a2, a3, by rw [List.getElem?_set_self w4, if_pos (by omega)]⟩
            · refine ⟨b, b1, b2, b3, ?_⟩
              rw [List.getElem?_set_ne (by omega), b4]
              by_cases hd2 : d < j
              · rw [if_pos hd2, if_pos (by omega)]
              · rw [if_neg hd2, if_neg (by omega)]
        all_goals first | (simp (maxDischargeDepth := 8) only [RUN, Ed, knd, kndR, resV, binInt, mnmxV, mnmx2, fillL, unV, lenV, extractV, partV, loadAt, Nat.reduceAdd, Nat.reduceBEq, Nat.reduceEqDiff, Nat.reduceLT, Nat.reduceLeDiff, Nat.reduceMul, Nat.reduceSub, reduceIte, Int.reduceEq, Int.reduceNe, Int.reduceLT, Int.reduceLE, Int.reduceAdd, Int.reduceSub, Int.reduceMul, Int.reduceNeg, Int.reduceMod, Int.reduceDiv, Int.reduceTMod, Int.reduceTDiv, Int.reduceToNat, okChain_i, okLoads_nil, okLoads_in, okLoads_eq]; done) | (simp (maxDischargeDepth := 8) only [RUN, Ed, knd, kndR, resV, binInt, mnmxV, mnmx2, fillL, unV, lenV, extractV, partV, loadAt, Nat.reduceAdd, Nat.reduceBEq, Nat.reduceEqDiff, Nat.reduceLT, Nat.reduceLeDiff, Nat.reduceMul, Nat.reduceSub, reduceIte, Int.reduceEq, Int.reduceNe, Int.reduceLT, Int.reduceLE, Int.reduceAdd, Int.reduceSub, Int.reduceMul, Int.reduceNeg, Int.reduceMod, Int.reduceDiv, Int.reduceTMod, Int.reduceTDiv, Int.reduceToNat, okChain_i, okLoads_nil, okLoads_in, okLoads_eq]; rfl))
      (by
        rintro ρ1 G hf ⟨z2, cs', rfl, ht⟩
        have z2' : ρ1 2 = .int .i64 48 := z2
        refine ⟨?ρ2, _, ?run2, cs', rfl, ht⟩
        case run2 =>
          simp (maxDischargeDepth := 8) only [l17_0, c17_1, z2', RUN, Ed, knd, kndR, resV, binInt, mnmxV, mnmx2, fillL, unV, lenV, extractV, partV, loadAt, Nat.reduceAdd, Nat.reduceBEq, Nat.reduceEqDiff, Nat.reduceLT, Nat.reduceLeDiff, Nat.reduceMul, Nat.reduceSub, reduceIte, Int.reduceEq, Int.reduceNe, Int.reduceLT, Int.reduceLE, Int.reduceAdd, Int.reduceSub, Int.reduceMul, Int.reduceNeg, Int.reduceMod, Int.reduceDiv, Int.reduceTMod, Int.reduceTDiv, Int.reduceToNat, okChain_i, okLoads_nil, okLoads_in, okLoads_eq]
          rfl)
      F ⟨r2, cs, (set_same h1).symm, ⟨hc.len, fun _ _ => rfl, fun d hd => by
        obtain ⟨v, q, a, b, e1, e2, e3, e4, a0, a1, _⟩ := hc.row d hd
        exact ⟨a, e3, a0, a1, by rw [if_neg (by omega)]; exact e3⟩⟩⟩
    exact ⟨ρ', cs', e, hc.tick ht⟩
  obtain ⟨ρ', cs', e, hrc⟩ := key (upd (frame0 [.pointer (some ⟨p, 0, none⟩)]) 2 (.int .i64 0)) rfl rfl
  refine ⟨cs', ?_, hrc⟩
  simp only [K] at q17 ⊢
  rw [q17]
  simp (maxDischargeDepth := 8) only [r17, b17, c17_0, e, RUN, Ed, knd, kndR, resV, binInt, mnmxV, mnmx2, fillL, unV, lenV, extractV, partV, loadAt, Nat.reduceAdd, Nat.reduceBEq, Nat.reduceEqDiff, Nat.reduceLT, Nat.reduceLeDiff, Nat.reduceMul, Nat.reduceSub, reduceIte, Int.reduceEq, Int.reduceNe, Int.reduceLT, Int.reduceLE, Int.reduceAdd, Int.reduceSub, Int.reduceMul, Int.reduceNeg, Int.reduceMod, Int.reduceDiv, Int.reduceTMod, Int.reduceTDiv, Int.reduceToNat, okChain_i, okLoads_nil, okLoads_in, okLoads_eq]
end Go.Proofs.Ytoknmodbdlfdmaa.Sim
