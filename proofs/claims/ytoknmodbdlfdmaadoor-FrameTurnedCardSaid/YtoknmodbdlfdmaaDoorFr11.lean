/- The laws of chapter 6: what was read, written again. -/
import Derived.Test.YtoknmodbdlfdmaaDoorFr10
import Derived.Test.YtoknmodbdlfdmaaDoorSim21
namespace Go.Proofs.YtoknmodbdlfdmaaDoor.Sim
open Go Go.Proofs.YtoknmodbdlfdmaaDoor.CrcMath
set_option linter.unusedSimpArgs false
set_option linter.unusedVariables false
structure S6 (u v : Value) (i : Nat) (ρ : Fr) : Prop where
  q0 : ρ 0 = u
  q1 : ρ 1 = v
  q5 : ρ 5 = .bool true
  q6 : ρ 6 = .int .i64 i
theorem bytesO (G : Heap) (u : Value) (m : List B8) (hB : BS G u (m.map w8)) (hl : m.length ≤ 1000000) : ∃ w F, D Tryd.prog hints 18 [u] G = some (w, F) ∧ Ext G F ∧ BO G F w m := by
  obtain ⟨X, c, e, hc, hlv⟩ := bytes_f G u (m.map w8) hB (by rw [List.length_map]; omega)
  refine ⟨_, _, e, Ext.more _ _, .inr ⟨c, hc, by rw [List.length_map], hlv, by rw [bL_len, List.length_map]; omega⟩⟩
def w6c : RCode := (.seq (.region c6_10) (.seq (.seq (.region c6_11) (.cond (.tmp 53) (.seq (.region c6_12) .ret) .skip)) (.region c6_13)))
theorem loop6 (H : Heap) (v : Value) (L0 : List Fra) (hA : FS H v L0) (hn : L0.length ≤ 5) :
    ∀ (d i : Nat), i + d = L0.length → ∀ (u : Value) (m : List B8) (ρ : Fr) (G : Heap), S6 u v i ρ → Ext H G → BS G u (m.map w8) → m.length ≤ 300 + i * 38 →
      (∃ ρ' G', E Tryd.prog hints (.loop l6_0) ρ G = some (.ret, ρ', G') ∧ ρ' 4 = .bool true) ∨ ∃ (ρ' : Fr) (G' : Heap) (u' : Value) (m' : List B8), E Tryd.prog hints (.loop l6_0) ρ G = some (.exit 0, ρ', G') ∧ S6 u' v L0.length ρ' ∧ Ext H G' ∧ BS G' u' (m'.map w8) ∧ m'.length ≤ 500 := by
  intro d
  induction d with
  | zero =>
    rintro i hi u m ρ G ⟨q0, q1, q5, q6⟩ hE hB hm
    have hi2 : i = L0.length := by omega
    subst hi2
    have l2 := (hA.ext hE).len
    have hlt : ¬ (L0.length : Int) < (L0.length : Int) := by omega
    right
    refine ⟨?ρ1, G, u, m, ?run1, ⟨?_, ?_, ?_, ?_⟩, hE, hB, by omega⟩
    case run1 =>
      rw [El]
      simp (maxDischargeDepth := 8) only [l6_0, c6_7, q1, q6, l2, hlt, RUN, Ed, knd, kndR, resV, binInt, mnmxV, mnmx2, fillL, unV, extractV, partV, loadAt, Nat.reduceAdd, Nat.reduceBEq, Nat.reduceEqDiff, Nat.reduceLT, Nat.reduceLeDiff, Nat.reduceMul, Nat.reduceSub, reduceIte, Int.reduceEq, Int.reduceNe, Int.reduceLT, Int.reduceLE, Int.reduceAdd, Int.reduceSub, Int.reduceMul, Int.reduceNeg, Int.reduceMod, Int.reduceDiv, Int.reduceTMod, Int.reduceTDiv, Int.reduceToNat, okChain_i, okLoads_nil, okLoads_in, okLoads_eq]
      rfl
    all_goals simp (maxDischargeDepth := 8) only [q0, q1, q5, q6, RUN, Ed, knd, kndR, resV, binInt, mnmxV, mnmx2, fillL, unV, lenV, extractV, partV, loadAt, Nat.reduceAdd, Nat.reduceBEq, Nat.reduceEqDiff, Nat.reduceLT, Nat.reduceLeDiff, Nat.reduceMul, Nat.reduceSub, reduceIte, Int.reduceEq, Int.reduceNe, Int.reduceLT, Int.reduceLE, Int.reduceAdd, Int.reduceSub, Int.reduceMul, Int.reduceNeg, Int.reduceMod, Int.reduceDiv, Int.reduceTMod, Int.reduceTDiv, Int.reduceToNat, okChain_i, okLoads_nil, okLoads_in, okLoads_eq]
  | succ d ih =>
    rintro i hi u m ρ G ⟨q0, q1, q5, q6⟩ hE hB hm
    have hil : i < L0.length := by omega
    have hf : L0[i]? = some L0[i] := List.getElem?_eq_getElem hil
    have hAG := hA.ext hE
    have l2 := hAG.len
    have hlt : (i : Int) < (L0.length : Int) := by omega
    obtain ⟨a, y, x1, x2, ow, ty, cells, x3, x4, x5, x6⟩ := hAG.idx hf
    have ly := x2.BS.len
    rw [List.length_map] at ly
    have i3 := live_ltG x3
    generalize L0[i] = f at *
    by_cases h32' : ¬ f.2.2.length ≤ 32
    · left
      have hlg : (32 : Int) < (f.2.2.length : Int) := by omega
      have e1 : ∃ ρ', E Tryd.prog hints l6_0 ρ G = some (.ret, ρ', G) ∧ ρ' 4 = .bool true := by
        refine ⟨?ρ2, ?run2, ?_⟩
        case run2 =>
          simp (maxDischargeDepth := 8) only [l6_0, c6_7, c6_8, c6_9, q1, q5, q6, l2, hlt, x1, x3, x4, x6, i3, ly, hlg, RUN, Ed, knd, kndR, resV, binInt, mnmxV, mnmx2, fillL, unV, extractV, partV, loadAt, Nat.reduceAdd, Nat.reduceBEq, Nat.reduceEqDiff, Nat.reduceLT, Nat.reduceLeDiff, Nat.reduceMul, Nat.reduceSub, reduceIte, Int.reduceEq, Int.reduceNe, Int.reduceLT, Int.reduceLE, Int.reduceAdd, Int.reduceSub, Int.reduceMul, Int.reduceNeg, Int.reduceMod, Int.reduceDiv, Int.reduceTMod, Int.reduceTDiv, Int.reduceToNat, okChain_i, okLoads_nil, okLoads_in, okLoads_eq]
          rfl
        simp (maxDischargeDepth := 8) only [q5, RUN, Ed, knd, kndR, resV, binInt, mnmxV, mnmx2, fillL, unV, lenV, extractV, partV, loadAt, Nat.reduceAdd, Nat.reduceBEq, Nat.reduceEqDiff, Nat.reduceLT, Nat.reduceLeDiff, Nat.reduceMul, Nat.reduceSub, reduceIte, Int.reduceEq, Int.reduceNe, Int.reduceLT, Int.reduceLE, Int.reduceAdd, Int.reduceSub, Int.reduceMul, Int.reduceNeg, Int.reduceMod, Int.reduceDiv, Int.reduceTMod, Int.reduceTDiv, Int.reduceToNat, okChain_i, okLoads_nil, okLoads_in, okLoads_eq]
      obtain ⟨ρ', e1, h4⟩ := e1
      exact ⟨ρ', G, by rw [El, e1, andThen_r], h4⟩
    have h32 := Decidable.not_not.1 h32'
    have hlg : ¬ (32 : Int) < (f.2.2.length : Int) := by omega
    have wi := wrap64 ((i : Int) + 1) (by omega) (by omega)
    obtain ⟨w3, F3, e3, y3, m3⟩ := frame_f f y h32 G x2.BS
    have hx3 : BS F3 w3 ((frB f).map w8) := by
      have := m3
      rw [show (frB f).length = ((frB f).map w8).length by rw [List.length_map]] at this
      exact this.BS
    obtain ⟨w4, F4, e4, y4, b4⟩ := bytesO F3 u m (hB.ext y3) (by omega)
    obtain ⟨w5, F5, e5, b5, y5, _⟩ := b4.app y4 (Ext.refl F4) (hx3.ext y4) (by rw [frB_len]; omega)
    simp only [frL] at x5
    have e1 : ∃ ρ', E Tryd.prog hints l6_0 ρ G = some (.normal, ρ', F5) ∧ S6 w5 v (i + 1) ρ' := by
      refine ⟨?ρ3, ?run3, ⟨?_, ?_, ?_, ?_⟩⟩
      case run3 =>
        simp (maxDischargeDepth := 8) only [l6_0, c6_0, c6_1, c6_2, c6_3, c6_4, c6_5, c6_6, c6_7, c6_8, c6_9, c6_10, c6_11, c6_12, c6_13, c6_14, c6_15, c6_16, c6_17, c6_18, c6_19, c6_20, c6_21, c6_22, c6_23, c6_24, c6_25, c6_26, c6_27, q0, q1, q5, q6, l2, hlt, x1, x3, x4, x5, x6, i3, ly, hlg, e3, e4, e5, wi, RUN, Ed, knd, kndR, resV, binInt, mnmxV, mnmx2, fillL, unV, extractV, partV, loadAt, Nat.reduceAdd, Nat.reduceBEq, Nat.reduceEqDiff, Nat.reduceLT, Nat.reduceLeDiff, Nat.reduceMul, Nat.reduceSub, reduceIte, Int.reduceEq, Int.reduceNe, Int.reduceLT, Int.reduceLE, Int.reduceAdd, Int.reduceSub, Int.reduceMul, Int.reduceNeg, Int.reduceMod, Int.reduceDiv, Int.reduceTMod, Int.reduceTDiv, Int.reduceToNat, okChain_i, okLoads_nil, okLoads_in, okLoads_eq]
        rfl
      all_goals first | (simp (maxDischargeDepth := 8) only [q0, q1, q5, q6, RUN, Ed, knd, kndR, resV, binInt, mnmxV, mnmx2, fillL, unV, lenV, extractV, partV, loadAt, Nat.reduceAdd, Nat.reduceBEq, Nat.reduceEqDiff, Nat.reduceLT, Nat.reduceLeDiff, Nat.reduceMul, Nat.reduceSub, reduceIte, Int.reduceEq, Int.reduceNe, Int.reduceLT, Int.reduceLE, Int.reduceAdd, Int.reduceSub, Int.reduceMul, Int.reduceNeg, Int.reduceMod, Int.reduceDiv, Int.reduceTMod, Int.reduceTDiv, Int.reduceToNat, okChain_i, okLoads_nil, okLoads_in, okLoads_eq]; done) | (simp (maxDischargeDepth := 8) only [q0, q1, q5, q6, RUN, Ed, knd, kndR, resV, binInt, mnmxV, mnmx2, fillL, unV, lenV, extractV, partV, loadAt, Nat.reduceAdd, Nat.reduceBEq, Nat.reduceEqDiff, Nat.reduceLT, Nat.reduceLeDiff, Nat.reduceMul, Nat.reduceSub, reduceIte, Int.reduceEq, Int.reduceNe, Int.reduceLT, Int.reduceLE, Int.reduceAdd, Int.reduceSub, Int.reduceMul, Int.reduceNeg, Int.reduceMod, Int.reduceDiv, Int.reduceTMod, Int.reduceTDiv, Int.reduceToNat, okChain_i, okLoads_nil, okLoads_in, okLoads_eq]; rfl)
    obtain ⟨ρ', e1, hs'⟩ := e1
    rw [El, e1, andThen_n]
    exact ih (i + 1) (by omega) w5 _ ρ' F5 hs' ((hE.trans y3).trans y5) b5.BS (by rw [List.length_append, frB_len]; omega)
structure T6 (u v fr out : Value) (sz k : Nat) (ρ : Fr) : Prop where
  q0 : ρ 0 = u
  q5 : ρ 5 = .bool true
  q9 : ρ 9 = fr
  q11 : ρ 11 = .int .i64 sz
  q12 : ρ 12 = out
  q13 : ρ 13 = .int .i64 k
theorem again6 (H : Heap) (u v fr : Value) (M : List Fra) (hM : FS H fr M) (h32 : ∀ f ∈ M, f.2.2.length ≤ 32) (p : Nat) (hsz : p + sizes M ≤ 1000) (ρ : Fr) (G : Heap) (hs : T6 u v fr (.slice none 0 0) p 0 ρ) (hE : Ext H G) :
    ∃ ρ' G' out, E Tryd.prog hints (.loop l6_1) ρ G = some (.exit 2, ρ', G') ∧ T6 u v fr out (p + sizes M) M.length ρ' ∧ Ext H G' ∧ BO H G' out (allB M) := by
  have hlen : M.length ≤ sizes M := by
    clear hM hs h32 hsz
    unfold sizes
    induction M with
    | nil => simp
    | cons f M ih => simp only [List.map_cons, List.sum_cons, List.length_cons]; omega
  have hpre : ∀ k, sizes (M.take k) ≤ sizes M := by
    intro k
    have : sizes M = sizes (M.take k) + sizes (M.drop k) := by
      unfold sizes
      rw [← List.sum_append, ← List.map_append, List.take_append_drop]
    omega
  obtain ⟨ρ', G', e, out, h1, h2, h3⟩ := loop_inv (P := Tryd.prog) (hs := hints) (b := l6_1) (id := 2) (fun k ρ G => ∃ out, T6 u v fr out (p + sizes (M.take k)) k ρ ∧ Ext H G ∧ BO H G out (allB (M.take k))) (fun ρ G => ∃ out, T6 u v fr out (p + sizes M) M.length ρ ∧ Ext H G ∧ BO H G out (allB M)) M.length
    (by
      rintro k ρ G hk ⟨out, ⟨q0, q5, q9, q11, q12, q13⟩, hE, hb⟩
      have hf : M[k]? = some M[k] := List.getElem?_eq_getElem hk
      have hAG := hM.ext hE
      have l2 := hAG.len
      have hlt : (k : Int) < (M.length : Int) := by omega
      obtain ⟨a, y, x1, x2, ow, ty, cells, x3, x4, x5, x6⟩ := hAG.idx hf
      have i3 := live_ltG x3
      have h32f := h32 _ (List.getElem_mem hk)
      have htk := take_getG M k _ hf
      have hpk := hpre k
      have hpk1 := hpre (k + 1)
      rw [htk] at hpk1 ⊢
      generalize M[k] = f at *
      obtain ⟨w3, F3, e3, y3, m3⟩ := frame_f f y h32f G x2.BS
      have hx3 : BS F3 w3 ((frB f).map w8) := by
        have := m3
        rw [show (frB f).length = ((frB f).map w8).length by rw [List.length_map]] at this
        exact this.BS
      have l3 := hx3.len
      rw [List.length_map, frB_len] at l3
      have z3 := y3.live x3
      have i3' := live_ltG z3
      have es := size_f (w8 f.1) (w8 f.2.1) y f.2.2.length (by omega) F3 _ (x2.keep (Kq.ext y3)).BS (by rw [List.length_map])
      have hd : decide (((f.2.2.length + 6 : Nat) : Int) = 6 + ((f.2.2.length : Nat) : Int)) = true := by rw [decide_eq_true_iff]; omega
      have hss : sizes (M.take k ++ [f]) = sizes (M.take k) + (f.2.2.length + 6) := by simp [sizes]
      have hal : (allB (M.take k)).length = sizes (M.take k) := allB_len _
      have w1 : IntKind.i64.wrap (((p + sizes (M.take k) : Nat) : Int) + ((f.2.2.length + 6 : Nat) : Int)) = ((p + sizes (M.take k ++ [f]) : Nat) : Int) := by rw [wrap64 _ (by omega) (by omega)]; omega
      have wk := wrap64 ((k : Int) + 1) (by omega) (by omega)
      have y4 : Ext F3 (F3 ++ [some ⟨true, 24, frL f y⟩]) := Ext.more _ _
      obtain ⟨w5, F5, e5, b5, y5, _⟩ := hb.app hE (y3.trans y4) (hx3.ext y4) (by rw [frB_len]; omega)
      have hab : allB (M.take k ++ [f]) = allB (M.take k) ++ frB f := by simp [allB]
      rw [hab]
      simp only [frL] at x5 e5
      refine ⟨?ρ1, F5, ?run1, w5, ⟨?_, ?_, ?_, ?_, ?_, ?_⟩, y5, b5⟩
      case run1 =>
        simp (maxDischargeDepth := 8) only [l6_1, c6_0, c6_1, c6_2, c6_3, c6_4, c6_5, c6_6, c6_7, c6_8, c6_9, c6_10, c6_11, c6_12, c6_13, c6_14, c6_15, c6_16, c6_17, c6_18, c6_19, c6_20, c6_21, c6_22, c6_23, c6_24, c6_25, c6_26, c6_27, q0, q5, q9, q11, q12, q13, l2, hlt, x1, x3, x4, x5, i3, z3, i3', e3, es, e5, l3, hd, w1, wk, RUN, Ed, knd, kndR, resV, binInt, mnmxV, mnmx2, fillL, unV, extractV, partV, loadAt, Nat.reduceAdd, Nat.reduceBEq, Nat.reduceEqDiff, Nat.reduceLT, Nat.reduceLeDiff, Nat.reduceMul, Nat.reduceSub, reduceIte, Int.reduceEq, Int.reduceNe, Int.reduceLT, Int.reduceLE, Int.reduceAdd, Int.reduceSub, Int.reduceMul, Int.reduceNeg, Int.reduceMod, Int.reduceDiv, Int.reduceTMod, Int.reduceTDiv, Int.reduceToNat, okChain_i, okLoads_nil, okLoads_in, okLoads_eq]
        rfl
      all_goals first | (simp (maxDischargeDepth := 8) only [q0, q5, q9, q11, q12, q13, RUN, Ed, knd, kndR, resV, binInt, mnmxV, mnmx2, fillL, unV, lenV, extractV, partV, loadAt, Nat.reduceAdd, Nat.reduceBEq, Nat.reduceEqDiff, Nat.reduceLT, Nat.reduceLeDiff, Nat.reduceMul, Nat.reduceSub, reduceIte, Int.reduceEq, Int.reduceNe, Int.reduceLT, Int.reduceLE, Int.reduceAdd, Int.reduceSub, Int.reduceMul, Int.reduceNeg, Int.reduceMod, Int.reduceDiv, Int.reduceTMod, Int.reduceTDiv, Int.reduceToNat, okChain_i, okLoads_nil, okLoads_in, okLoads_eq]; done) | (simp (maxDischargeDepth := 8) only [q0, q5, q9, q11, q12, q13, RUN, Ed, knd, kndR, resV, binInt, mnmxV, mnmx2, fillL, unV, lenV, extractV, partV, loadAt, Nat.reduceAdd, Nat.reduceBEq, Nat.reduceEqDiff, Nat.reduceLT, Nat.reduceLeDiff, Nat.reduceMul, Nat.reduceSub, reduceIte, Int.reduceEq, Int.reduceNe, Int.reduceLT, Int.reduceLE, Int.reduceAdd, Int.reduceSub, Int.reduceMul, Int.reduceNeg, Int.reduceMod, Int.reduceDiv, Int.reduceTMod, Int.reduceTDiv, Int.reduceToNat, okChain_i, okLoads_nil, okLoads_in, okLoads_eq]; rfl))
    (by
      rintro ρ G ⟨out, ⟨q0, q5, q9, q11, q12, q13⟩, hE, hb⟩
      rw [List.take_length] at q11 hb
      have l2 := (hM.ext hE).len
      have hlt : ¬ (M.length : Int) < (M.length : Int) := by omega
      refine ⟨?ρ2, G, ?run2, out, ⟨?_, ?_, ?_, ?_, ?_, ?_⟩, hE, hb⟩
      case run2 =>
        simp (maxDischargeDepth := 8) only [l6_1, c6_19, q9, q13, l2, hlt, RUN, Ed, knd, kndR, resV, binInt, mnmxV, mnmx2, fillL, unV, extractV, partV, loadAt, Nat.reduceAdd, Nat.reduceBEq, Nat.reduceEqDiff, Nat.reduceLT, Nat.reduceLeDiff, Nat.reduceMul, Nat.reduceSub, reduceIte, Int.reduceEq, Int.reduceNe, Int.reduceLT, Int.reduceLE, Int.reduceAdd, Int.reduceSub, Int.reduceMul, Int.reduceNeg, Int.reduceMod, Int.reduceDiv, Int.reduceTMod, Int.reduceTDiv, Int.reduceToNat, okChain_i, okLoads_nil, okLoads_in, okLoads_eq]
        rfl
      all_goals simp (maxDischargeDepth := 8) only [q0, q5, q9, q11, q12, q13, RUN, Ed, knd, kndR, resV, binInt, mnmxV, mnmx2, fillL, unV, lenV, extractV, partV, loadAt, Nat.reduceAdd, Nat.reduceBEq, Nat.reduceEqDiff, Nat.reduceLT, Nat.reduceLeDiff, Nat.reduceMul, Nat.reduceSub, reduceIte, Int.reduceEq, Int.reduceNe, Int.reduceLT, Int.reduceLE, Int.reduceAdd, Int.reduceSub, Int.reduceMul, Int.reduceNeg, Int.reduceMod, Int.reduceDiv, Int.reduceTMod, Int.reduceTDiv, Int.reduceToNat, okChain_i, okLoads_nil, okLoads_in, okLoads_eq])
    ρ G ⟨_, by simpa [sizes] using hs, hE, BO.nil _ _⟩
  exact ⟨ρ', G', out, e, h1, h2, h3⟩
def v6 : RCode := (.seq (.region c6_26) (.seq (.region c6_27) .ret))
def t6 : RCode := (.seq (.region c6_15) (.seq (.region c6_16) (.seq (.region c6_17) (.seq (.seq (.region c6_18) (.block 2 (.loop l6_1))) v6))))
theorem b6t : b6 = (.seq (.region c6_0) (.seq (.region c6_1) (.seq (.seq (.region c6_2) (.cond (.tmp 20) (.seq (.region c6_3) .ret) .skip)) (.seq (.seq (.region c6_4) (.cond (.tmp 28) (.seq (.region c6_5) .ret) .skip)) (.seq (.seq (.region c6_6) (.block 0 (.loop l6_0))) t6))))) := (rfl)
theorem tail6 (u v : Value) (m : List B8) (n : Nat) (G : Heap) (hB : BS G u (m.map w8)) (hl : m.length ≤ 500) (ρ : Fr) (hs : S6 u v n ρ) : Ok (done [.tmp 4] (E Tryd.prog hints t6 ρ G)) := by
  obtain ⟨q0, q1, q5, q6⟩ := hs
  obtain ⟨fr, F, e1, y1, m1⟩ := split_f G u m (by omega) hB
  obtain ⟨a1, a2, a3⟩ := splitP_all m
  have hFS := m1.FS
  have hBF := hB.ext y1
  have key : ∀ ρ1, T6 u v fr (.slice none 0 0) (splitP m).2 0 ρ1 → Ok (done [.tmp 4] (andThen (blk 2 (E Tryd.prog hints (.loop l6_1) ρ1 F)) (E Tryd.prog hints v6))) := by
    intro ρ1 hs1
    obtain ⟨ρ2, G2, out, e2, ⟨z0, z5, z9, z11, z12, z13⟩, hE2, hb2⟩ := again6 F u v fr (splitP m).1 hFS a2 (splitP m).2 (by omega) ρ1 F hs1 (Ext.refl F)
    have hal := allB_len (splitP m).1
    obtain ⟨x, F3, e3, y3, m3⟩ := split_f G2 out _ (by omega) hb2.BS
    rw [splitP_allB _ a2] at e3 m3
    obtain ⟨X4, e4⟩ := sameFrames_f F3 x fr _ _ m3.FS (hFS.ext (hE2.trans y3)) (fun g hg => by have := a2 g hg; omega) (by simp only; omega)
    rw [decide_eq_true rfl] at e4
    have l0 := (hBF.ext (hE2.trans y3)).len
    rw [List.length_map] at l0
    have hd : decide ((((splitP m).2 + sizes (splitP m).1 : Nat) : Int) = (m.length : Int)) = true := by rw [decide_eq_true_iff]; omega
    have e3' : D Tryd.prog hints 10 [out] G2 = some (.tuple ⟨[x, .int .i64 0]⟩, F3) := e3
    rw [e2]
    simp (maxDischargeDepth := 8) only [v6, c6_26, c6_27, z0, z5, z9, z11, z12, e3', e4, l0, hd, RUN, Ed, knd, kndR, resV, binInt, mnmxV, mnmx2, fillL, unV, extractV, partV, loadAt, Nat.reduceAdd, Nat.reduceBEq, Nat.reduceEqDiff, Nat.reduceLT, Nat.reduceLeDiff, Nat.reduceMul, Nat.reduceSub, reduceIte, Int.reduceEq, Int.reduceNe, Int.reduceLT, Int.reduceLE, Int.reduceAdd, Int.reduceSub, Int.reduceMul, Int.reduceNeg, Int.reduceMod, Int.reduceDiv, Int.reduceTMod, Int.reduceTDiv, Int.reduceToNat, okChain_i, okLoads_nil, okLoads_in, okLoads_eq]
    exact Ok.mk _
  simp (maxDischargeDepth := 8) only [t6, c6_15, c6_16, c6_17, c6_18, q0, q5, e1, RUN, Ed, knd, kndR, resV, binInt, mnmxV, mnmx2, fillL, unV, lenV, extractV, partV, loadAt, Nat.reduceAdd, Nat.reduceBEq, Nat.reduceEqDiff, Nat.reduceLT, Nat.reduceLeDiff, Nat.reduceMul, Nat.reduceSub, reduceIte, Int.reduceEq, Int.reduceNe, Int.reduceLT, Int.reduceLE, Int.reduceAdd, Int.reduceSub, Int.reduceMul, Int.reduceNeg, Int.reduceMod, Int.reduceDiv, Int.reduceTMod, Int.reduceTDiv, Int.reduceToNat, okChain_i, okLoads_nil, okLoads_in, okLoads_eq]
  refine key _ ⟨?_, ?_, ?_, ?_, ?_, ?_⟩
  all_goals first | (simp (maxDischargeDepth := 8) only [q0, q5, RUN, Ed, knd, kndR, resV, binInt, mnmxV, mnmx2, fillL, unV, lenV, extractV, partV, loadAt, Nat.reduceAdd, Nat.reduceBEq, Nat.reduceEqDiff, Nat.reduceLT, Nat.reduceLeDiff, Nat.reduceMul, Nat.reduceSub, reduceIte, Int.reduceEq, Int.reduceNe, Int.reduceLT, Int.reduceLE, Int.reduceAdd, Int.reduceSub, Int.reduceMul, Int.reduceNeg, Int.reduceMod, Int.reduceDiv, Int.reduceTMod, Int.reduceTDiv, Int.reduceToNat, okChain_i, okLoads_nil, okLoads_in, okLoads_eq]; done) | (simp (maxDischargeDepth := 8) only [q0, q5, RUN, Ed, knd, kndR, resV, binInt, mnmxV, mnmx2, fillL, unV, lenV, extractV, partV, loadAt, Nat.reduceAdd, Nat.reduceBEq, Nat.reduceEqDiff, Nat.reduceLT, Nat.reduceLeDiff, Nat.reduceMul, Nat.reduceSub, reduceIte, Int.reduceEq, Int.reduceNe, Int.reduceLT, Int.reduceLE, Int.reduceAdd, Int.reduceSub, Int.reduceMul, Int.reduceNeg, Int.reduceMod, Int.reduceDiv, Int.reduceTMod, Int.reduceTDiv, Int.reduceToNat, okChain_i, okLoads_nil, okLoads_in, okLoads_eq]; rfl)
theorem twice (u v : Value) (m : List B8) (L0 : List Fra) (H : Heap) (hB : BS H u (m.map w8)) (hA : FS H v L0) : Ok (D Tryd.prog hints 6 [u, v] H) := by
  obtain ⟨F0, e0, x0⟩ := first_f H
  have hA0 := hA.ext x0
  have hB0 := hB.ext x0
  have l2 := hA0.len
  have l1 := hB0.len
  rw [List.length_map] at l1
  rw [D_eq p6 _ _ (Nat.le_of_ble_eq_true rfl)]
  by_cases h1 : (300 : Int) < (m.length : Int)
  · simp (maxDischargeDepth := 8) only [r6, b6, c6_0, c6_1, c6_2, c6_3, c6_4, c6_5, c6_6, c6_7, c6_8, c6_9, c6_10, c6_11, c6_12, c6_13, c6_14, c6_15, c6_16, c6_17, c6_18, c6_19, c6_20, c6_21, c6_22, c6_23, c6_24, c6_25, c6_26, c6_27, e0, l1, l2, h1, RUN, Ed, knd, kndR, resV, binInt, mnmxV, mnmx2, fillL, unV, extractV, partV, loadAt, Nat.reduceAdd, Nat.reduceBEq, Nat.reduceEqDiff, Nat.reduceLT, Nat.reduceLeDiff, Nat.reduceMul, Nat.reduceSub, reduceIte, Int.reduceEq, Int.reduceNe, Int.reduceLT, Int.reduceLE, Int.reduceAdd, Int.reduceSub, Int.reduceMul, Int.reduceNeg, Int.reduceMod, Int.reduceDiv, Int.reduceTMod, Int.reduceTDiv, Int.reduceToNat, okChain_i, okLoads_nil, okLoads_in, okLoads_eq]
    exact Ok.mk _
  by_cases h2 : (5 : Int) < (L0.length : Int)
  · simp (maxDischargeDepth := 8) only [r6, b6, c6_0, c6_1, c6_2, c6_3, c6_4, c6_5, c6_6, c6_7, c6_8, c6_9, c6_10, c6_11, c6_12, c6_13, c6_14, c6_15, c6_16, c6_17, c6_18, c6_19, c6_20, c6_21, c6_22, c6_23, c6_24, c6_25, c6_26, c6_27, e0, l1, l2, h1, h2, RUN, Ed, knd, kndR, resV, binInt, mnmxV, mnmx2, fillL, unV, extractV, partV, loadAt, Nat.reduceAdd, Nat.reduceBEq, Nat.reduceEqDiff, Nat.reduceLT, Nat.reduceLeDiff, Nat.reduceMul, Nat.reduceSub, reduceIte, Int.reduceEq, Int.reduceNe, Int.reduceLT, Int.reduceLE, Int.reduceAdd, Int.reduceSub, Int.reduceMul, Int.reduceNeg, Int.reduceMod, Int.reduceDiv, Int.reduceTMod, Int.reduceTDiv, Int.reduceToNat, okChain_i, okLoads_nil, okLoads_in, okLoads_eq]
    exact Ok.mk _
  have fin : ∀ ρ, S6 u v 0 ρ → Ok (done [.tmp 4] (andThen (blk 0 (E Tryd.prog hints (.loop l6_0) ρ F0)) (E Tryd.prog hints t6))) := by
    intro ρ hs
    rcases loop6 F0 v L0 hA0 (by omega) L0.length 0 (by omega) u m ρ F0 hs (Ext.refl _) hB0 (by omega) with ⟨ρ', G', e, h4⟩ | ⟨ρ', G', u', m', e, hs', hE, hb, hm⟩
    · rw [e]
      simp (maxDischargeDepth := 8) only [h4, RUN, Ed, knd, kndR, resV, binInt, mnmxV, mnmx2, fillL, unV, lenV, extractV, partV, loadAt, Nat.reduceAdd, Nat.reduceBEq, Nat.reduceEqDiff, Nat.reduceLT, Nat.reduceLeDiff, Nat.reduceMul, Nat.reduceSub, reduceIte, Int.reduceEq, Int.reduceNe, Int.reduceLT, Int.reduceLE, Int.reduceAdd, Int.reduceSub, Int.reduceMul, Int.reduceNeg, Int.reduceMod, Int.reduceDiv, Int.reduceTMod, Int.reduceTDiv, Int.reduceToNat, okChain_i, okLoads_nil, okLoads_in, okLoads_eq]
      exact Ok.mk _
    · rw [e, blk_x, if_pos rfl, andThen_n]
      exact tail6 u' v m' _ G' hb hm ρ' hs'
  simp (maxDischargeDepth := 8) only [r6, b6t, c6_0, c6_1, c6_2, c6_3, c6_4, c6_5, c6_6, e0, l1, l2, h1, h2, RUN, Ed, knd, kndR, resV, binInt, mnmxV, mnmx2, fillL, unV, extractV, partV, loadAt, Nat.reduceAdd, Nat.reduceBEq, Nat.reduceEqDiff, Nat.reduceLT, Nat.reduceLeDiff, Nat.reduceMul, Nat.reduceSub, reduceIte, Int.reduceEq, Int.reduceNe, Int.reduceLT, Int.reduceLE, Int.reduceAdd, Int.reduceSub, Int.reduceMul, Int.reduceNeg, Int.reduceMod, Int.reduceDiv, Int.reduceTMod, Int.reduceTDiv, Int.reduceToNat, okChain_i, okLoads_nil, okLoads_in, okLoads_eq]
  refine fin _ ⟨?_, ?_, ?_, ?_⟩
  all_goals first | (simp (maxDischargeDepth := 8) only [RUN, Ed, knd, kndR, resV, binInt, mnmxV, mnmx2, fillL, unV, lenV, extractV, partV, loadAt, Nat.reduceAdd, Nat.reduceBEq, Nat.reduceEqDiff, Nat.reduceLT, Nat.reduceLeDiff, Nat.reduceMul, Nat.reduceSub, reduceIte, Int.reduceEq, Int.reduceNe, Int.reduceLT, Int.reduceLE, Int.reduceAdd, Int.reduceSub, Int.reduceMul, Int.reduceNeg, Int.reduceMod, Int.reduceDiv, Int.reduceTMod, Int.reduceTDiv, Int.reduceToNat, okChain_i, okLoads_nil, okLoads_in, okLoads_eq]; done) | (simp (maxDischargeDepth := 8) only [RUN, Ed, knd, kndR, resV, binInt, mnmxV, mnmx2, fillL, unV, lenV, extractV, partV, loadAt, Nat.reduceAdd, Nat.reduceBEq, Nat.reduceEqDiff, Nat.reduceLT, Nat.reduceLeDiff, Nat.reduceMul, Nat.reduceSub, reduceIte, Int.reduceEq, Int.reduceNe, Int.reduceLT, Int.reduceLE, Int.reduceAdd, Int.reduceSub, Int.reduceMul, Int.reduceNeg, Int.reduceMod, Int.reduceDiv, Int.reduceTMod, Int.reduceTDiv, Int.reduceToNat, okChain_i, okLoads_nil, okLoads_in, okLoads_eq]; rfl)
def sh6 : List Sh := [.slice (.int .u8), .slice (.agg ((.cons (.int .u8) (.cons (.int .u8) (.cons (.slice (.int .u8)) .nil)))))]
theorem twice_law (H : Heap) (h : EH on1 H) (ls : List (List Value)) (o : OpnAll H sh6 ls) : Ok (D Tryd.prog hints 6 (argsS sh6 ls) H) := by
  obtain ⟨l0, _, rfl, h0, o⟩ := o.uncons
  obtain ⟨l1, _, rfl, h1, o⟩ := o.uncons
  cases o.unnil
  obtain ⟨u, m, rfl, hu⟩ := Opn_bytes h0
  obtain ⟨v, L, rfl, hv⟩ := Opn_frames h1
  exact twice u v m L H hu.BS hv
end Go.Proofs.YtoknmodbdlfdmaaDoor.Sim
