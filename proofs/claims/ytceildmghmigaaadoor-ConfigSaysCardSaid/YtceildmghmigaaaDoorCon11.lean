/- The document's answer: tables, numbers. -/
import Derived.Test.YtceildmghmigaaaDoorCon10
import Derived.Test.YtceildmghmigaaaDoorSim21
namespace Go.Proofs.YtceildmghmigaaaDoor.Sim
open Go
set_option linter.unusedSimpArgs false
set_option linter.unusedVariables false
theorem loop_first {P : Program} {hs : Nat → Hints} {b : RCode} {id N : Nat} (ok : Nat → Prop) (I : Nat → Fr → Heap → Prop) (J : Fr → Heap → Prop) (R : Nat → Fr → Heap → Prop)
    (hstep : ∀ j ρ G, j < N → I j ρ G → (ok j → ∃ ρ' F, E P hs b ρ G = some (.normal, ρ', F) ∧ I (j + 1) ρ' F) ∧ (¬ ok j → ∃ ρ' F, E P hs b ρ G = some (.ret, ρ', F) ∧ R j ρ' F))
    (hlast : ∀ ρ G, I N ρ G → ∃ ρ' F, E P hs b ρ G = some (.exit id, ρ', F) ∧ J ρ' F) : ∀ (d k : Nat), k + d = N → ∀ (ρ : Fr) (G : Heap), I k ρ G →
    ((∀ j, k ≤ j → j < N → ok j) → ∃ ρ' F, E P hs (.loop b) ρ G = some (.exit id, ρ', F) ∧ J ρ' F) ∧
    (∀ j, k ≤ j → j < N → ¬ ok j → (∀ i, k ≤ i → i < j → ok i) → ∃ ρ' F, E P hs (.loop b) ρ G = some (.ret, ρ', F) ∧ R j ρ' F) := by
  intro d
  induction d with
  | zero =>
    intro k hk ρ G hI
    obtain rfl : k = N := by omega
    obtain ⟨ρ', F, e, h⟩ := hlast ρ G hI
    rw [El, e]
    exact ⟨fun _ => ⟨ρ', F, rfl, h⟩, fun j h1 h2 => by omega⟩
  | succ d ih =>
    intro k hk ρ G hI
    obtain ⟨r1, r2⟩ := hstep k ρ G (by omega) hI
    by_cases hb : ok k
    · obtain ⟨ρ', F, e, h⟩ := r1 hb
      obtain ⟨i1, i2⟩ := ih (k + 1) (by omega) ρ' F h
      rw [El, e, andThen_n]
      refine ⟨fun g => i1 (fun j h1 h2 => g j (by omega) h2), fun j h1 h2 h3 h4 => i2 j ?_ h2 h3 (fun i g1 g2 => h4 i (by omega) g2)⟩
      by_cases e2 : j = k
      · subst e2; exact absurd hb h3
      · omega
    · obtain ⟨ρ', F, e, h⟩ := r2 hb
      rw [El, e, andThen_r]
      refine ⟨fun g => absurd (g k (Nat.le_refl _) (by omega)) hb, fun j h1 h2 h3 h4 => ?_⟩
      by_cases e2 : j = k
      · subst e2; exact ⟨ρ', F, rfl, h⟩
      · exact absurd (h4 k (Nat.le_refl _) (by omega)) hb
theorem bound_f2 (x lo hi : Int) (H : Heap) : D Tryd.prog hints 23 [.int .i64 x, .int .i64 lo, .int .i64 hi] H = some (.bool (decide (lo ≤ x ∧ x ≤ hi)), H) := by
  rw [D_eq p23 _ _ (Nat.le_of_ble_eq_true rfl)]
  by_cases h1 : lo ≤ x
  · have hd : decide (lo ≤ x ∧ x ≤ hi) = decide (x ≤ hi) := decide_eq_decide.2 (by simp [h1])
    rw [hd]
    simp (maxDischargeDepth := 8) only [r23, b23, c23_0, c23_1, h1, RUN, Ed, knd, kndR, resV, binInt, mnmxV, mnmx2, fillL, unV, lenV, extractV, partV, loadAt, Nat.reduceAdd, Nat.reduceBEq, Nat.reduceEqDiff, Nat.reduceLT, Nat.reduceLeDiff, Nat.reduceMul, Nat.reduceSub, reduceIte, Int.reduceEq, Int.reduceNe, Int.reduceLT, Int.reduceLE, Int.reduceAdd, Int.reduceSub, Int.reduceMul, Int.reduceNeg, Int.reduceMod, Int.reduceDiv, Int.reduceTMod, Int.reduceTDiv, Int.reduceToNat, okChain_i, okLoads_nil, okLoads_in, okLoads_eq]
  · have hd : decide (lo ≤ x ∧ x ≤ hi) = false := by rw [decide_eq_false_iff_not]; exact fun h => h1 h.1
    rw [hd]
    simp (maxDischargeDepth := 8) only [r23, b23, c23_0, c23_1, h1, RUN, Ed, knd, kndR, resV, binInt, mnmxV, mnmx2, fillL, unV, lenV, extractV, partV, loadAt, Nat.reduceAdd, Nat.reduceBEq, Nat.reduceEqDiff, Nat.reduceLT, Nat.reduceLeDiff, Nat.reduceMul, Nat.reduceSub, reduceIte, Int.reduceEq, Int.reduceNe, Int.reduceLT, Int.reduceLE, Int.reduceAdd, Int.reduceSub, Int.reduceMul, Int.reduceNeg, Int.reduceMod, Int.reduceDiv, Int.reduceTMod, Int.reduceTDiv, Int.reduceToNat, okChain_i, okLoads_nil, okLoads_in, okLoads_eq]
theorem bare_f (c : Int) (H : Heap) : D Tryd.prog hints 25 [.int .i64 c] H = some (.agg ⟨[.int .i64 c, .bool false, .int .i64 0]⟩, H ++ [some ⟨true, 35, [.int .i64 c, .bool false, .int .i64 0]⟩]) := by
  rw [D_eq p25 _ _ (Nat.le_of_ble_eq_true rfl)]
  simp (maxDischargeDepth := 8) only [r25, b25, c25_0, c25_1, RUN, Ed, knd, kndR, resV, binInt, mnmxV, mnmx2, fillL, unV, lenV, extractV, partV, loadAt, Nat.reduceAdd, Nat.reduceBEq, Nat.reduceEqDiff, Nat.reduceLT, Nat.reduceLeDiff, Nat.reduceMul, Nat.reduceSub, reduceIte, Int.reduceEq, Int.reduceNe, Int.reduceLT, Int.reduceLE, Int.reduceAdd, Int.reduceSub, Int.reduceMul, Int.reduceNeg, Int.reduceMod, Int.reduceDiv, Int.reduceTMod, Int.reduceTDiv, Int.reduceToNat, okChain_i, okLoads_nil, okLoads_in, okLoads_eq]
theorem refT_f (H : Heap) (v : Value) (l : List Pt) (hl : l.length ≤ 1000) (hv : PS H v l) : ∃ F code pl pos, D Tryd.prog hints 24 [v] H = some (.agg ⟨[.int .i64 code, .bool pl, .int .i64 pos]⟩, F) ∧ Ext H F ∧ (TabB l → code = 0) ∧ (¬ TabB l → ¬ code = 0) := by
  obtain ⟨H1, hH1⟩ : ∃ H1, H1 = H ++ [some ⟨true, 35, [.int .i64 0, .bool false, .int .i64 0]⟩] := ⟨_, rfl⟩
  have x1 : Ext H H1 := ⟨_, hH1⟩
  have k1 : live H1 H.length = some ⟨true, 35, [.int .i64 0, .bool false, .int .i64 0]⟩ := by rw [hH1]; exact (live_app_len _ _).trans rfl
  have i1 := live_ltG k1
  have l1 := hv.len
  have hb := fun c F => bare_f c F
  have hn := fun F => noneF_f F
  have q24 : D Tryd.prog hints 24 [v] H = done r24.res (E Tryd.prog hints r24.body (frame0 [v]) H) := D_eq p24 _ _ (Nat.le_of_ble_eq_true rfl)
  have seto : ∀ (c : Int), Ext H ((H1 ++ ([some ⟨true, 35, [.int .i64 c, .bool false, .int .i64 0]⟩] : Heap)).set H.length (some ⟨true, 35, [.int .i64 c, .bool false, .int .i64 0]⟩)) := fun c => (x1.app _).set (Nat.le_refl _) _
  by_cases c1 : l.length < 2
  · have d1 : (l.length : Int) < 2 := by omega
    refine ⟨_, 103, false, 0, ?_, seto 103, fun h => absurd h.1 (by omega), fun _ => by decide⟩
    rw [q24]
    simp (maxDischargeDepth := 8) only [r24, b24, c24_0, c24_1, c24_2, ← hH1, k1, i1, l1, d1, hb, RUN, Ed, knd, kndR, resV, binInt, mnmxV, mnmx2, fillL, unV, extractV, partV, loadAt, Nat.reduceAdd, Nat.reduceBEq, Nat.reduceEqDiff, Nat.reduceLT, Nat.reduceLeDiff, Nat.reduceMul, Nat.reduceSub, reduceIte, Int.reduceEq, Int.reduceNe, Int.reduceLT, Int.reduceLE, Int.reduceAdd, Int.reduceSub, Int.reduceMul, Int.reduceNeg, Int.reduceMod, Int.reduceDiv, Int.reduceTMod, Int.reduceTDiv, Int.reduceToNat, okChain_i, okLoads_nil, okLoads_in, okLoads_eq]
  have d1 : ¬ (l.length : Int) < 2 := by omega
  by_cases c2 : 64 < l.length
  · have d2 : (64 : Int) < (l.length : Int) := by omega
    refine ⟨_, 102, false, 0, ?_, seto 102, fun h => absurd h.2.1 (by omega), fun _ => by decide⟩
    rw [q24]
    simp (maxDischargeDepth := 8) only [r24, b24, c24_0, c24_1, c24_2, c24_3, c24_4, ← hH1, k1, i1, l1, d1, d2, hb, RUN, Ed, knd, kndR, resV, binInt, mnmxV, mnmx2, fillL, unV, extractV, partV, loadAt, Nat.reduceAdd, Nat.reduceBEq, Nat.reduceEqDiff, Nat.reduceLT, Nat.reduceLeDiff, Nat.reduceMul, Nat.reduceSub, reduceIte, Int.reduceEq, Int.reduceNe, Int.reduceLT, Int.reduceLE, Int.reduceAdd, Int.reduceSub, Int.reduceMul, Int.reduceNeg, Int.reduceMod, Int.reduceDiv, Int.reduceTMod, Int.reduceTDiv, Int.reduceToNat, okChain_i, okLoads_nil, okLoads_in, okLoads_eq]
  have d2 : ¬ (64 : Int) < (l.length : Int) := by omega
  have fin : ∀ ρ, ρ 0 = v → ρ 2 = .pointer (some ⟨H.length, 0, none⟩) → ρ 3 = .int .i64 (0 : Nat) → ∃ F code pl pos, done [.cells 2 3] (andThen (blk 0 (E Tryd.prog hints (.loop l24_0) ρ H1)) (E Tryd.prog hints (.seq (.region c24_12) .ret))) = some (.agg ⟨[.int .i64 code, .bool pl, .int .i64 pos]⟩, F) ∧ Ext H F ∧ (TabB l → code = 0) ∧ (¬ TabB l → ¬ code = 0) := by
    intro ρ q0 q2 q3
    obtain ⟨s1, s2⟩ := loop_first (P := Tryd.prog) (hs := hints) (b := l24_0) (id := 0) (N := l.length) (okP l) (fun j ρ G => G = H1 ∧ ρ 0 = v ∧ ρ 2 = .pointer (some ⟨H.length, 0, none⟩) ∧ ρ 3 = .int .i64 j) (fun ρ G => G = H1 ∧ ρ 2 = .pointer (some ⟨H.length, 0, none⟩)) (fun j ρ F => ∃ code, Ext H F ∧ ρ 2 = .pointer (some ⟨H.length, 0, none⟩) ∧ ¬ code = 0 ∧ live F H.length = some ⟨true, 35, [.int .i64 code, .bool true, .int .i64 j]⟩)
      (by
        rintro j ρ G hj ⟨rfl, r0, r2, r3⟩
        obtain ⟨g1, g2⟩ := step24 H v l (by omega) hv j hj ρ G x1 H.length (Nat.le_refl _) _ rfl k1 r0 r2 r3
        refine ⟨fun h => ?_, fun h => ?_⟩
        · obtain ⟨ρ', e, a0, a2, a3⟩ := g1 h
          exact ⟨ρ', G, e, rfl, a0, a2, a3⟩
        · obtain ⟨ρ', F, code, e, a⟩ := g2 h
          exact ⟨ρ', F, e, code, a⟩)
      (by
        rintro ρ G ⟨rfl, r0, r2, r3⟩
        have hlt : ¬ (l.length : Int) < (l.length : Int) := by omega
        refine ⟨?ρ2, G, ?run2, rfl, ?_⟩
        case run2 =>
          simp (maxDischargeDepth := 8) only [l24_0, c24_6, r0, r3, l1, hlt, RUN, Ed, knd, kndR, resV, binInt, mnmxV, mnmx2, fillL, unV, extractV, partV, loadAt, Nat.reduceAdd, Nat.reduceBEq, Nat.reduceEqDiff, Nat.reduceLT, Nat.reduceLeDiff, Nat.reduceMul, Nat.reduceSub, reduceIte, Int.reduceEq, Int.reduceNe, Int.reduceLT, Int.reduceLE, Int.reduceAdd, Int.reduceSub, Int.reduceMul, Int.reduceNeg, Int.reduceMod, Int.reduceDiv, Int.reduceTMod, Int.reduceTDiv, Int.reduceToNat, okChain_i, okLoads_nil, okLoads_in, okLoads_eq]
          rfl
        simp (maxDischargeDepth := 8) only [r2, RUN, Ed, knd, kndR, resV, binInt, mnmxV, mnmx2, fillL, unV, lenV, extractV, partV, loadAt, Nat.reduceAdd, Nat.reduceBEq, Nat.reduceEqDiff, Nat.reduceLT, Nat.reduceLeDiff, Nat.reduceMul, Nat.reduceSub, reduceIte, Int.reduceEq, Int.reduceNe, Int.reduceLT, Int.reduceLE, Int.reduceAdd, Int.reduceSub, Int.reduceMul, Int.reduceNeg, Int.reduceMod, Int.reduceDiv, Int.reduceTMod, Int.reduceTDiv, Int.reduceToNat, okChain_i, okLoads_nil, okLoads_in, okLoads_eq])
      l.length 0 (by omega) ρ H1 ⟨rfl, q0, q2, q3⟩
    by_cases hall : ∀ j, 0 ≤ j → j < l.length → okP l j
    · obtain ⟨ρ', F, e, rfl, a2⟩ := s1 hall
      rw [e]
      refine ⟨_, 0, false, 0, ?_, seto 0, fun _ => rfl, fun h => absurd ⟨by omega, by omega, hall⟩ h⟩
      simp (maxDischargeDepth := 8) only [c24_12, a2, hn, k1, i1, RUN, Ed, knd, kndR, resV, binInt, mnmxV, mnmx2, fillL, unV, lenV, extractV, partV, loadAt, Nat.reduceAdd, Nat.reduceBEq, Nat.reduceEqDiff, Nat.reduceLT, Nat.reduceLeDiff, Nat.reduceMul, Nat.reduceSub, reduceIte, Int.reduceEq, Int.reduceNe, Int.reduceLT, Int.reduceLE, Int.reduceAdd, Int.reduceSub, Int.reduceMul, Int.reduceNeg, Int.reduceMod, Int.reduceDiv, Int.reduceTMod, Int.reduceTDiv, Int.reduceToNat, okChain_i, okLoads_nil, okLoads_in, okLoads_eq]
    · have hex : ∃ j, j < l.length ∧ ¬ okP l j ∧ ∀ i, i < j → okP l i := by
        have : ∃ j, j < l.length ∧ ¬ okP l j := by
          apply Classical.byContradiction
          intro hno
          apply hall
          intro j _ hj
          apply Classical.byContradiction
          intro hb
          exact hno ⟨j, hj, hb⟩
        obtain ⟨j, hj, hb⟩ := this
        induction j using Nat.strongRecOn with
        | ind j ih =>
          by_cases hs : ∀ i, i < j → okP l i
          · exact ⟨j, hj, hb, hs⟩
          · have : ∃ i, i < j ∧ ¬ okP l i := by
              apply Classical.byContradiction
              intro hno
              apply hs
              intro i hi
              apply Classical.byContradiction
              intro hb
              exact hno ⟨i, hi, hb⟩
            obtain ⟨i, hi, hb'⟩ := this
            exact ih i hi (by omega) hb'
      obtain ⟨j, hj, hb, hs⟩ := hex
      obtain ⟨ρ', F, e, code, hF, a2, hc, kF⟩ := s2 j (Nat.zero_le _) hj hb (fun i _ hi => hs i hi)
      have iF := live_ltG kF
      rw [e]
      refine ⟨F, code, true, j, ?_, hF, fun h => absurd (h.2.2 j (Nat.zero_le _) hj) hb, fun _ => hc⟩
      simp (maxDischargeDepth := 8) only [a2, kF, iF, RUN, Ed, knd, kndR, resV, binInt, mnmxV, mnmx2, fillL, unV, lenV, extractV, partV, loadAt, Nat.reduceAdd, Nat.reduceBEq, Nat.reduceEqDiff, Nat.reduceLT, Nat.reduceLeDiff, Nat.reduceMul, Nat.reduceSub, reduceIte, Int.reduceEq, Int.reduceNe, Int.reduceLT, Int.reduceLE, Int.reduceAdd, Int.reduceSub, Int.reduceMul, Int.reduceNeg, Int.reduceMod, Int.reduceDiv, Int.reduceTMod, Int.reduceTDiv, Int.reduceToNat, okChain_i, okLoads_nil, okLoads_in, okLoads_eq]
  have fin2 : ∀ X, (∃ F code pl pos, X = some (.agg ⟨[.int .i64 code, .bool pl, .int .i64 pos]⟩, F) ∧ Ext H F ∧ (TabB l → code = 0) ∧ (¬ TabB l → ¬ code = 0)) → X = D Tryd.prog hints 24 [v] H → ∃ F code pl pos, D Tryd.prog hints 24 [v] H = some (.agg ⟨[.int .i64 code, .bool pl, .int .i64 pos]⟩, F) ∧ Ext H F ∧ (TabB l → code = 0) ∧ (¬ TabB l → ¬ code = 0) := by
    rintro X h rfl
    exact h
  rw [q24]
  simp (maxDischargeDepth := 8) only [r24, b24, c24_0, c24_1, c24_2, c24_3, c24_4, c24_5, ← hH1, l1, d1, d2, RUN, Ed, knd, kndR, resV, binInt, mnmxV, mnmx2, fillL, unV, extractV, partV, loadAt, Nat.reduceAdd, Nat.reduceBEq, Nat.reduceEqDiff, Nat.reduceLT, Nat.reduceLeDiff, Nat.reduceMul, Nat.reduceSub, reduceIte, Int.reduceEq, Int.reduceNe, Int.reduceLT, Int.reduceLE, Int.reduceAdd, Int.reduceSub, Int.reduceMul, Int.reduceNeg, Int.reduceMod, Int.reduceDiv, Int.reduceTMod, Int.reduceTDiv, Int.reduceToNat, okChain_i, okLoads_nil, okLoads_in, okLoads_eq]
  refine fin _ ?_ ?_ ?_
  all_goals first | (simp (maxDischargeDepth := 8) only [RUN, Ed, knd, kndR, resV, binInt, mnmxV, mnmx2, fillL, unV, lenV, extractV, partV, loadAt, Nat.reduceAdd, Nat.reduceBEq, Nat.reduceEqDiff, Nat.reduceLT, Nat.reduceLeDiff, Nat.reduceMul, Nat.reduceSub, reduceIte, Int.reduceEq, Int.reduceNe, Int.reduceLT, Int.reduceLE, Int.reduceAdd, Int.reduceSub, Int.reduceMul, Int.reduceNeg, Int.reduceMod, Int.reduceDiv, Int.reduceTMod, Int.reduceTDiv, Int.reduceToNat, okChain_i, okLoads_nil, okLoads_in, okLoads_eq]; done) | (simp (maxDischargeDepth := 8) only [RUN, Ed, knd, kndR, resV, binInt, mnmxV, mnmx2, fillL, unV, lenV, extractV, partV, loadAt, Nat.reduceAdd, Nat.reduceBEq, Nat.reduceEqDiff, Nat.reduceLT, Nat.reduceLeDiff, Nat.reduceMul, Nat.reduceSub, reduceIte, Int.reduceEq, Int.reduceNe, Int.reduceLT, Int.reduceLE, Int.reduceAdd, Int.reduceSub, Int.reduceMul, Int.reduceNeg, Int.reduceMod, Int.reduceDiv, Int.reduceTMod, Int.reduceTDiv, Int.reduceToNat, okChain_i, okLoads_nil, okLoads_in, okLoads_eq]; rfl)
end Go.Proofs.YtceildmghmigaaaDoor.Sim
