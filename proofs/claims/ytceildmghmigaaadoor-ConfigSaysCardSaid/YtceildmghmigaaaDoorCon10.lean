/- Whether a table may be: the program's word and the document's. -/
import Derived.Test.YtceildmghmigaaaDoorCon9
import Derived.Test.YtceildmghmigaaaDoorSim21
namespace Go.Proofs.YtceildmghmigaaaDoor.Sim
open Go
set_option linter.unusedSimpArgs false
set_option linter.unusedVariables false
def AllP (l : List Pt) (k : Nat) : Prop := ∀ j, k ≤ j → j < l.length → okP l j
def TabB (l : List Pt) : Prop := 2 ≤ l.length ∧ l.length ≤ 64 ∧ AllP l 0
theorem AllP_step {l : List Pt} {k : Nat} (h : okP l k) : AllP l k ↔ AllP l (k + 1) := by
  constructor
  · intro g j h1 h2; exact g j (by omega) h2
  · intro g j h1 h2
    by_cases e : j = k
    · rw [e]; exact h
    · exact g j (by omega) h2
theorem loop29G (H : Heap) (hE : EH all7 H) (v : Value) (l : List Pt) (hl : l.length ≤ 64) (hv : PS H v l) : ∀ (d k : Nat), k + d = l.length → ∀ (ρ : Fr) (G : Heap), Ext H G → ρ 0 = v → ρ 15 = v → ρ 16 = .int .i64 l.length → ρ 17 = .int .i64 k →
    (AllP l k → ∃ ρ' F, E Tryd.prog hints (.loop l29_0) ρ G = some (.exit 1, ρ', F) ∧ Ext H F) ∧
    (¬ AllP l k → ∃ ρ' F q, E Tryd.prog hints (.loop l29_0) ρ G = some (.ret, ρ', F) ∧ Ext H F ∧ ρ' 2 = AtV q) := by
  intro d
  induction d with
  | zero =>
    intro k hk ρ G hG q0 q15 q16 q17
    have hlt : ¬ ((k : Int) < (l.length : Int)) := by omega
    refine ⟨fun _ => ⟨?ρ1, G, ?run1, hG⟩, fun h => absurd (fun j h1 h2 => by omega) h⟩
    case run1 =>
      rw [El]
      simp (maxDischargeDepth := 8) only [l29_0, c29_6, q16, q17, hlt, RUN, Ed, knd, kndR, resV, binInt, mnmxV, mnmx2, fillL, unV, lenV, extractV, partV, loadAt, Nat.reduceAdd, Nat.reduceBEq, Nat.reduceEqDiff, Nat.reduceLT, Nat.reduceLeDiff, Nat.reduceMul, Nat.reduceSub, reduceIte, Int.reduceEq, Int.reduceNe, Int.reduceLT, Int.reduceLE, Int.reduceAdd, Int.reduceSub, Int.reduceMul, Int.reduceNeg, Int.reduceMod, Int.reduceDiv, Int.reduceTMod, Int.reduceTDiv, Int.reduceToNat, okChain_i, okLoads_nil, okLoads_in, okLoads_eq]
      rfl
  | succ d ih =>
    intro k hk ρ G hG q0 q15 q16 q17
    obtain ⟨r1, r2⟩ := bad29 H hE v l hl hv k (by omega) ρ G hG q0 q15 q16 q17
    by_cases hb : okP l k
    · obtain ⟨ρ', F, e, hF, s0, s15, s16, s17⟩ := r1 hb
      obtain ⟨i1, i2⟩ := ih (k + 1) (by omega) ρ' F hF s0 s15 s16 s17
      rw [El, e, andThen_n, AllP_step hb]
      exact ⟨i1, i2⟩
    · obtain ⟨ρ', F, q, e, hF, s2⟩ := r2 hb
      rw [El, e, andThen_r]
      exact ⟨fun h => absurd (h k (Nat.le_refl _) (by omega)) hb, fun _ => ⟨ρ', F, q, rfl, hF, s2⟩⟩
/-- An error that is one. -/
def NN (V : Value) : Prop := (∃ i, V = Err i) ∨ ∃ q, V = AtV q
theorem NN.same {V : Value} (h : NN V) (x y : Operand) : sameV .iface x y V .nilIface = some false := by
  rcases h with ⟨i, rfl⟩ | ⟨q, rfl⟩ <;> rfl
theorem tableG_f (H : Heap) (hE : EH all7 H) (v : Value) (l : List Pt) (hl : l.length ≤ 1000) (hv : PS H v l) : ∃ V X, D Tryd.prog hints 29 [v] H = some (V, H ++ X) ∧ (TabB l → V = .nilIface) ∧ (¬ TabB l → NN V) := by
  have l1 := hv.len
  have q29 : D Tryd.prog hints 29 [v] H = done r29.res (E Tryd.prog hints r29.body (frame0 [v]) H) := D_eq p29 _ _ (Nat.le_of_ble_eq_true rfl)
  obtain ⟨t1, r1⟩ := hE 1 (by omega) rfl
  obtain ⟨t2, r2⟩ := hE 2 (by omega) rfl
  have j1 := live_ltG r1
  have j2 := live_ltG r2
  by_cases c1 : l.length < 2
  · have d1 : (l.length : Int) < 2 := by omega
    refine ⟨Err 2, [], ?_, fun h => absurd h.1 (by omega), fun _ => .inl ⟨2, rfl⟩⟩
    rw [q29, List.append_nil]
    simp (maxDischargeDepth := 8) only [r29, b29, c29_0, c29_1, c29_2, l1, d1, r2, j2, g1, RUN, Ed, knd, kndR, resV, binInt, mnmxV, mnmx2, fillL, unV, extractV, partV, loadAt, Nat.reduceAdd, Nat.reduceBEq, Nat.reduceEqDiff, Nat.reduceLT, Nat.reduceLeDiff, Nat.reduceMul, Nat.reduceSub, reduceIte, Int.reduceEq, Int.reduceNe, Int.reduceLT, Int.reduceLE, Int.reduceAdd, Int.reduceSub, Int.reduceMul, Int.reduceNeg, Int.reduceMod, Int.reduceDiv, Int.reduceTMod, Int.reduceTDiv, Int.reduceToNat, okChain_i, okLoads_nil, okLoads_in, okLoads_eq]
  have d1 : ¬ (l.length : Int) < 2 := by omega
  by_cases c2 : 64 < l.length
  · have d2 : (64 : Int) < (l.length : Int) := by omega
    refine ⟨Err 1, [], ?_, fun h => absurd h.2.1 (by omega), fun _ => .inl ⟨1, rfl⟩⟩
    rw [q29, List.append_nil]
    simp (maxDischargeDepth := 8) only [r29, b29, c29_0, c29_1, c29_2, c29_3, c29_4, l1, d1, d2, r1, j1, g2, RUN, Ed, knd, kndR, resV, binInt, mnmxV, mnmx2, fillL, unV, extractV, partV, loadAt, Nat.reduceAdd, Nat.reduceBEq, Nat.reduceEqDiff, Nat.reduceLT, Nat.reduceLeDiff, Nat.reduceMul, Nat.reduceSub, reduceIte, Int.reduceEq, Int.reduceNe, Int.reduceLT, Int.reduceLE, Int.reduceAdd, Int.reduceSub, Int.reduceMul, Int.reduceNeg, Int.reduceMod, Int.reduceDiv, Int.reduceTMod, Int.reduceTDiv, Int.reduceToNat, okChain_i, okLoads_nil, okLoads_in, okLoads_eq]
  have d2 : ¬ (64 : Int) < (l.length : Int) := by omega
  have fin : ∀ ρ, ρ 0 = v → ρ 15 = v → ρ 16 = .int .i64 l.length → ρ 17 = .int .i64 (0 : Nat) → ∃ V X, done [.tmp 2] (andThen (blk 1 (E Tryd.prog hints (.loop l29_0) ρ H)) (E Tryd.prog hints (.seq (.region c29_13) .ret))) = some (V, H ++ X) ∧ (TabB l → V = .nilIface) ∧ (¬ TabB l → NN V) := by
    intro ρ q0 q15 q16 q17
    obtain ⟨s1, s2⟩ := loop29G H hE v l (by omega) hv l.length 0 (by omega) ρ H (Ext.refl H) q0 q15 q16 q17
    by_cases hb : AllP l 0
    · obtain ⟨ρ', F, e, X, rfl⟩ := s1 hb
      rw [e]
      refine ⟨.nilIface, X, ?_, fun _ => rfl, fun h => absurd ⟨by omega, by omega, hb⟩ h⟩
      simp (maxDischargeDepth := 8) only [c29_13, RUN, Ed, knd, kndR, resV, binInt, mnmxV, mnmx2, fillL, unV, lenV, extractV, partV, loadAt, Nat.reduceAdd, Nat.reduceBEq, Nat.reduceEqDiff, Nat.reduceLT, Nat.reduceLeDiff, Nat.reduceMul, Nat.reduceSub, reduceIte, Int.reduceEq, Int.reduceNe, Int.reduceLT, Int.reduceLE, Int.reduceAdd, Int.reduceSub, Int.reduceMul, Int.reduceNeg, Int.reduceMod, Int.reduceDiv, Int.reduceTMod, Int.reduceTDiv, Int.reduceToNat, okChain_i, okLoads_nil, okLoads_in, okLoads_eq]
    · obtain ⟨ρ', F, q, e, ⟨X, rfl⟩, a2⟩ := s2 hb
      rw [e]
      refine ⟨AtV q, X, ?_, fun h => absurd h.2.2 hb, fun _ => .inr ⟨q, rfl⟩⟩
      simp (maxDischargeDepth := 8) only [a2, RUN, Ed, knd, kndR, resV, binInt, mnmxV, mnmx2, fillL, unV, lenV, extractV, partV, loadAt, Nat.reduceAdd, Nat.reduceBEq, Nat.reduceEqDiff, Nat.reduceLT, Nat.reduceLeDiff, Nat.reduceMul, Nat.reduceSub, reduceIte, Int.reduceEq, Int.reduceNe, Int.reduceLT, Int.reduceLE, Int.reduceAdd, Int.reduceSub, Int.reduceMul, Int.reduceNeg, Int.reduceMod, Int.reduceDiv, Int.reduceTMod, Int.reduceTDiv, Int.reduceToNat, okChain_i, okLoads_nil, okLoads_in, okLoads_eq]
  rw [q29]
  simp (maxDischargeDepth := 8) only [r29, b29, c29_0, c29_1, c29_2, c29_3, c29_4, c29_5, l1, d1, d2, RUN, Ed, knd, kndR, resV, binInt, mnmxV, mnmx2, fillL, unV, extractV, partV, loadAt, Nat.reduceAdd, Nat.reduceBEq, Nat.reduceEqDiff, Nat.reduceLT, Nat.reduceLeDiff, Nat.reduceMul, Nat.reduceSub, reduceIte, Int.reduceEq, Int.reduceNe, Int.reduceLT, Int.reduceLE, Int.reduceAdd, Int.reduceSub, Int.reduceMul, Int.reduceNeg, Int.reduceMod, Int.reduceDiv, Int.reduceTMod, Int.reduceTDiv, Int.reduceToNat, okChain_i, okLoads_nil, okLoads_in, okLoads_eq]
  refine fin _ ?_ ?_ ?_ ?_
  all_goals first | (simp (maxDischargeDepth := 8) only [RUN, Ed, knd, kndR, resV, binInt, mnmxV, mnmx2, fillL, unV, lenV, extractV, partV, loadAt, Nat.reduceAdd, Nat.reduceBEq, Nat.reduceEqDiff, Nat.reduceLT, Nat.reduceLeDiff, Nat.reduceMul, Nat.reduceSub, reduceIte, Int.reduceEq, Int.reduceNe, Int.reduceLT, Int.reduceLE, Int.reduceAdd, Int.reduceSub, Int.reduceMul, Int.reduceNeg, Int.reduceMod, Int.reduceDiv, Int.reduceTMod, Int.reduceTDiv, Int.reduceToNat, okChain_i, okLoads_nil, okLoads_in, okLoads_eq]; done) | (simp (maxDischargeDepth := 8) only [RUN, Ed, knd, kndR, resV, binInt, mnmxV, mnmx2, fillL, unV, lenV, extractV, partV, loadAt, Nat.reduceAdd, Nat.reduceBEq, Nat.reduceEqDiff, Nat.reduceLT, Nat.reduceLeDiff, Nat.reduceMul, Nat.reduceSub, reduceIte, Int.reduceEq, Int.reduceNe, Int.reduceLT, Int.reduceLE, Int.reduceAdd, Int.reduceSub, Int.reduceMul, Int.reduceNeg, Int.reduceMod, Int.reduceDiv, Int.reduceTMod, Int.reduceTDiv, Int.reduceToNat, okChain_i, okLoads_nil, okLoads_in, okLoads_eq]; rfl)
theorem step24 (H : Heap) (v : Value) (l : List Pt) (hl : l.length ≤ 64) (hv : PS H v l) (j : Nat) (hj : j < l.length) (ρ : Fr) (G : Heap) (hG : Ext H G) (p : Nat) (hp : H.length ≤ p) (z : List Value) (hz3 : z.length = 3) (kp : live G p = some ⟨true, 35, z⟩) (q0 : ρ 0 = v) (q2 : ρ 2 = .pointer (some ⟨p, 0, none⟩)) (q3 : ρ 3 = .int .i64 j) :
    (okP l j → ∃ ρ', E Tryd.prog hints l24_0 ρ G = some (.normal, ρ', G) ∧ ρ' 0 = v ∧ ρ' 2 = .pointer (some ⟨p, 0, none⟩) ∧ ρ' 3 = .int .i64 (j + 1 : Nat)) ∧
    (¬ okP l j → ∃ ρ' F code, E Tryd.prog hints l24_0 ρ G = some (.ret, ρ', F) ∧ Ext H F ∧ ρ' 2 = .pointer (some ⟨p, 0, none⟩) ∧ ¬ code = 0 ∧ live F p = some ⟨true, 35, [.int .i64 code, .bool true, .int .i64 j]⟩) := by
  obtain ⟨z0, z1, z2, rfl⟩ : ∃ z0 z1 z2, z = [z0, z1, z2] := by
    match z, hz3 with
    | [a, b, c], _ => exact ⟨a, b, c, rfl⟩
  have ip := live_ltG kp
  have hpt := getD_get hj
  obtain ⟨i, x1, ow, ty, cells, x2, x3, x4, x5, x6⟩ := (hv.ext hG).idx hpt
  have i2 := live_ltG x2
  have lv := hv.len
  have hlt : (j : Int) < (l.length : Int) := by omega
  have wj := wrap64 ((j : Int) + 1) (by omega) (by omega)
  have e1 := fun F => placed_f 101 (j : Int) (by decide) F
  have e5 := fun F => placed_f 105 (j : Int) (by decide) F
  have bad : ∀ {ρ' : Fr} (code : Int), ¬ code = 0 → ¬ okP l j → E Tryd.prog hints l24_0 ρ G = some (.ret, ρ', (G ++ ([some ⟨true, 35, [.int .i64 code, .bool true, .int .i64 j]⟩] : Heap)).set p (some ⟨true, 35, [.int .i64 code, .bool true, .int .i64 j]⟩)) → ρ' 2 = .pointer (some ⟨p, 0, none⟩) → (okP l j → ∃ ρ', E Tryd.prog hints l24_0 ρ G = some (.normal, ρ', G) ∧ ρ' 0 = v ∧ ρ' 2 = .pointer (some ⟨p, 0, none⟩) ∧ ρ' 3 = .int .i64 (j + 1 : Nat)) ∧
    (¬ okP l j → ∃ ρ' F code, E Tryd.prog hints l24_0 ρ G = some (.ret, ρ', F) ∧ Ext H F ∧ ρ' 2 = .pointer (some ⟨p, 0, none⟩) ∧ ¬ code = 0 ∧ live F p = some ⟨true, 35, [.int .i64 code, .bool true, .int .i64 j]⟩) :=
    by
      intro ρ' code hc hn h h2
      refine ⟨fun g => absurd g hn, fun _ => ⟨_, _, code, h, (hG.app _).set hp _, h2, hc, ?_⟩⟩
      exact live_set_eq _ _ _ (by rw [List.length_append]; omega)
  by_cases a1 : (l.getD j (0, 0)).1 < -1073741824
  · refine bad (ρ' := ?ρ1) 101 (by decide) (fun h => by have := h.1.1; unfold inP at this; omega) ?run1 ?_
    case run1 =>
      simp (maxDischargeDepth := 8) only [l24_0, c24_0, c24_1, c24_2, c24_3, c24_4, c24_5, c24_6, c24_7, c24_8, c24_9, c24_10, c24_11, c24_12, q0, q2, q3, lv, hlt, x1, x2, x5, x6, i2, a1, e1, kp, ip, set_app, RUN, Ed, knd, kndR, resV, binInt, mnmxV, mnmx2, fillL, unV, extractV, partV, loadAt, Nat.reduceAdd, Nat.reduceBEq, Nat.reduceEqDiff, Nat.reduceLT, Nat.reduceLeDiff, Nat.reduceMul, Nat.reduceSub, reduceIte, Int.reduceEq, Int.reduceNe, Int.reduceLT, Int.reduceLE, Int.reduceAdd, Int.reduceSub, Int.reduceMul, Int.reduceNeg, Int.reduceMod, Int.reduceDiv, Int.reduceTMod, Int.reduceTDiv, Int.reduceToNat, okChain_i, okLoads_nil, okLoads_in, okLoads_eq]
      rfl
    simp (maxDischargeDepth := 8) only [q2, RUN, Ed, knd, kndR, resV, binInt, mnmxV, mnmx2, fillL, unV, lenV, extractV, partV, loadAt, Nat.reduceAdd, Nat.reduceBEq, Nat.reduceEqDiff, Nat.reduceLT, Nat.reduceLeDiff, Nat.reduceMul, Nat.reduceSub, reduceIte, Int.reduceEq, Int.reduceNe, Int.reduceLT, Int.reduceLE, Int.reduceAdd, Int.reduceSub, Int.reduceMul, Int.reduceNeg, Int.reduceMod, Int.reduceDiv, Int.reduceTMod, Int.reduceTDiv, Int.reduceToNat, okChain_i, okLoads_nil, okLoads_in, okLoads_eq]
  by_cases a2 : 1073741824 < (l.getD j (0, 0)).1
  · refine bad (ρ' := ?ρ2) 101 (by decide) (fun h => by have := h.1.1; unfold inP at this; omega) ?run2 ?_
    case run2 =>
      simp (maxDischargeDepth := 8) only [l24_0, c24_0, c24_1, c24_2, c24_3, c24_4, c24_5, c24_6, c24_7, c24_8, c24_9, c24_10, c24_11, c24_12, q0, q2, q3, lv, hlt, x1, x2, x5, x6, i2, a1, a2, e1, kp, ip, RUN, Ed, knd, kndR, resV, binInt, mnmxV, mnmx2, fillL, unV, extractV, partV, loadAt, Nat.reduceAdd, Nat.reduceBEq, Nat.reduceEqDiff, Nat.reduceLT, Nat.reduceLeDiff, Nat.reduceMul, Nat.reduceSub, reduceIte, Int.reduceEq, Int.reduceNe, Int.reduceLT, Int.reduceLE, Int.reduceAdd, Int.reduceSub, Int.reduceMul, Int.reduceNeg, Int.reduceMod, Int.reduceDiv, Int.reduceTMod, Int.reduceTDiv, Int.reduceToNat, okChain_i, okLoads_nil, okLoads_in, okLoads_eq]
      rfl
    simp (maxDischargeDepth := 8) only [q2, RUN, Ed, knd, kndR, resV, binInt, mnmxV, mnmx2, fillL, unV, lenV, extractV, partV, loadAt, Nat.reduceAdd, Nat.reduceBEq, Nat.reduceEqDiff, Nat.reduceLT, Nat.reduceLeDiff, Nat.reduceMul, Nat.reduceSub, reduceIte, Int.reduceEq, Int.reduceNe, Int.reduceLT, Int.reduceLE, Int.reduceAdd, Int.reduceSub, Int.reduceMul, Int.reduceNeg, Int.reduceMod, Int.reduceDiv, Int.reduceTMod, Int.reduceTDiv, Int.reduceToNat, okChain_i, okLoads_nil, okLoads_in, okLoads_eq]
  by_cases a3 : (l.getD j (0, 0)).2 < -1073741824
  · refine bad (ρ' := ?ρ3) 101 (by decide) (fun h => by have := h.1.2; unfold inP at this; omega) ?run3 ?_
    case run3 =>
      simp (maxDischargeDepth := 8) only [l24_0, c24_0, c24_1, c24_2, c24_3, c24_4, c24_5, c24_6, c24_7, c24_8, c24_9, c24_10, c24_11, c24_12, q0, q2, q3, lv, hlt, x1, x2, x5, x6, i2, a1, a2, a3, e1, kp, ip, RUN, Ed, knd, kndR, resV, binInt, mnmxV, mnmx2, fillL, unV, extractV, partV, loadAt, Nat.reduceAdd, Nat.reduceBEq, Nat.reduceEqDiff, Nat.reduceLT, Nat.reduceLeDiff, Nat.reduceMul, Nat.reduceSub, reduceIte, Int.reduceEq, Int.reduceNe, Int.reduceLT, Int.reduceLE, Int.reduceAdd, Int.reduceSub, Int.reduceMul, Int.reduceNeg, Int.reduceMod, Int.reduceDiv, Int.reduceTMod, Int.reduceTDiv, Int.reduceToNat, okChain_i, okLoads_nil, okLoads_in, okLoads_eq]
      rfl
    simp (maxDischargeDepth := 8) only [q2, RUN, Ed, knd, kndR, resV, binInt, mnmxV, mnmx2, fillL, unV, lenV, extractV, partV, loadAt, Nat.reduceAdd, Nat.reduceBEq, Nat.reduceEqDiff, Nat.reduceLT, Nat.reduceLeDiff, Nat.reduceMul, Nat.reduceSub, reduceIte, Int.reduceEq, Int.reduceNe, Int.reduceLT, Int.reduceLE, Int.reduceAdd, Int.reduceSub, Int.reduceMul, Int.reduceNeg, Int.reduceMod, Int.reduceDiv, Int.reduceTMod, Int.reduceTDiv, Int.reduceToNat, okChain_i, okLoads_nil, okLoads_in, okLoads_eq]
  by_cases a4 : 1073741824 < (l.getD j (0, 0)).2
  · refine bad (ρ' := ?ρ4) 101 (by decide) (fun h => by have := h.1.2; unfold inP at this; omega) ?run4 ?_
    case run4 =>
      simp (maxDischargeDepth := 8) only [l24_0, c24_0, c24_1, c24_2, c24_3, c24_4, c24_5, c24_6, c24_7, c24_8, c24_9, c24_10, c24_11, c24_12, q0, q2, q3, lv, hlt, x1, x2, x5, x6, i2, a1, a2, a3, a4, e1, kp, ip, RUN, Ed, knd, kndR, resV, binInt, mnmxV, mnmx2, fillL, unV, extractV, partV, loadAt, Nat.reduceAdd, Nat.reduceBEq, Nat.reduceEqDiff, Nat.reduceLT, Nat.reduceLeDiff, Nat.reduceMul, Nat.reduceSub, reduceIte, Int.reduceEq, Int.reduceNe, Int.reduceLT, Int.reduceLE, Int.reduceAdd, Int.reduceSub, Int.reduceMul, Int.reduceNeg, Int.reduceMod, Int.reduceDiv, Int.reduceTMod, Int.reduceTDiv, Int.reduceToNat, okChain_i, okLoads_nil, okLoads_in, okLoads_eq]
      rfl
    simp (maxDischargeDepth := 8) only [q2, RUN, Ed, knd, kndR, resV, binInt, mnmxV, mnmx2, fillL, unV, lenV, extractV, partV, loadAt, Nat.reduceAdd, Nat.reduceBEq, Nat.reduceEqDiff, Nat.reduceLT, Nat.reduceLeDiff, Nat.reduceMul, Nat.reduceSub, reduceIte, Int.reduceEq, Int.reduceNe, Int.reduceLT, Int.reduceLE, Int.reduceAdd, Int.reduceSub, Int.reduceMul, Int.reduceNeg, Int.reduceMod, Int.reduceDiv, Int.reduceTMod, Int.reduceTDiv, Int.reduceToNat, okChain_i, okLoads_nil, okLoads_in, okLoads_eq]
  have hin : inP (l.getD j (0, 0)).1 ∧ inP (l.getD j (0, 0)).2 := ⟨by unfold inP; omega, by unfold inP; omega⟩
  by_cases h0 : j = 0
  · have hz : ¬ (0 : Int) < (j : Int) := by omega
    refine ⟨fun _ => ⟨?ρ5, ?run5, ?_, ?_, ?_⟩, fun h => absurd ⟨hin, .inl h0⟩ h⟩
    case run5 =>
      simp (maxDischargeDepth := 8) only [l24_0, c24_0, c24_1, c24_2, c24_3, c24_4, c24_5, c24_6, c24_7, c24_8, c24_9, c24_10, c24_11, c24_12, q0, q2, q3, lv, hlt, x1, x2, x5, x6, i2, a1, a2, a3, a4, hz, wj, RUN, Ed, knd, kndR, resV, binInt, mnmxV, mnmx2, fillL, unV, extractV, partV, loadAt, Nat.reduceAdd, Nat.reduceBEq, Nat.reduceEqDiff, Nat.reduceLT, Nat.reduceLeDiff, Nat.reduceMul, Nat.reduceSub, reduceIte, Int.reduceEq, Int.reduceNe, Int.reduceLT, Int.reduceLE, Int.reduceAdd, Int.reduceSub, Int.reduceMul, Int.reduceNeg, Int.reduceMod, Int.reduceDiv, Int.reduceTMod, Int.reduceTDiv, Int.reduceToNat, okChain_i, okLoads_nil, okLoads_in, okLoads_eq]
      rfl
    all_goals first | (simp (maxDischargeDepth := 8) only [q0, q2, RUN, Ed, knd, kndR, resV, binInt, mnmxV, mnmx2, fillL, unV, lenV, extractV, partV, loadAt, Nat.reduceAdd, Nat.reduceBEq, Nat.reduceEqDiff, Nat.reduceLT, Nat.reduceLeDiff, Nat.reduceMul, Nat.reduceSub, reduceIte, Int.reduceEq, Int.reduceNe, Int.reduceLT, Int.reduceLE, Int.reduceAdd, Int.reduceSub, Int.reduceMul, Int.reduceNeg, Int.reduceMod, Int.reduceDiv, Int.reduceTMod, Int.reduceTDiv, Int.reduceToNat, okChain_i, okLoads_nil, okLoads_in, okLoads_eq]; done) | (simp (maxDischargeDepth := 8) only [q0, q2, RUN, Ed, knd, kndR, resV, binInt, mnmxV, mnmx2, fillL, unV, lenV, extractV, partV, loadAt, Nat.reduceAdd, Nat.reduceBEq, Nat.reduceEqDiff, Nat.reduceLT, Nat.reduceLeDiff, Nat.reduceMul, Nat.reduceSub, reduceIte, Int.reduceEq, Int.reduceNe, Int.reduceLT, Int.reduceLE, Int.reduceAdd, Int.reduceSub, Int.reduceMul, Int.reduceNeg, Int.reduceMod, Int.reduceDiv, Int.reduceTMod, Int.reduceTDiv, Int.reduceToNat, okChain_i, okLoads_nil, okLoads_in, okLoads_eq]; rfl)
  have hz : (0 : Int) < (j : Int) := by omega
  have hq := getD_get (l := l) (j := j - 1) (by omega)
  obtain ⟨i', y1, ow', ty', cells', y2, y3, y4, y5, y6⟩ := (hv.ext hG).idx hq
  have i3 := live_ltG y2
  have wk : IntKind.i64.wrap ((j : Int) - 1) = ((j - 1 : Nat) : Int) := by rw [wrap64 _ (by omega) (by omega)]; omega
  have hord : okP l j ↔ ((l.getD (j - 1) (0, 0)).1 < (l.getD j (0, 0)).1 ∧ (l.getD (j - 1) (0, 0)).2 ≤ (l.getD j (0, 0)).2) := ⟨fun h => h.2.resolve_left h0, fun h => ⟨hin, .inr h⟩⟩
  generalize j - 1 = k at *
  by_cases b1 : (l.getD j (0, 0)).1 ≤ (l.getD k (0, 0)).1
  · refine bad (ρ' := ?ρ6) 105 (by decide) (fun h => by have := (hord.1 h).1; omega) ?run6 ?_
    case run6 =>
      simp (maxDischargeDepth := 8) only [l24_0, c24_0, c24_1, c24_2, c24_3, c24_4, c24_5, c24_6, c24_7, c24_8, c24_9, c24_10, c24_11, c24_12, q0, q2, q3, lv, hlt, x1, x2, x5, x6, i2, a1, a2, a3, a4, hz, wk, y1, y2, y5, y6, i3, b1, e5, kp, ip, RUN, Ed, knd, kndR, resV, binInt, mnmxV, mnmx2, fillL, unV, extractV, partV, loadAt, Nat.reduceAdd, Nat.reduceBEq, Nat.reduceEqDiff, Nat.reduceLT, Nat.reduceLeDiff, Nat.reduceMul, Nat.reduceSub, reduceIte, Int.reduceEq, Int.reduceNe, Int.reduceLT, Int.reduceLE, Int.reduceAdd, Int.reduceSub, Int.reduceMul, Int.reduceNeg, Int.reduceMod, Int.reduceDiv, Int.reduceTMod, Int.reduceTDiv, Int.reduceToNat, okChain_i, okLoads_nil, okLoads_in, okLoads_eq]
      rfl
    simp (maxDischargeDepth := 8) only [q2, RUN, Ed, knd, kndR, resV, binInt, mnmxV, mnmx2, fillL, unV, lenV, extractV, partV, loadAt, Nat.reduceAdd, Nat.reduceBEq, Nat.reduceEqDiff, Nat.reduceLT, Nat.reduceLeDiff, Nat.reduceMul, Nat.reduceSub, reduceIte, Int.reduceEq, Int.reduceNe, Int.reduceLT, Int.reduceLE, Int.reduceAdd, Int.reduceSub, Int.reduceMul, Int.reduceNeg, Int.reduceMod, Int.reduceDiv, Int.reduceTMod, Int.reduceTDiv, Int.reduceToNat, okChain_i, okLoads_nil, okLoads_in, okLoads_eq]
  by_cases b2 : (l.getD j (0, 0)).2 < (l.getD k (0, 0)).2
  · refine bad (ρ' := ?ρ7) 105 (by decide) (fun h => by have := (hord.1 h).2; omega) ?run7 ?_
    case run7 =>
      simp (maxDischargeDepth := 8) only [l24_0, c24_0, c24_1, c24_2, c24_3, c24_4, c24_5, c24_6, c24_7, c24_8, c24_9, c24_10, c24_11, c24_12, q0, q2, q3, lv, hlt, x1, x2, x5, x6, i2, a1, a2, a3, a4, hz, wk, y1, y2, y5, y6, i3, b1, b2, e5, kp, ip, RUN, Ed, knd, kndR, resV, binInt, mnmxV, mnmx2, fillL, unV, extractV, partV, loadAt, Nat.reduceAdd, Nat.reduceBEq, Nat.reduceEqDiff, Nat.reduceLT, Nat.reduceLeDiff, Nat.reduceMul, Nat.reduceSub, reduceIte, Int.reduceEq, Int.reduceNe, Int.reduceLT, Int.reduceLE, Int.reduceAdd, Int.reduceSub, Int.reduceMul, Int.reduceNeg, Int.reduceMod, Int.reduceDiv, Int.reduceTMod, Int.reduceTDiv, Int.reduceToNat, okChain_i, okLoads_nil, okLoads_in, okLoads_eq]
      rfl
    simp (maxDischargeDepth := 8) only [q2, RUN, Ed, knd, kndR, resV, binInt, mnmxV, mnmx2, fillL, unV, lenV, extractV, partV, loadAt, Nat.reduceAdd, Nat.reduceBEq, Nat.reduceEqDiff, Nat.reduceLT, Nat.reduceLeDiff, Nat.reduceMul, Nat.reduceSub, reduceIte, Int.reduceEq, Int.reduceNe, Int.reduceLT, Int.reduceLE, Int.reduceAdd, Int.reduceSub, Int.reduceMul, Int.reduceNeg, Int.reduceMod, Int.reduceDiv, Int.reduceTMod, Int.reduceTDiv, Int.reduceToNat, okChain_i, okLoads_nil, okLoads_in, okLoads_eq]
  refine ⟨fun _ => ⟨?ρ8, ?run8, ?_, ?_, ?_⟩, fun h => absurd (hord.2 ⟨by omega, by omega⟩) h⟩
  case run8 =>
    simp (maxDischargeDepth := 8) only [l24_0, c24_0, c24_1, c24_2, c24_3, c24_4, c24_5, c24_6, c24_7, c24_8, c24_9, c24_10, c24_11, c24_12, q0, q2, q3, lv, hlt, x1, x2, x5, x6, i2, a1, a2, a3, a4, hz, wj, wk, y1, y2, y5, y6, i3, b1, b2, RUN, Ed, knd, kndR, resV, binInt, mnmxV, mnmx2, fillL, unV, extractV, partV, loadAt, Nat.reduceAdd, Nat.reduceBEq, Nat.reduceEqDiff, Nat.reduceLT, Nat.reduceLeDiff, Nat.reduceMul, Nat.reduceSub, reduceIte, Int.reduceEq, Int.reduceNe, Int.reduceLT, Int.reduceLE, Int.reduceAdd, Int.reduceSub, Int.reduceMul, Int.reduceNeg, Int.reduceMod, Int.reduceDiv, Int.reduceTMod, Int.reduceTDiv, Int.reduceToNat, okChain_i, okLoads_nil, okLoads_in, okLoads_eq]
    rfl
  all_goals first | (simp (maxDischargeDepth := 8) only [q0, q2, RUN, Ed, knd, kndR, resV, binInt, mnmxV, mnmx2, fillL, unV, lenV, extractV, partV, loadAt, Nat.reduceAdd, Nat.reduceBEq, Nat.reduceEqDiff, Nat.reduceLT, Nat.reduceLeDiff, Nat.reduceMul, Nat.reduceSub, reduceIte, Int.reduceEq, Int.reduceNe, Int.reduceLT, Int.reduceLE, Int.reduceAdd, Int.reduceSub, Int.reduceMul, Int.reduceNeg, Int.reduceMod, Int.reduceDiv, Int.reduceTMod, Int.reduceTDiv, Int.reduceToNat, okChain_i, okLoads_nil, okLoads_in, okLoads_eq]; done) | (simp (maxDischargeDepth := 8) only [q0, q2, RUN, Ed, knd, kndR, resV, binInt, mnmxV, mnmx2, fillL, unV, lenV, extractV, partV, loadAt, Nat.reduceAdd, Nat.reduceBEq, Nat.reduceEqDiff, Nat.reduceLT, Nat.reduceLeDiff, Nat.reduceMul, Nat.reduceSub, reduceIte, Int.reduceEq, Int.reduceNe, Int.reduceLT, Int.reduceLE, Int.reduceAdd, Int.reduceSub, Int.reduceMul, Int.reduceNeg, Int.reduceMod, Int.reduceDiv, Int.reduceTMod, Int.reduceTDiv, Int.reduceToNat, okChain_i, okLoads_nil, okLoads_in, okLoads_eq]; rfl)
end Go.Proofs.YtceildmghmigaaaDoor.Sim
