/- Rows of frames that are alike; the document's bytes of a frame; the chapter's examples. -/
import Derived.Test.YtoknmodbdlfdmaaDoorFr6
import Derived.Test.YtoknmodbdlfdmaaDoorSim21
namespace Go.Proofs.YtoknmodbdlfdmaaDoor.Sim
open Go Go.Proofs.YtoknmodbdlfdmaaDoor.CrcMath
set_option linter.unusedSimpArgs false
set_option linter.unusedVariables false
/-- A row of frames, wherever it was made. -/
def FS (H : Heap) (v : Value) (L : List Fra) : Prop := (L = [] ∧ ∃ e, v = .slice none 0 e) ∨ ∃ i e ow ty cells, v = .slice (some ⟨i, 0, none⟩) L.length e ∧ live H i = some ⟨ow, ty, cells⟩ ∧ FCs H cells L
theorem FO.FS {H G : Heap} {w : Value} {L : List Fra} (h : FO H G w L) : Sim.FS G w L := by
  obtain ⟨cells, h1, h2⟩ := h
  rcases h1 with ⟨h1, rfl, _⟩ | ⟨c, _, rfl, h3, _⟩
  · exact .inl ⟨List.eq_nil_of_length_eq_zero h1, 0, rfl⟩
  · exact .inr ⟨c, 3, true, 24, cells, rfl, h3, h2⟩
theorem FS.ext {H F : Heap} {w : Value} {L : List Fra} (h : FS H w L) (e : Ext H F) : FS F w L := by
  rcases h with h | ⟨i, e', ow, ty, cells, h1, h2, h3⟩
  · exact .inl h
  · exact .inr ⟨i, e', ow, ty, cells, h1, e.live h2, FCs.keep (Kq.ext e) _ _ h3⟩
theorem FS.len {H : Heap} {v : Value} {L : List Fra} (h : FS H v L) : lenV false v = some (.int .i64 L.length) := by
  rcases h with ⟨rfl, e, rfl⟩ | ⟨i, e, ow, ty, cells, rfl, _, _⟩ <;> rfl
theorem FS.idx {H : Heap} {v : Value} {L : List Fra} (h : FS H v L) {j : Nat} {f : Fra} (hf : L[j]? = some f) : ∃ i w, idxSV 3 v (.int .i64 j) = some (.pointer (some ⟨i, j * 3, none⟩)) ∧ BW H w (f.2.2.map w8) ∧ ∃ ow ty cells, live H i = some ⟨ow, ty, cells⟩ ∧ j * 3 + 3 ≤ cells.length ∧ (cells.drop (j * 3)).take 3 = frL f w ∧ cells[j * 3 + 2]? = some w := by
  have hj : j < L.length := by
    rcases Nat.lt_or_ge j L.length with q | q
    · exact q
    · rw [List.getElem?_eq_none q] at hf; cases hf
  rcases h with ⟨rfl, e, rfl⟩ | ⟨i, e, ow, ty, cells, rfl, h2, h3⟩
  · simp at hj
  · obtain ⟨g1, w, g2, g3, g4⟩ := FCs.get L cells h3 j f hf
    exact ⟨i, w, by rw [idxS_s _ _ _ _ _ _ _ (by omega) (by omega)]; simp, g4, ow, ty, cells, h2, g1, g2, g3⟩
theorem fra_iff (f g : Fra) : (w8 f.1 = w8 g.1 ∧ w8 f.2.1 = w8 g.2.1 ∧ f.2.2.map w8 = g.2.2.map w8) ↔ f = g := by
  rw [w8_inj, w8_inj, map_w8_inj]
  constructor
  · rintro ⟨h1, h2, h3⟩; exact Prod.ext h1 (Prod.ext h2 h3)
  · rintro rfl; exact ⟨rfl, rfl, rfl⟩
theorem sameFr_f (f g : Fra) (v u : Value) (H : Heap) (hA : BS H v (f.2.2.map w8)) (hB : BS H u (g.2.2.map w8)) (hl : f.2.2.length ≤ 1000000) : D Tryd.prog hints 19 [.agg ⟨frL f v⟩, .agg ⟨frL g u⟩] H = some (.bool (decide (f = g)), H ++ [some ⟨true, 24, frL f v⟩, some ⟨true, 24, frL g u⟩]) := by
  have e := sameFrame_f H (w8 f.1) (w8 f.2.1) (w8 g.1) (w8 g.2.1) v u _ _ hA hB (by rw [List.length_map]; omega)
  rw [decide_eq_decide.2 (fra_iff f g)] at e
  exact e
theorem round12 (H : Heap) (v u : Value) (L M : List Fra) (hA : FS H v L) (hB : FS H u M) (hl : ∀ f ∈ L, f.2.2.length ≤ 1000000) (hll : L.length ≤ 1000000) (k : Nat) (f g : Fra) (hf : L[k]? = some f) (hg : M[k]? = some g) (ρ : Fr) (q0 : ρ 0 = v) (q1 : ρ 1 = u) (q5 : ρ 5 = .int .i64 k) :
    (f = g → ∃ ρ' X, E Tryd.prog hints l12_0 ρ H = some (.normal, ρ', H ++ X) ∧ ρ' 0 = v ∧ ρ' 1 = u ∧ ρ' 5 = .int .i64 (k + 1 : Nat)) ∧ (f ≠ g → ∃ ρ' X, E Tryd.prog hints l12_0 ρ H = some (.ret, ρ', H ++ X) ∧ ρ' 4 = .bool false) := by
  obtain ⟨i, w, x1, x2, ow, ty, cells, x3, x4, x5, _⟩ := hA.idx hf
  obtain ⟨i', w', y1, y2, ow', ty', cells', y3, y4, y5, _⟩ := hB.idx hg
  have l1 := hA.len
  have hk : k < L.length := by
    rcases Nat.lt_or_ge k L.length with q | q
    · exact q
    · rw [List.getElem?_eq_none q] at hf; cases hf
  have hlt : (k : Int) < (L.length : Int) := by omega
  have g1 := live_ltG x3
  have g2' := live_ltG y3
  have wk := wrap64 ((k : Int) + 1) (by omega) (by omega)
  have e := sameFr_f f g w w' H x2.BS y2.BS (hl f (List.mem_of_getElem? hf))
  constructor
  · intro hab
    rw [decide_eq_true hab] at e
    refine ⟨?ρ1, ?X1, ?run1, ?_, ?_, ?_⟩
    case run1 =>
      simp (maxDischargeDepth := 8) only [l12_0, c12_0, c12_1, c12_2, c12_3, c12_4, c12_5, c12_6, c12_7, c12_8, c12_9, q0, q1, q5, x1, x3, x4, x5, y1, y3, y4, y5, e, l1, hlt, g1, g2', wk, RUN, Ed, knd, kndR, resV, binInt, mnmxV, mnmx2, fillL, unV, extractV, partV, loadAt, Nat.reduceAdd, Nat.reduceBEq, Nat.reduceEqDiff, Nat.reduceLT, Nat.reduceLeDiff, Nat.reduceMul, Nat.reduceSub, reduceIte, Int.reduceEq, Int.reduceNe, Int.reduceLT, Int.reduceLE, Int.reduceAdd, Int.reduceSub, Int.reduceMul, Int.reduceNeg, Int.reduceMod, Int.reduceDiv, Int.reduceTMod, Int.reduceTDiv, Int.reduceToNat, okChain_i, okLoads_nil, okLoads_in, okLoads_eq]
      rfl
    all_goals first | (simp (maxDischargeDepth := 8) only [q0, q1, q5, RUN, Ed, knd, kndR, resV, binInt, mnmxV, mnmx2, fillL, unV, lenV, extractV, partV, loadAt, Nat.reduceAdd, Nat.reduceBEq, Nat.reduceEqDiff, Nat.reduceLT, Nat.reduceLeDiff, Nat.reduceMul, Nat.reduceSub, reduceIte, Int.reduceEq, Int.reduceNe, Int.reduceLT, Int.reduceLE, Int.reduceAdd, Int.reduceSub, Int.reduceMul, Int.reduceNeg, Int.reduceMod, Int.reduceDiv, Int.reduceTMod, Int.reduceTDiv, Int.reduceToNat, okChain_i, okLoads_nil, okLoads_in, okLoads_eq]; done) | (simp (maxDischargeDepth := 8) only [q0, q1, q5, RUN, Ed, knd, kndR, resV, binInt, mnmxV, mnmx2, fillL, unV, lenV, extractV, partV, loadAt, Nat.reduceAdd, Nat.reduceBEq, Nat.reduceEqDiff, Nat.reduceLT, Nat.reduceLeDiff, Nat.reduceMul, Nat.reduceSub, reduceIte, Int.reduceEq, Int.reduceNe, Int.reduceLT, Int.reduceLE, Int.reduceAdd, Int.reduceSub, Int.reduceMul, Int.reduceNeg, Int.reduceMod, Int.reduceDiv, Int.reduceTMod, Int.reduceTDiv, Int.reduceToNat, okChain_i, okLoads_nil, okLoads_in, okLoads_eq]; rfl)
  · intro hab
    rw [decide_eq_false hab] at e
    refine ⟨?ρ2, ?X2, ?run2, ?_⟩
    case run2 =>
      simp (maxDischargeDepth := 8) only [l12_0, c12_0, c12_1, c12_2, c12_3, c12_4, c12_5, c12_6, c12_7, c12_8, c12_9, q0, q1, q5, x1, x3, x4, x5, y1, y3, y4, y5, e, l1, hlt, g1, g2', wk, RUN, Ed, knd, kndR, resV, binInt, mnmxV, mnmx2, fillL, unV, extractV, partV, loadAt, Nat.reduceAdd, Nat.reduceBEq, Nat.reduceEqDiff, Nat.reduceLT, Nat.reduceLeDiff, Nat.reduceMul, Nat.reduceSub, reduceIte, Int.reduceEq, Int.reduceNe, Int.reduceLT, Int.reduceLE, Int.reduceAdd, Int.reduceSub, Int.reduceMul, Int.reduceNeg, Int.reduceMod, Int.reduceDiv, Int.reduceTMod, Int.reduceTDiv, Int.reduceToNat, okChain_i, okLoads_nil, okLoads_in, okLoads_eq]
      rfl
    simp (maxDischargeDepth := 8) only [RUN, Ed, knd, kndR, resV, binInt, mnmxV, mnmx2, fillL, unV, lenV, extractV, partV, loadAt, Nat.reduceAdd, Nat.reduceBEq, Nat.reduceEqDiff, Nat.reduceLT, Nat.reduceLeDiff, Nat.reduceMul, Nat.reduceSub, reduceIte, Int.reduceEq, Int.reduceNe, Int.reduceLT, Int.reduceLE, Int.reduceAdd, Int.reduceSub, Int.reduceMul, Int.reduceNeg, Int.reduceMod, Int.reduceDiv, Int.reduceTMod, Int.reduceTDiv, Int.reduceToNat, okChain_i, okLoads_nil, okLoads_in, okLoads_eq]
theorem loop12 (v u : Value) (L M : List Fra) (hl : ∀ f ∈ L, f.2.2.length ≤ 1000000) (hll : L.length ≤ 1000000) (hlen : L.length = M.length) : ∀ (d k : Nat), k + d = L.length → ∀ (H : Heap) (ρ : Fr), FS H v L → FS H u M → ρ 0 = v → ρ 1 = u → ρ 5 = .int .i64 k →
    (L.drop k = M.drop k → ∃ ρ' X, E Tryd.prog hints (.loop l12_0) ρ H = some (.exit 0, ρ', H ++ X)) ∧ (L.drop k ≠ M.drop k → ∃ ρ' X, E Tryd.prog hints (.loop l12_0) ρ H = some (.ret, ρ', H ++ X) ∧ ρ' 4 = .bool false) := by
  intro d
  induction d with
  | zero =>
    intro k hk H ρ hA hB q0 q1 q5
    have l1 := hA.len
    have hlt : ¬ ((k : Int) < (L.length : Int)) := by omega
    refine ⟨fun _ => ⟨?ρ1, [], ?run1⟩, fun h => absurd (by rw [List.drop_eq_nil_of_le (by omega), List.drop_eq_nil_of_le (by omega)]) h⟩
    case run1 =>
      rw [El, List.append_nil]
      simp (maxDischargeDepth := 8) only [l12_0, c12_4, q0, q5, l1, hlt, RUN, Ed, knd, kndR, resV, binInt, mnmxV, mnmx2, fillL, unV, extractV, partV, loadAt, Nat.reduceAdd, Nat.reduceBEq, Nat.reduceEqDiff, Nat.reduceLT, Nat.reduceLeDiff, Nat.reduceMul, Nat.reduceSub, reduceIte, Int.reduceEq, Int.reduceNe, Int.reduceLT, Int.reduceLE, Int.reduceAdd, Int.reduceSub, Int.reduceMul, Int.reduceNeg, Int.reduceMod, Int.reduceDiv, Int.reduceTMod, Int.reduceTDiv, Int.reduceToNat, okChain_i, okLoads_nil, okLoads_in, okLoads_eq]
      rfl
  | succ d ih =>
    intro k hk H ρ hA hB q0 q1 q5
    have hkA : k < L.length := by omega
    have hkB : k < M.length := by omega
    obtain ⟨r1, r2⟩ := round12 H v u L M hA hB hl hll k _ _ (List.getElem?_eq_getElem hkA) (List.getElem?_eq_getElem hkB) ρ q0 q1 q5
    rw [List.drop_eq_getElem_cons hkA, List.drop_eq_getElem_cons hkB]
    by_cases hab : L[k] = M[k]
    · obtain ⟨ρ', X, e, h0, h1, h5⟩ := r1 hab
      obtain ⟨i1, i2⟩ := ih (k + 1) (by omega) (H ++ X) ρ' (hA.ext (Ext.more _ _)) (hB.ext (Ext.more _ _)) h0 h1 h5
      rw [El, e, andThen_n]
      constructor
      · intro h
        obtain ⟨ρ2, Y, e2⟩ := i1 (List.cons.inj h).2
        exact ⟨ρ2, X ++ Y, by rw [e2, List.append_assoc]⟩
      · intro h
        obtain ⟨ρ2, Y, e2, h4⟩ := i2 fun h' => h (by rw [hab, h'])
        exact ⟨ρ2, X ++ Y, by rw [e2, List.append_assoc], h4⟩
    · obtain ⟨ρ', X, e, h4⟩ := r2 hab
      rw [El, e, andThen_r]
      exact ⟨fun h => absurd (List.cons.inj h).1 hab, fun _ => ⟨ρ', X, rfl, h4⟩⟩
theorem sameFrames_f (H : Heap) (v u : Value) (L M : List Fra) (hA : FS H v L) (hB : FS H u M) (hl : ∀ f ∈ L, f.2.2.length ≤ 1000000) (hll : L.length ≤ 1000000) : ∃ X, D Tryd.prog hints 12 [v, u] H = some (.bool (decide (L = M)), H ++ X) := by
  have l1 := hA.len
  have l2 := hB.len
  rw [D_eq p12 _ _ (Nat.le_of_ble_eq_true rfl)]
  by_cases hlen : L.length = M.length
  · have hd : decide ((L.length : Int) = (M.length : Int)) = true := by simpa using (by omega : (L.length : Int) = M.length)
    have key : ∀ ρ, ρ 0 = v → ρ 1 = u → ρ 5 = .int .i64 (0 : Nat) → ∃ X, done [.tmp 4] (andThen (blk 0 (E Tryd.prog hints (.loop l12_0) ρ H)) (E Tryd.prog hints (.seq (.region c12_9) .ret))) = some (.bool (decide (L = M)), H ++ X) := by
      intro ρ q0 q1 q5
      obtain ⟨i1, i2⟩ := loop12 v u L M hl hll hlen L.length 0 (by omega) H ρ hA hB q0 q1 q5
      by_cases hab : L = M
      · obtain ⟨ρ', X, e⟩ := i1 (by rw [hab])
        rw [e]
        refine ⟨X, ?_⟩
        simp (maxDischargeDepth := 8) only [c12_9, decide_eq_true hab, RUN, Ed, knd, kndR, resV, binInt, mnmxV, mnmx2, fillL, unV, lenV, extractV, partV, loadAt, Nat.reduceAdd, Nat.reduceBEq, Nat.reduceEqDiff, Nat.reduceLT, Nat.reduceLeDiff, Nat.reduceMul, Nat.reduceSub, reduceIte, Int.reduceEq, Int.reduceNe, Int.reduceLT, Int.reduceLE, Int.reduceAdd, Int.reduceSub, Int.reduceMul, Int.reduceNeg, Int.reduceMod, Int.reduceDiv, Int.reduceTMod, Int.reduceTDiv, Int.reduceToNat, okChain_i, okLoads_nil, okLoads_in, okLoads_eq]
      · obtain ⟨ρ', X, e, h4⟩ := i2 (by simpa using hab)
        rw [e]
        refine ⟨X, ?_⟩
        simp (maxDischargeDepth := 8) only [c12_9, h4, decide_eq_false hab, RUN, Ed, knd, kndR, resV, binInt, mnmxV, mnmx2, fillL, unV, lenV, extractV, partV, loadAt, Nat.reduceAdd, Nat.reduceBEq, Nat.reduceEqDiff, Nat.reduceLT, Nat.reduceLeDiff, Nat.reduceMul, Nat.reduceSub, reduceIte, Int.reduceEq, Int.reduceNe, Int.reduceLT, Int.reduceLE, Int.reduceAdd, Int.reduceSub, Int.reduceMul, Int.reduceNeg, Int.reduceMod, Int.reduceDiv, Int.reduceTMod, Int.reduceTDiv, Int.reduceToNat, okChain_i, okLoads_nil, okLoads_in, okLoads_eq]
    simp (maxDischargeDepth := 8) only [r12, b12, c12_0, c12_1, c12_2, c12_3, l1, l2, hd, RUN, Ed, knd, kndR, resV, binInt, mnmxV, mnmx2, fillL, unV, extractV, partV, loadAt, Nat.reduceAdd, Nat.reduceBEq, Nat.reduceEqDiff, Nat.reduceLT, Nat.reduceLeDiff, Nat.reduceMul, Nat.reduceSub, reduceIte, Int.reduceEq, Int.reduceNe, Int.reduceLT, Int.reduceLE, Int.reduceAdd, Int.reduceSub, Int.reduceMul, Int.reduceNeg, Int.reduceMod, Int.reduceDiv, Int.reduceTMod, Int.reduceTDiv, Int.reduceToNat, okChain_i, okLoads_nil, okLoads_in, okLoads_eq]
    refine key _ ?_ ?_ ?_
    all_goals first | (simp (maxDischargeDepth := 8) only [RUN, Ed, knd, kndR, resV, binInt, mnmxV, mnmx2, fillL, unV, lenV, extractV, partV, loadAt, Nat.reduceAdd, Nat.reduceBEq, Nat.reduceEqDiff, Nat.reduceLT, Nat.reduceLeDiff, Nat.reduceMul, Nat.reduceSub, reduceIte, Int.reduceEq, Int.reduceNe, Int.reduceLT, Int.reduceLE, Int.reduceAdd, Int.reduceSub, Int.reduceMul, Int.reduceNeg, Int.reduceMod, Int.reduceDiv, Int.reduceTMod, Int.reduceTDiv, Int.reduceToNat, okChain_i, okLoads_nil, okLoads_in, okLoads_eq]; done) | (simp (maxDischargeDepth := 8) only [RUN, Ed, knd, kndR, resV, binInt, mnmxV, mnmx2, fillL, unV, lenV, extractV, partV, loadAt, Nat.reduceAdd, Nat.reduceBEq, Nat.reduceEqDiff, Nat.reduceLT, Nat.reduceLeDiff, Nat.reduceMul, Nat.reduceSub, reduceIte, Int.reduceEq, Int.reduceNe, Int.reduceLT, Int.reduceLE, Int.reduceAdd, Int.reduceSub, Int.reduceMul, Int.reduceNeg, Int.reduceMod, Int.reduceDiv, Int.reduceTMod, Int.reduceTDiv, Int.reduceToNat, okChain_i, okLoads_nil, okLoads_in, okLoads_eq]; rfl)
  · have hd : decide ((L.length : Int) = (M.length : Int)) = false := by simpa using (by omega : ¬ (L.length : Int) = M.length)
    have hd2 : decide (L = M) = false := by
      rw [decide_eq_false_iff_not]; intro h; exact hlen (by rw [h])
    refine ⟨[], ?_⟩
    rw [List.append_nil]
    simp (maxDischargeDepth := 8) only [r12, b12, c12_0, c12_1, c12_2, l1, l2, hd, hd2, RUN, Ed, knd, kndR, resV, binInt, mnmxV, mnmx2, fillL, unV, extractV, partV, loadAt, Nat.reduceAdd, Nat.reduceBEq, Nat.reduceEqDiff, Nat.reduceLT, Nat.reduceLeDiff, Nat.reduceMul, Nat.reduceSub, reduceIte, Int.reduceEq, Int.reduceNe, Int.reduceLT, Int.reduceLE, Int.reduceAdd, Int.reduceSub, Int.reduceMul, Int.reduceNeg, Int.reduceMod, Int.reduceDiv, Int.reduceTMod, Int.reduceTDiv, Int.reduceToNat, okChain_i, okLoads_nil, okLoads_in, okLoads_eq]
theorem frame2_f (f : Fra) (v : Value) (hl : f.2.2.length ≤ 32) (H : Heap) (hB : BS H v (f.2.2.map w8)) :
    ∃ w F, D Tryd.prog hints 15 [.agg ⟨frL f v⟩] H = some (w, F) ∧ Ext H F ∧ SM 5 1 H F w (frB f).length (bL ((frB f).map w8)) := by
  obtain ⟨id, seq, body⟩ := f
  simp only at hl hB ⊢
  have l1 := hB.len
  rw [List.length_map] at l1
  obtain ⟨o1, o2⟩ := hB.one
  have hlt : ¬ ((32 : Int) < (body.length : Int)) := by omega
  have hn := e_n8 body.length hl
  have hG : Ext H (H ++ [some ⟨true, 24, [.int .u8 (w8 id), .int .u8 (w8 seq), v]⟩, some ⟨true, 5, bL [126, w8 id, w8 seq, w8 (BitVec.ofNat 8 body.length)]⟩]) := Ext.more _ _
  have hc := (hB.ext hG).cells
  have hsm : SM 5 1 H (H ++ [some ⟨true, 24, [.int .u8 (w8 id), .int .u8 (w8 seq), v]⟩, some ⟨true, 5, bL [126, w8 id, w8 seq, w8 (BitVec.ofNat 8 body.length)]⟩]) (.slice (some ⟨H.length + 1, 0, none⟩) 4 1) 4 (bL [126, w8 id, w8 seq, w8 (BitVec.ofNat 8 body.length)]) :=
    .inr ⟨H.length + 1, by omega, rfl, (live_app_add _ _ _).trans rfl, rfl⟩
  obtain ⟨w2, F2, ea, hm2, he2, hk2, _, hle2⟩ := hsm.appendX (bytes := 1) hG (Ext.refl _) hc.1 hc.2 (by rw [bL_len]; omega) (by rw [List.length_map]; omega) (bL_one _)
  rw [← bL_app, List.length_map] at hm2
  have hb2 : BS F2 w2 ((0x7e#8 :: hdr (id, seq, body)).map w8) := by
    have := hm2
    have e : (4 + body.length) = ([126, w8 id, w8 seq, w8 (BitVec.ofNat 8 body.length)] ++ body.map w8).length := by simp; omega
    rw [e] at this
    have := this.BS
    exact this
  obtain ⟨w3, es, hb3⟩ := hb2.cut (lo := some (.int .i64 1)) (hi := none) (l := 1) (r := ((0x7e#8 :: hdr (id, seq, body)).map w8).length) rfl rfl (by simp) (Nat.le_refl _)
  rw [List.take_length, List.map_cons, List.drop_one, List.tail_cons] at hb3
  have ecrc := sum2_f w3 (hdr (id, seq, body)) (by simp [hdr]; omega) F2 hb3
  have hF3 : Ext F2 (F2 ++ [some ⟨true, 5, bL [w8 (hi (crc (hdr (id, seq, body)))), w8 (lo (crc (hdr (id, seq, body))))]⟩]) := Ext.more _ _
  obtain ⟨w4, F4, eb, hm4, he4, _⟩ := hm2.append (bytes := 1) he2 hF3 (j := F2.length) (m := 2) (e := 1) (o := true) (t := 5) ((live_app_len _ _).trans rfl) (by omega) rfl (by omega) (bL_one _)
  rw [← bL_app, ← frB_map (id, seq, body)] at hm4
  generalize hdr (id, seq, body) = hd at *
  refine ⟨w4, F4, ?_, he4, ?_⟩
  · rw [D_eq p15 _ _ (Nat.le_of_ble_eq_true rfl)]
    simp only [bL, List.map_cons, List.map_nil] at ea eb
    simp (maxDischargeDepth := 8) only [r15, b15, c15_0, c15_1, c15_2, c15_3, frL, l1, hlt, hn, o1, o2, ea, es, ecrc, e_hi, e_lo, eb, RUN, Ed, knd, kndR, resV, binInt, mnmxV, mnmx2, fillL, unV, extractV, partV, loadAt, Nat.reduceAdd, Nat.reduceBEq, Nat.reduceEqDiff, Nat.reduceLT, Nat.reduceLeDiff, Nat.reduceMul, Nat.reduceSub, reduceIte, Int.reduceEq, Int.reduceNe, Int.reduceLT, Int.reduceLE, Int.reduceAdd, Int.reduceSub, Int.reduceMul, Int.reduceNeg, Int.reduceMod, Int.reduceDiv, Int.reduceTMod, Int.reduceTDiv, Int.reduceToNat, okChain_i, okLoads_nil, okLoads_in, okLoads_eq]
  · rw [frB_len]
    rw [show 4 + body.length + 2 = body.length + 6 by omega] at hm4
    exact hm4
theorem first_f (H : Heap) : ∃ F, D Tryd.prog hints 8 [] H = some (.bool true, F) ∧ Ext H F := by
  obtain ⟨w1, F1, e1, hE1, hm1⟩ := split_f H (.slice none 0 0) [] (by simp) (BS.nil _ _)
  rw [splitP_nil] at e1 hm1
  have l1 := hm1.FS.len
  obtain ⟨w2, F2, e2, hE2, hm2⟩ := frame_f (0#8, 0#8, []) (.slice none 0 0) (by simp) F1 (BS.nil _ _)
  have l2 := hm2.len
  have hz : w8 0#8 = 0 := rfl
  have hn : (frB (0#8, 0#8, [])).length = 6 := rfl
  rw [hn] at l2
  simp only [hz] at e2
  refine ⟨F2, ?_, hE1.trans hE2⟩
  rw [D_eq p8 _ _ (Nat.le_of_ble_eq_true rfl)]
  have e1' : D Tryd.prog hints 10 [.slice none 0 0] H = some (.tuple ⟨[w1, .int .i64 0]⟩, F1) := e1
  have l1' : lenV false w1 = some (.int .i64 0) := l1
  have l2' : lenV false w2 = some (.int .i64 6) := l2
  simp (maxDischargeDepth := 8) only [r8, b8, c8_0, c8_1, c8_2, c8_3, e1', l1', e2, l2', RUN, Ed, knd, kndR, resV, binInt, mnmxV, mnmx2, fillL, unV, extractV, partV, loadAt, Nat.reduceAdd, Nat.reduceBEq, Nat.reduceEqDiff, Nat.reduceLT, Nat.reduceLeDiff, Nat.reduceMul, Nat.reduceSub, reduceIte, Int.reduceEq, Int.reduceNe, Int.reduceLT, Int.reduceLE, Int.reduceAdd, Int.reduceSub, Int.reduceMul, Int.reduceNeg, Int.reduceMod, Int.reduceDiv, Int.reduceTMod, Int.reduceTDiv, Int.reduceToNat, okChain_i, okLoads_nil, okLoads_in, okLoads_eq]
theorem number_f (n b : Int) (H : Heap) (h1 : -9223372036854775808 ≤ n) (h2 : n ≤ 9223372036854775807) (hb : 0 < b) (hb2 : b ≤ 1048576) : D Tryd.prog hints 17 [.int .i64 n, .int .i64 b] H = some (.int .i64 (n % b), H) := by
  have hb0 : ¬ (b = 0) := by omega
  rw [D_eq p17 _ _ (Nat.le_of_ble_eq_true rfl)]
  by_cases hneg : n.tmod b < 0
  · have hbnd : -b < n.tmod b := by
      have b' := Int.tmod_lt_of_pos (-n) hb
      rw [Int.neg_tmod] at b'
      omega
    have w := wrap64 (n.tmod b + b) (by omega) (by omega)
    have he : n.tmod b + b = n % b := by
      rw [Int.emod_eq_tmod]
      have : ¬ (0 ≤ n ∨ b ∣ n) := by
        rintro (h | h)
        · have := Int.tmod_nonneg b h; omega
        · have := Int.tmod_eq_zero_of_dvd h; omega
      rw [if_neg this]
      omega
    rw [he] at w
    simp (maxDischargeDepth := 8) only [r17, b17, c17_0, c17_1, c17_2, c17_3, c17_4, hb0, hneg, he, w, RUN, Ed, knd, kndR, resV, binInt, mnmxV, mnmx2, fillL, unV, lenV, extractV, partV, loadAt, Nat.reduceAdd, Nat.reduceBEq, Nat.reduceEqDiff, Nat.reduceLT, Nat.reduceLeDiff, Nat.reduceMul, Nat.reduceSub, reduceIte, Int.reduceEq, Int.reduceNe, Int.reduceLT, Int.reduceLE, Int.reduceAdd, Int.reduceSub, Int.reduceMul, Int.reduceNeg, Int.reduceMod, Int.reduceDiv, Int.reduceTMod, Int.reduceTDiv, Int.reduceToNat, okChain_i, okLoads_nil, okLoads_in, okLoads_eq]
  · have he : n.tmod b = n % b := by
      rw [Int.emod_eq_tmod]
      by_cases h : 0 ≤ n ∨ b ∣ n
      · rw [if_pos h]; omega
      · exfalso
        have hn : n < 0 := by omega
        have hz : n.tmod b ≤ 0 := by
          have := Int.tmod_nonneg b (show 0 ≤ -n by omega)
          rw [Int.neg_tmod] at this; omega
        have : n.tmod b = 0 := by omega
        exact h (.inr (Int.dvd_of_tmod_eq_zero this))
    simp (maxDischargeDepth := 8) only [r17, b17, c17_0, c17_1, c17_2, c17_3, c17_4, hb0, hneg, RUN, Ed, knd, kndR, resV, binInt, mnmxV, mnmx2, fillL, unV, lenV, extractV, partV, loadAt, Nat.reduceAdd, Nat.reduceBEq, Nat.reduceEqDiff, Nat.reduceLT, Nat.reduceLeDiff, Nat.reduceMul, Nat.reduceSub, reduceIte, Int.reduceEq, Int.reduceNe, Int.reduceLT, Int.reduceLE, Int.reduceAdd, Int.reduceSub, Int.reduceMul, Int.reduceNeg, Int.reduceMod, Int.reduceDiv, Int.reduceTMod, Int.reduceTDiv, Int.reduceToNat, okChain_i, okLoads_nil, okLoads_in, okLoads_eq]
    rw [he]
end Go.Proofs.YtoknmodbdlfdmaaDoor.Sim
