/- Tables and feeders, over the plain heap. -/
import Derived.Test.YtceildmghmigaaaDoorCon2
import Derived.Test.YtceildmghmigaaaDoorSim21
namespace Go.Proofs.YtceildmghmigaaaDoor.Sim
open Go
set_option linter.unusedSimpArgs false
set_option linter.unusedVariables false
abbrev Pt := Int × Int
def PS (H : Heap) (v : Value) (l : List Pt) : Prop := (l = [] ∧ ∃ e, v = .slice none 0 e) ∨ ∃ i e ow ty cells, v = .slice (some ⟨i, 0, none⟩) l.length e ∧ live H i = some ⟨ow, ty, cells⟩ ∧ ∀ (j : Nat) (p : Pt), l[j]? = some p → j * 2 + 2 ≤ cells.length ∧ (cells.drop (j * 2)).take 2 = [Value.int .i64 p.1, .int .i64 p.2]
theorem PS.ext {H G : Heap} {v : Value} {l : List Pt} (h : PS H v l) (e : Ext H G) : PS G v l := by
  rcases h with h | ⟨i, e', ow, ty, cells, h1, h2, h3⟩
  · exact .inl h
  · exact .inr ⟨i, e', ow, ty, cells, h1, e.live h2, h3⟩
theorem PS.len {H : Heap} {v : Value} {l : List Pt} (h : PS H v l) : lenV false v = some (.int .i64 l.length) := by
  rcases h with ⟨rfl, e, rfl⟩ | ⟨i, e, ow, ty, cells, rfl, _, _⟩ <;> rfl
theorem PS.one {H : Heap} {v : Value} {l : List Pt} (h : PS H v l) : v.oneCell' = true ∧ v.cells.toList = [v] := by
  rcases h with ⟨rfl, e, rfl⟩ | ⟨i, e, ow, ty, cells, rfl, _, _⟩ <;> exact ⟨rfl, rfl⟩
theorem PS.idx {H : Heap} {v : Value} {l : List Pt} (h : PS H v l) {j : Nat} {p : Pt} (hp : l[j]? = some p) : ∃ i, idxSV 2 v (.int .i64 j) = some (.pointer (some ⟨i, j * 2, none⟩)) ∧ ∃ ow ty cells, live H i = some ⟨ow, ty, cells⟩ ∧ j * 2 + 2 ≤ cells.length ∧ (cells.drop (j * 2)).take 2 = [Value.int .i64 p.1, .int .i64 p.2] ∧ cells[j * 2]? = some (.int .i64 p.1) ∧ cells[j * 2 + 1]? = some (.int .i64 p.2) := by
  have hj : j < l.length := by
    rcases Nat.lt_or_ge j l.length with q | q
    · exact q
    · rw [List.getElem?_eq_none q] at hp; cases hp
  rcases h with ⟨rfl, e, rfl⟩ | ⟨i, e, ow, ty, cells, rfl, h2, h3⟩
  · simp at hj
  · obtain ⟨g1, g2⟩ := h3 j p hp
    have a1 : (List.take 2 (List.drop (j * 2) cells))[0]? = some (.int .i64 p.1) := by rw [g2]; rfl
    have a2 : (List.take 2 (List.drop (j * 2) cells))[1]? = some (.int .i64 p.2) := by rw [g2]; rfl
    rw [List.getElem?_take, if_pos (by omega), List.getElem?_drop] at a1 a2
    refine ⟨i, ?_, ow, ty, cells, h2, g1, g2, by simpa using a1, a2⟩
    rw [idxS_s _ _ _ _ _ _ _ (by omega) (by omega)]
    simp
theorem outside_f (x : Int) (h1 : -1073741824 ≤ x) (h2 : x ≤ 1073741824) (H : Heap) : D Tryd.prog hints 35 [.int .i64 x] H = some (.bool false, H) := by
  have a1 : ¬ x < -1073741824 := by omega
  have a2 : ¬ 1073741824 < x := by omega
  rw [D_eq p35 _ _ (Nat.le_of_ble_eq_true rfl)]
  simp (maxDischargeDepth := 8) only [r35, b35, c35_0, c35_1, a1, a2, RUN, Ed, knd, kndR, resV, binInt, mnmxV, mnmx2, fillL, unV, lenV, extractV, partV, loadAt, Nat.reduceAdd, Nat.reduceBEq, Nat.reduceEqDiff, Nat.reduceLT, Nat.reduceLeDiff, Nat.reduceMul, Nat.reduceSub, reduceIte, Int.reduceEq, Int.reduceNe, Int.reduceLT, Int.reduceLE, Int.reduceAdd, Int.reduceSub, Int.reduceMul, Int.reduceNeg, Int.reduceMod, Int.reduceDiv, Int.reduceTMod, Int.reduceTDiv, Int.reduceToNat, okChain_i, okLoads_nil, okLoads_in, okLoads_eq]
/-- A table that may be. -/
structure Tab (l : List Pt) : Prop where
  two : 2 ≤ l.length
  few : l.length ≤ 64
  inr : ∀ (j : Nat) (p : Pt), l[j]? = some p → (-1073741824 ≤ p.1 ∧ p.1 ≤ 1073741824) ∧ -1073741824 ≤ p.2 ∧ p.2 ≤ 1073741824
  ord : ∀ (j : Nat) (p q : Pt), l[j]? = some p → l[j + 1]? = some q → p.1 < q.1 ∧ p.2 ≤ q.2
theorem step29 (H : Heap) (v : Value) (l : List Pt) (ht : Tab l) (hv : PS H v l) (j : Nat) (hj : j < l.length) (ρ : Fr) (G : Heap) (hG : Ext H G) (q0 : ρ 0 = v) (q15 : ρ 15 = v) (q16 : ρ 16 = .int .i64 l.length) (q17 : ρ 17 = .int .i64 j) :
    ∃ ρ' F, E Tryd.prog hints l29_0 ρ G = some (.normal, ρ', F) ∧ Ext H F ∧ ρ' 17 = .int .i64 (j + 1 : Nat) := by
  have hp : l[j]? = some l[j] := List.getElem?_eq_getElem hj
  obtain ⟨i, x1, ow, ty, cells, x2, x3, x4, x5, x6⟩ := (hv.ext hG).idx hp
  have i2 := live_ltG x2
  have hlt : (j : Int) < (l.length : Int) := by omega
  have wj := wrap64 ((j : Int) + 1) (by have := ht.few; omega) (by have := ht.few; omega)
  obtain ⟨⟨a1, a2⟩, a3, a4⟩ := ht.inr j _ hp
  have o1 := fun F => outside_f l[j].1 a1 a2 F
  have o2 := fun F => outside_f l[j].2 a3 a4 F
  by_cases h0 : j = 0
  · have hz : ¬ (0 : Int) < (j : Int) := by omega
    generalize l[j] = p at *
    obtain ⟨px, py⟩ := p
    simp only at x4 x5 x6 o1 o2
    refine ⟨?ρ1, _, ?run1, hG.app ?X1, ?_⟩
    case run1 =>
      simp (maxDischargeDepth := 8) only [l29_0, c29_0, c29_1, c29_2, c29_3, c29_4, c29_5, c29_6, c29_7, c29_8, c29_9, c29_10, c29_11, c29_12, c29_13, q0, q15, q16, q17, hlt, x1, x2, x3, x4, i2, o1, o2, wj, hz, RUN, Ed, knd, kndR, resV, binInt, mnmxV, mnmx2, fillL, unV, lenV, extractV, partV, loadAt, Nat.reduceAdd, Nat.reduceBEq, Nat.reduceEqDiff, Nat.reduceLT, Nat.reduceLeDiff, Nat.reduceMul, Nat.reduceSub, reduceIte, Int.reduceEq, Int.reduceNe, Int.reduceLT, Int.reduceLE, Int.reduceAdd, Int.reduceSub, Int.reduceMul, Int.reduceNeg, Int.reduceMod, Int.reduceDiv, Int.reduceTMod, Int.reduceTDiv, Int.reduceToNat, okChain_i, okLoads_nil, okLoads_in, okLoads_eq]
      rfl
    first | (simp (maxDischargeDepth := 8) only [RUN, Ed, knd, kndR, resV, binInt, mnmxV, mnmx2, fillL, unV, lenV, extractV, partV, loadAt, Nat.reduceAdd, Nat.reduceBEq, Nat.reduceEqDiff, Nat.reduceLT, Nat.reduceLeDiff, Nat.reduceMul, Nat.reduceSub, reduceIte, Int.reduceEq, Int.reduceNe, Int.reduceLT, Int.reduceLE, Int.reduceAdd, Int.reduceSub, Int.reduceMul, Int.reduceNeg, Int.reduceMod, Int.reduceDiv, Int.reduceTMod, Int.reduceTDiv, Int.reduceToNat, okChain_i, okLoads_nil, okLoads_in, okLoads_eq]; done) | (simp (maxDischargeDepth := 8) only [RUN, Ed, knd, kndR, resV, binInt, mnmxV, mnmx2, fillL, unV, lenV, extractV, partV, loadAt, Nat.reduceAdd, Nat.reduceBEq, Nat.reduceEqDiff, Nat.reduceLT, Nat.reduceLeDiff, Nat.reduceMul, Nat.reduceSub, reduceIte, Int.reduceEq, Int.reduceNe, Int.reduceLT, Int.reduceLE, Int.reduceAdd, Int.reduceSub, Int.reduceMul, Int.reduceNeg, Int.reduceMod, Int.reduceDiv, Int.reduceTMod, Int.reduceTDiv, Int.reduceToNat, okChain_i, okLoads_nil, okLoads_in, okLoads_eq]; rfl)
  · obtain ⟨k, rfl⟩ : ∃ k, j = k + 1 := ⟨j - 1, by omega⟩
    have hz : (0 : Int) < ((k + 1 : Nat) : Int) := by omega
    have hq : l[k]? = some l[k] := List.getElem?_eq_getElem (by omega)
    obtain ⟨i', y1, ow', ty', cells', y2, y3, y4, y5, y6⟩ := (hv.ext hG).idx hq
    have i3 := live_ltG y2
    obtain ⟨o3, o4⟩ := ht.ord k _ _ hq hp
    have wk : IntKind.i64.wrap (((k + 1 : Nat) : Int) - 1) = ((k : Nat) : Int) := by
      have := ht.few
      rw [wrap64 _ (by omega) (by omega)]; omega
    have n1 : ¬ l[k + 1].1 ≤ l[k].1 := by omega
    have n2 : ¬ l[k + 1].2 < l[k].2 := by omega
    generalize l[k + 1] = p at *
    generalize l[k] = q at *
    obtain ⟨px, py⟩ := p
    obtain ⟨qx, qy⟩ := q
    simp only at x4 x5 x6 y4 y5 y6 o1 o2 n1 n2
    obtain ⟨J, hJ⟩ : ∃ J, J = k + 1 := ⟨_, rfl⟩
    rw [← hJ] at q17 hlt x1 x3 x4 x5 x6 wj wk hz ⊢
    refine ⟨?ρ2, _, ?run2, hG.app ?X2, ?_⟩
    case run2 =>
      simp (maxDischargeDepth := 8) only [l29_0, c29_0, c29_1, c29_2, c29_3, c29_4, c29_5, c29_6, c29_7, c29_8, c29_9, c29_10, c29_11, c29_12, c29_13, q0, q15, q16, q17, hlt, x1, x2, x3, x4, i2, o1, o2, wj, wk, hz, y1, y2, y5, y6, i3, n1, n2, RUN, Ed, knd, kndR, resV, binInt, mnmxV, mnmx2, fillL, unV, lenV, extractV, partV, loadAt, Nat.reduceAdd, Nat.reduceBEq, Nat.reduceEqDiff, Nat.reduceLT, Nat.reduceLeDiff, Nat.reduceMul, Nat.reduceSub, reduceIte, Int.reduceEq, Int.reduceNe, Int.reduceLT, Int.reduceLE, Int.reduceAdd, Int.reduceSub, Int.reduceMul, Int.reduceNeg, Int.reduceMod, Int.reduceDiv, Int.reduceTMod, Int.reduceTDiv, Int.reduceToNat, okChain_i, okLoads_nil, okLoads_in, okLoads_eq]
      rfl
    first | (simp (maxDischargeDepth := 8) only [RUN, Ed, knd, kndR, resV, binInt, mnmxV, mnmx2, fillL, unV, lenV, extractV, partV, loadAt, Nat.reduceAdd, Nat.reduceBEq, Nat.reduceEqDiff, Nat.reduceLT, Nat.reduceLeDiff, Nat.reduceMul, Nat.reduceSub, reduceIte, Int.reduceEq, Int.reduceNe, Int.reduceLT, Int.reduceLE, Int.reduceAdd, Int.reduceSub, Int.reduceMul, Int.reduceNeg, Int.reduceMod, Int.reduceDiv, Int.reduceTMod, Int.reduceTDiv, Int.reduceToNat, okChain_i, okLoads_nil, okLoads_in, okLoads_eq]; done) | (simp (maxDischargeDepth := 8) only [RUN, Ed, knd, kndR, resV, binInt, mnmxV, mnmx2, fillL, unV, lenV, extractV, partV, loadAt, Nat.reduceAdd, Nat.reduceBEq, Nat.reduceEqDiff, Nat.reduceLT, Nat.reduceLeDiff, Nat.reduceMul, Nat.reduceSub, reduceIte, Int.reduceEq, Int.reduceNe, Int.reduceLT, Int.reduceLE, Int.reduceAdd, Int.reduceSub, Int.reduceMul, Int.reduceNeg, Int.reduceMod, Int.reduceDiv, Int.reduceTMod, Int.reduceTDiv, Int.reduceToNat, okChain_i, okLoads_nil, okLoads_in, okLoads_eq]; rfl)
theorem table_f (H : Heap) (v : Value) (l : List Pt) (ht : Tab l) (hv : PS H v l) : ∃ X, D Tryd.prog hints 29 [v] H = some (.nilIface, H ++ X) := by
  have l1 := hv.len
  have h1 := ht.two
  have h2 := ht.few
  have d1 : ¬ (l.length : Int) < 2 := by omega
  have d2 : ¬ (64 : Int) < (l.length : Int) := by omega
  have fin : ∀ ρ, ρ 0 = v → ρ 15 = v → ρ 16 = .int .i64 l.length → ρ 17 = .int .i64 (0 : Nat) → ∃ X, done [.tmp 2] (andThen (blk 1 (E Tryd.prog hints (.loop l29_0) ρ H)) (E Tryd.prog hints (.seq (.region c29_13) .ret))) = some (.nilIface, H ++ X) := by
    intro ρ q0 q15 q16 q17
    obtain ⟨ρ', G', e, hf, X, rfl⟩ := loop_keep (P := Tryd.prog) (hs := hints) (b := l29_0) (id := 1) ρ (fun j ρ G => ρ 17 = .int .i64 j ∧ Ext H G) (fun ρ G => Ext H G) l.length
      (by
        rintro j ρ1 G hj hf ⟨r17, hG⟩
        obtain ⟨ρ', F, e, hF, s17⟩ := step29 H v l ht hv j hj ρ1 G hG ((hf 0 rfl).trans q0) ((hf 15 rfl).trans q15) ((hf 16 rfl).trans q16) r17
        exact ⟨ρ', F, e, s17, hF⟩)
      (by
        rintro ρ1 G hf ⟨r17, hG⟩
        have r16 := (hf 16 rfl).trans q16
        have hlt : ¬ (l.length : Int) < (l.length : Int) := by omega
        refine ⟨?ρ2, G, ?run2, hG⟩
        case run2 =>
          simp (maxDischargeDepth := 8) only [l29_0, c29_6, r16, r17, hlt, RUN, Ed, knd, kndR, resV, binInt, mnmxV, mnmx2, fillL, unV, lenV, extractV, partV, loadAt, Nat.reduceAdd, Nat.reduceBEq, Nat.reduceEqDiff, Nat.reduceLT, Nat.reduceLeDiff, Nat.reduceMul, Nat.reduceSub, reduceIte, Int.reduceEq, Int.reduceNe, Int.reduceLT, Int.reduceLE, Int.reduceAdd, Int.reduceSub, Int.reduceMul, Int.reduceNeg, Int.reduceMod, Int.reduceDiv, Int.reduceTMod, Int.reduceTDiv, Int.reduceToNat, okChain_i, okLoads_nil, okLoads_in, okLoads_eq]
          rfl)
      H ⟨q17, Ext.refl H⟩
    rw [e]
    refine ⟨X, ?_⟩
    simp (maxDischargeDepth := 8) only [c29_13, RUN, Ed, knd, kndR, resV, binInt, mnmxV, mnmx2, fillL, unV, lenV, extractV, partV, loadAt, Nat.reduceAdd, Nat.reduceBEq, Nat.reduceEqDiff, Nat.reduceLT, Nat.reduceLeDiff, Nat.reduceMul, Nat.reduceSub, reduceIte, Int.reduceEq, Int.reduceNe, Int.reduceLT, Int.reduceLE, Int.reduceAdd, Int.reduceSub, Int.reduceMul, Int.reduceNeg, Int.reduceMod, Int.reduceDiv, Int.reduceTMod, Int.reduceTDiv, Int.reduceToNat, okChain_i, okLoads_nil, okLoads_in, okLoads_eq]
  rw [D_eq p29 _ _ (Nat.le_of_ble_eq_true rfl)]
  simp (maxDischargeDepth := 8) only [r29, b29, c29_0, c29_1, c29_2, c29_3, c29_4, c29_5, l1, d1, d2, RUN, Ed, knd, kndR, resV, binInt, mnmxV, mnmx2, fillL, unV, extractV, partV, loadAt, Nat.reduceAdd, Nat.reduceBEq, Nat.reduceEqDiff, Nat.reduceLT, Nat.reduceLeDiff, Nat.reduceMul, Nat.reduceSub, reduceIte, Int.reduceEq, Int.reduceNe, Int.reduceLT, Int.reduceLE, Int.reduceAdd, Int.reduceSub, Int.reduceMul, Int.reduceNeg, Int.reduceMod, Int.reduceDiv, Int.reduceTMod, Int.reduceTDiv, Int.reduceToNat, okChain_i, okLoads_nil, okLoads_in, okLoads_eq]
  refine fin _ ?_ ?_ ?_ ?_
  all_goals first | (simp (maxDischargeDepth := 8) only [RUN, Ed, knd, kndR, resV, binInt, mnmxV, mnmx2, fillL, unV, lenV, extractV, partV, loadAt, Nat.reduceAdd, Nat.reduceBEq, Nat.reduceEqDiff, Nat.reduceLT, Nat.reduceLeDiff, Nat.reduceMul, Nat.reduceSub, reduceIte, Int.reduceEq, Int.reduceNe, Int.reduceLT, Int.reduceLE, Int.reduceAdd, Int.reduceSub, Int.reduceMul, Int.reduceNeg, Int.reduceMod, Int.reduceDiv, Int.reduceTMod, Int.reduceTDiv, Int.reduceToNat, okChain_i, okLoads_nil, okLoads_in, okLoads_eq]; done) | (simp (maxDischargeDepth := 8) only [RUN, Ed, knd, kndR, resV, binInt, mnmxV, mnmx2, fillL, unV, lenV, extractV, partV, loadAt, Nat.reduceAdd, Nat.reduceBEq, Nat.reduceEqDiff, Nat.reduceLT, Nat.reduceLeDiff, Nat.reduceMul, Nat.reduceSub, reduceIte, Int.reduceEq, Int.reduceNe, Int.reduceLT, Int.reduceLE, Int.reduceAdd, Int.reduceSub, Int.reduceMul, Int.reduceNeg, Int.reduceMod, Int.reduceDiv, Int.reduceTMod, Int.reduceTDiv, Int.reduceToNat, okChain_i, okLoads_nil, okLoads_in, okLoads_eq]; rfl)
theorem tableS_f (H : Heap) (hE : EH all7 H) (v : Value) (l : List Pt) (hl : l.length < 2) (hv : PS H v l) : D Tryd.prog hints 29 [v] H = some (Err 2, H) := by
  have l1 := hv.len
  have d1 : (l.length : Int) < 2 := by omega
  obtain ⟨t2, r2⟩ := hE 2 (by omega) rfl
  have j2 := live_ltG r2
  rw [D_eq p29 _ _ (Nat.le_of_ble_eq_true rfl)]
  simp (maxDischargeDepth := 8) only [r29, b29, c29_0, c29_1, c29_2, l1, d1, r2, j2, g1, RUN, Ed, knd, kndR, resV, binInt, mnmxV, mnmx2, fillL, unV, extractV, partV, loadAt, Nat.reduceAdd, Nat.reduceBEq, Nat.reduceEqDiff, Nat.reduceLT, Nat.reduceLeDiff, Nat.reduceMul, Nat.reduceSub, reduceIte, Int.reduceEq, Int.reduceNe, Int.reduceLT, Int.reduceLE, Int.reduceAdd, Int.reduceSub, Int.reduceMul, Int.reduceNeg, Int.reduceMod, Int.reduceDiv, Int.reduceTMod, Int.reduceTDiv, Int.reduceToNat, okChain_i, okLoads_nil, okLoads_in, okLoads_eq]
abbrev Fd := Int × Int × Int
def FS (H : Heap) (v : Value) (l : List Fd) : Prop := (l = [] ∧ ∃ e, v = .slice none 0 e) ∨ T3 H v l
theorem FS.ext {H G : Heap} {v : Value} {l : List Fd} (h : FS H v l) (e : Ext H G) : FS G v l := by
  rcases h with h | h
  · exact .inl h
  · exact .inr (h.ext e)
theorem FS.len {H : Heap} {v : Value} {l : List Fd} (h : FS H v l) : lenV false v = some (.int .i64 l.length) := by
  rcases h with ⟨rfl, e, rfl⟩ | h
  · rfl
  · exact h.len
theorem FS.idx {H : Heap} {v : Value} {l : List Fd} (h : FS H v l) {j : Nat} {x : Fd} (hx : l[j]? = some x) : ∃ i, idxSV 3 v (.int .i64 j) = some (.pointer (some ⟨i, j * 3, none⟩)) ∧ ∃ ow ty cells, live H i = some ⟨ow, ty, cells⟩ ∧ j * 3 + 3 ≤ cells.length ∧ (cells.drop (j * 3)).take 3 = bdL x := by
  rcases h with ⟨rfl, _⟩ | h
  · simp at hx
  · exact h.idx hx
def okF (x : Fd) : Prop := 4 ≤ x.1 ∧ x.1 ≤ 6 ∧ 0 ≤ x.2.1 ∧ x.2.1 ≤ 1073741824 ∧ 0 ≤ x.2.2 ∧ x.2.2 ≤ 100
instance (x : Fd) : Decidable (okF x) := by unfold okF; exact inferInstance
theorem step31 (H : Heap) (v : Value) (l : List Fd) (hl : l.length ≤ 1000) (hv : FS H v l) (j : Nat) (x : Fd) (hx : l[j]? = some x) (ρ : Fr) (G : Heap) (hG : Ext H G) (q0 : ρ 0 = v) (q5 : ρ 5 = v) (q6 : ρ 6 = .int .i64 l.length) (q7 : ρ 7 = .int .i64 j) :
    (okF x → ∃ ρ' F, E Tryd.prog hints l31_0 ρ G = some (.normal, ρ', F) ∧ Ext H F ∧ ρ' 0 = v ∧ ρ' 5 = v ∧ ρ' 6 = .int .i64 l.length ∧ ρ' 7 = .int .i64 (j + 1 : Nat)) ∧
    (¬ okF x → ∃ ρ' F, E Tryd.prog hints l31_0 ρ G = some (.ret, ρ', F) ∧ Ext H F ∧ ρ' 2 = .bool false) := by
  obtain ⟨bu, lo, pr⟩ := x
  obtain ⟨i, x1, ow, ty, cells, x2, x3, x4⟩ := (hv.ext hG).idx hx
  have i2 := live_ltG x2
  have hj : j < l.length := by
    rcases Nat.lt_or_ge j l.length with q | q
    · exact q
    · rw [List.getElem?_eq_none q] at hx; cases hx
  have hlt : (j : Int) < (l.length : Int) := by omega
  have wj := wrap64 ((j : Int) + 1) (by omega) (by omega)
  simp only [bdL] at x4
  have bad : ∀ {ρ' : Fr} {X : Heap}, E Tryd.prog hints l31_0 ρ G = some (.ret, ρ', G ++ X) → ρ' 2 = .bool false → (okF (bu, lo, pr) → ∃ ρ' F, E Tryd.prog hints l31_0 ρ G = some (.normal, ρ', F) ∧ Ext H F ∧ ρ' 0 = v ∧ ρ' 5 = v ∧ ρ' 6 = .int .i64 l.length ∧ ρ' 7 = .int .i64 (j + 1 : Nat)) → (okF (bu, lo, pr) → ∃ ρ' F, E Tryd.prog hints l31_0 ρ G = some (.normal, ρ', F) ∧ Ext H F ∧ ρ' 0 = v ∧ ρ' 5 = v ∧ ρ' 6 = .int .i64 l.length ∧ ρ' 7 = .int .i64 (j + 1 : Nat)) ∧ (¬ okF (bu, lo, pr) → ∃ ρ' F, E Tryd.prog hints l31_0 ρ G = some (.ret, ρ', F) ∧ Ext H F ∧ ρ' 2 = .bool false) :=
    fun h h2 h3 => ⟨h3, fun _ => ⟨_, _, h, hG.app _, h2⟩⟩
  by_cases c1 : bu < 4
  · refine bad (ρ' := ?ρ1) (X := ?X1) ?run1 ?_ (fun h => absurd h.1 (by simp only; omega))
    case run1 =>
      simp (maxDischargeDepth := 8) only [l31_0, c31_0, c31_1, c31_2, c31_3, c31_4, c31_5, c31_6, c31_7, q0, q5, q6, q7, hlt, x1, x2, x3, x4, i2, c1, RUN, Ed, knd, kndR, resV, binInt, mnmxV, mnmx2, fillL, unV, lenV, extractV, partV, loadAt, Nat.reduceAdd, Nat.reduceBEq, Nat.reduceEqDiff, Nat.reduceLT, Nat.reduceLeDiff, Nat.reduceMul, Nat.reduceSub, reduceIte, Int.reduceEq, Int.reduceNe, Int.reduceLT, Int.reduceLE, Int.reduceAdd, Int.reduceSub, Int.reduceMul, Int.reduceNeg, Int.reduceMod, Int.reduceDiv, Int.reduceTMod, Int.reduceTDiv, Int.reduceToNat, okChain_i, okLoads_nil, okLoads_in, okLoads_eq]
      rfl
    simp (maxDischargeDepth := 8) only [RUN, Ed, knd, kndR, resV, binInt, mnmxV, mnmx2, fillL, unV, lenV, extractV, partV, loadAt, Nat.reduceAdd, Nat.reduceBEq, Nat.reduceEqDiff, Nat.reduceLT, Nat.reduceLeDiff, Nat.reduceMul, Nat.reduceSub, reduceIte, Int.reduceEq, Int.reduceNe, Int.reduceLT, Int.reduceLE, Int.reduceAdd, Int.reduceSub, Int.reduceMul, Int.reduceNeg, Int.reduceMod, Int.reduceDiv, Int.reduceTMod, Int.reduceTDiv, Int.reduceToNat, okChain_i, okLoads_nil, okLoads_in, okLoads_eq]
  by_cases c2 : 6 < bu
  · refine bad (ρ' := ?ρ2) (X := ?X2) ?run2 ?_ (fun h => absurd h.2.1 (by simp only; omega))
    case run2 =>
      simp (maxDischargeDepth := 8) only [l31_0, c31_0, c31_1, c31_2, c31_3, c31_4, c31_5, c31_6, c31_7, q0, q5, q6, q7, hlt, x1, x2, x3, x4, i2, c1, c2, RUN, Ed, knd, kndR, resV, binInt, mnmxV, mnmx2, fillL, unV, lenV, extractV, partV, loadAt, Nat.reduceAdd, Nat.reduceBEq, Nat.reduceEqDiff, Nat.reduceLT, Nat.reduceLeDiff, Nat.reduceMul, Nat.reduceSub, reduceIte, Int.reduceEq, Int.reduceNe, Int.reduceLT, Int.reduceLE, Int.reduceAdd, Int.reduceSub, Int.reduceMul, Int.reduceNeg, Int.reduceMod, Int.reduceDiv, Int.reduceTMod, Int.reduceTDiv, Int.reduceToNat, okChain_i, okLoads_nil, okLoads_in, okLoads_eq]
      rfl
    simp (maxDischargeDepth := 8) only [RUN, Ed, knd, kndR, resV, binInt, mnmxV, mnmx2, fillL, unV, lenV, extractV, partV, loadAt, Nat.reduceAdd, Nat.reduceBEq, Nat.reduceEqDiff, Nat.reduceLT, Nat.reduceLeDiff, Nat.reduceMul, Nat.reduceSub, reduceIte, Int.reduceEq, Int.reduceNe, Int.reduceLT, Int.reduceLE, Int.reduceAdd, Int.reduceSub, Int.reduceMul, Int.reduceNeg, Int.reduceMod, Int.reduceDiv, Int.reduceTMod, Int.reduceTDiv, Int.reduceToNat, okChain_i, okLoads_nil, okLoads_in, okLoads_eq]
  by_cases c3 : lo < 0
  · refine bad (ρ' := ?ρ3) (X := ?X3) ?run3 ?_ (fun h => absurd h.2.2.1 (by simp only; omega))
    case run3 =>
      simp (maxDischargeDepth := 8) only [l31_0, c31_0, c31_1, c31_2, c31_3, c31_4, c31_5, c31_6, c31_7, q0, q5, q6, q7, hlt, x1, x2, x3, x4, i2, c1, c2, c3, RUN, Ed, knd, kndR, resV, binInt, mnmxV, mnmx2, fillL, unV, lenV, extractV, partV, loadAt, Nat.reduceAdd, Nat.reduceBEq, Nat.reduceEqDiff, Nat.reduceLT, Nat.reduceLeDiff, Nat.reduceMul, Nat.reduceSub, reduceIte, Int.reduceEq, Int.reduceNe, Int.reduceLT, Int.reduceLE, Int.reduceAdd, Int.reduceSub, Int.reduceMul, Int.reduceNeg, Int.reduceMod, Int.reduceDiv, Int.reduceTMod, Int.reduceTDiv, Int.reduceToNat, okChain_i, okLoads_nil, okLoads_in, okLoads_eq]
      rfl
    simp (maxDischargeDepth := 8) only [RUN, Ed, knd, kndR, resV, binInt, mnmxV, mnmx2, fillL, unV, lenV, extractV, partV, loadAt, Nat.reduceAdd, Nat.reduceBEq, Nat.reduceEqDiff, Nat.reduceLT, Nat.reduceLeDiff, Nat.reduceMul, Nat.reduceSub, reduceIte, Int.reduceEq, Int.reduceNe, Int.reduceLT, Int.reduceLE, Int.reduceAdd, Int.reduceSub, Int.reduceMul, Int.reduceNeg, Int.reduceMod, Int.reduceDiv, Int.reduceTMod, Int.reduceTDiv, Int.reduceToNat, okChain_i, okLoads_nil, okLoads_in, okLoads_eq]
  by_cases c4 : 1073741824 < lo
  · refine bad (ρ' := ?ρ4) (X := ?X4) ?run4 ?_ (fun h => absurd h.2.2.2.1 (by simp only; omega))
    case run4 =>
      simp (maxDischargeDepth := 8) only [l31_0, c31_0, c31_1, c31_2, c31_3, c31_4, c31_5, c31_6, c31_7, q0, q5, q6, q7, hlt, x1, x2, x3, x4, i2, c1, c2, c3, c4, RUN, Ed, knd, kndR, resV, binInt, mnmxV, mnmx2, fillL, unV, lenV, extractV, partV, loadAt, Nat.reduceAdd, Nat.reduceBEq, Nat.reduceEqDiff, Nat.reduceLT, Nat.reduceLeDiff, Nat.reduceMul, Nat.reduceSub, reduceIte, Int.reduceEq, Int.reduceNe, Int.reduceLT, Int.reduceLE, Int.reduceAdd, Int.reduceSub, Int.reduceMul, Int.reduceNeg, Int.reduceMod, Int.reduceDiv, Int.reduceTMod, Int.reduceTDiv, Int.reduceToNat, okChain_i, okLoads_nil, okLoads_in, okLoads_eq]
      rfl
    simp (maxDischargeDepth := 8) only [RUN, Ed, knd, kndR, resV, binInt, mnmxV, mnmx2, fillL, unV, lenV, extractV, partV, loadAt, Nat.reduceAdd, Nat.reduceBEq, Nat.reduceEqDiff, Nat.reduceLT, Nat.reduceLeDiff, Nat.reduceMul, Nat.reduceSub, reduceIte, Int.reduceEq, Int.reduceNe, Int.reduceLT, Int.reduceLE, Int.reduceAdd, Int.reduceSub, Int.reduceMul, Int.reduceNeg, Int.reduceMod, Int.reduceDiv, Int.reduceTMod, Int.reduceTDiv, Int.reduceToNat, okChain_i, okLoads_nil, okLoads_in, okLoads_eq]
  by_cases c5 : pr < 0
  · refine bad (ρ' := ?ρ5) (X := ?X5) ?run5 ?_ (fun h => absurd h.2.2.2.2.1 (by simp only; omega))
    case run5 =>
      simp (maxDischargeDepth := 8) only [l31_0, c31_0, c31_1, c31_2, c31_3, c31_4, c31_5, c31_6, c31_7, q0, q5, q6, q7, hlt, x1, x2, x3, x4, i2, c1, c2, c3, c4, c5, RUN, Ed, knd, kndR, resV, binInt, mnmxV, mnmx2, fillL, unV, lenV, extractV, partV, loadAt, Nat.reduceAdd, Nat.reduceBEq, Nat.reduceEqDiff, Nat.reduceLT, Nat.reduceLeDiff, Nat.reduceMul, Nat.reduceSub, reduceIte, Int.reduceEq, Int.reduceNe, Int.reduceLT, Int.reduceLE, Int.reduceAdd, Int.reduceSub, Int.reduceMul, Int.reduceNeg, Int.reduceMod, Int.reduceDiv, Int.reduceTMod, Int.reduceTDiv, Int.reduceToNat, okChain_i, okLoads_nil, okLoads_in, okLoads_eq]
      rfl
    simp (maxDischargeDepth := 8) only [RUN, Ed, knd, kndR, resV, binInt, mnmxV, mnmx2, fillL, unV, lenV, extractV, partV, loadAt, Nat.reduceAdd, Nat.reduceBEq, Nat.reduceEqDiff, Nat.reduceLT, Nat.reduceLeDiff, Nat.reduceMul, Nat.reduceSub, reduceIte, Int.reduceEq, Int.reduceNe, Int.reduceLT, Int.reduceLE, Int.reduceAdd, Int.reduceSub, Int.reduceMul, Int.reduceNeg, Int.reduceMod, Int.reduceDiv, Int.reduceTMod, Int.reduceTDiv, Int.reduceToNat, okChain_i, okLoads_nil, okLoads_in, okLoads_eq]
  by_cases c6 : 100 < pr
  · refine bad (ρ' := ?ρ6) (X := ?X6) ?run6 ?_ (fun h => absurd h.2.2.2.2.2 (by simp only; omega))
    case run6 =>
      simp (maxDischargeDepth := 8) only [l31_0, c31_0, c31_1, c31_2, c31_3, c31_4, c31_5, c31_6, c31_7, q0, q5, q6, q7, hlt, x1, x2, x3, x4, i2, c1, c2, c3, c4, c5, c6, RUN, Ed, knd, kndR, resV, binInt, mnmxV, mnmx2, fillL, unV, lenV, extractV, partV, loadAt, Nat.reduceAdd, Nat.reduceBEq, Nat.reduceEqDiff, Nat.reduceLT, Nat.reduceLeDiff, Nat.reduceMul, Nat.reduceSub, reduceIte, Int.reduceEq, Int.reduceNe, Int.reduceLT, Int.reduceLE, Int.reduceAdd, Int.reduceSub, Int.reduceMul, Int.reduceNeg, Int.reduceMod, Int.reduceDiv, Int.reduceTMod, Int.reduceTDiv, Int.reduceToNat, okChain_i, okLoads_nil, okLoads_in, okLoads_eq]
      rfl
    simp (maxDischargeDepth := 8) only [RUN, Ed, knd, kndR, resV, binInt, mnmxV, mnmx2, fillL, unV, lenV, extractV, partV, loadAt, Nat.reduceAdd, Nat.reduceBEq, Nat.reduceEqDiff, Nat.reduceLT, Nat.reduceLeDiff, Nat.reduceMul, Nat.reduceSub, reduceIte, Int.reduceEq, Int.reduceNe, Int.reduceLT, Int.reduceLE, Int.reduceAdd, Int.reduceSub, Int.reduceMul, Int.reduceNeg, Int.reduceMod, Int.reduceDiv, Int.reduceTMod, Int.reduceTDiv, Int.reduceToNat, okChain_i, okLoads_nil, okLoads_in, okLoads_eq]
  · refine ⟨fun _ => ⟨?ρ7, _, ?run7, hG.app ?X7, ?_, ?_, ?_, ?_⟩, fun h => absurd (show okF (bu, lo, pr) from ⟨by simp only; omega, by simp only; omega, by simp only; omega, by simp only; omega, by simp only; omega, by simp only; omega⟩) h⟩
    case run7 =>
      simp (maxDischargeDepth := 8) only [l31_0, c31_0, c31_1, c31_2, c31_3, c31_4, c31_5, c31_6, c31_7, q0, q5, q6, q7, hlt, x1, x2, x3, x4, i2, c1, c2, c3, c4, c5, c6, wj, RUN, Ed, knd, kndR, resV, binInt, mnmxV, mnmx2, fillL, unV, lenV, extractV, partV, loadAt, Nat.reduceAdd, Nat.reduceBEq, Nat.reduceEqDiff, Nat.reduceLT, Nat.reduceLeDiff, Nat.reduceMul, Nat.reduceSub, reduceIte, Int.reduceEq, Int.reduceNe, Int.reduceLT, Int.reduceLE, Int.reduceAdd, Int.reduceSub, Int.reduceMul, Int.reduceNeg, Int.reduceMod, Int.reduceDiv, Int.reduceTMod, Int.reduceTDiv, Int.reduceToNat, okChain_i, okLoads_nil, okLoads_in, okLoads_eq]
      rfl
    all_goals first | (simp (maxDischargeDepth := 8) only [q0, q5, q6, RUN, Ed, knd, kndR, resV, binInt, mnmxV, mnmx2, fillL, unV, lenV, extractV, partV, loadAt, Nat.reduceAdd, Nat.reduceBEq, Nat.reduceEqDiff, Nat.reduceLT, Nat.reduceLeDiff, Nat.reduceMul, Nat.reduceSub, reduceIte, Int.reduceEq, Int.reduceNe, Int.reduceLT, Int.reduceLE, Int.reduceAdd, Int.reduceSub, Int.reduceMul, Int.reduceNeg, Int.reduceMod, Int.reduceDiv, Int.reduceTMod, Int.reduceTDiv, Int.reduceToNat, okChain_i, okLoads_nil, okLoads_in, okLoads_eq]; done) | (simp (maxDischargeDepth := 8) only [q0, q5, q6, RUN, Ed, knd, kndR, resV, binInt, mnmxV, mnmx2, fillL, unV, lenV, extractV, partV, loadAt, Nat.reduceAdd, Nat.reduceBEq, Nat.reduceEqDiff, Nat.reduceLT, Nat.reduceLeDiff, Nat.reduceMul, Nat.reduceSub, reduceIte, Int.reduceEq, Int.reduceNe, Int.reduceLT, Int.reduceLE, Int.reduceAdd, Int.reduceSub, Int.reduceMul, Int.reduceNeg, Int.reduceMod, Int.reduceDiv, Int.reduceTMod, Int.reduceTDiv, Int.reduceToNat, okChain_i, okLoads_nil, okLoads_in, okLoads_eq]; rfl)
theorem loop31 (H : Heap) (v : Value) (l : List Fd) (hl : l.length ≤ 1000) (hv : FS H v l) : ∀ (d k : Nat), k + d = l.length → ∀ (ρ : Fr) (G : Heap), Ext H G → ρ 0 = v → ρ 5 = v → ρ 6 = .int .i64 l.length → ρ 7 = .int .i64 k →
    ((∀ x ∈ l.drop k, okF x) → ∃ ρ' F, E Tryd.prog hints (.loop l31_0) ρ G = some (.exit 0, ρ', F) ∧ Ext H F ∧ ρ' 0 = v) ∧
    (¬ (∀ x ∈ l.drop k, okF x) → ∃ ρ' F, E Tryd.prog hints (.loop l31_0) ρ G = some (.ret, ρ', F) ∧ Ext H F ∧ ρ' 2 = .bool false) := by
  intro d
  induction d with
  | zero =>
    intro k hk ρ G hG q0 q5 q6 q7
    have hlt : ¬ ((k : Int) < (l.length : Int)) := by omega
    rw [List.drop_eq_nil_of_le (by omega)]
    refine ⟨fun _ => ⟨?ρ1, G, ?run1, hG, ?_⟩, fun h => absurd (by simp) h⟩
    case run1 =>
      rw [El]
      simp (maxDischargeDepth := 8) only [l31_0, c31_2, q6, q7, hlt, RUN, Ed, knd, kndR, resV, binInt, mnmxV, mnmx2, fillL, unV, lenV, extractV, partV, loadAt, Nat.reduceAdd, Nat.reduceBEq, Nat.reduceEqDiff, Nat.reduceLT, Nat.reduceLeDiff, Nat.reduceMul, Nat.reduceSub, reduceIte, Int.reduceEq, Int.reduceNe, Int.reduceLT, Int.reduceLE, Int.reduceAdd, Int.reduceSub, Int.reduceMul, Int.reduceNeg, Int.reduceMod, Int.reduceDiv, Int.reduceTMod, Int.reduceTDiv, Int.reduceToNat, okChain_i, okLoads_nil, okLoads_in, okLoads_eq]
      rfl
    simp (maxDischargeDepth := 8) only [q0, RUN, Ed, knd, kndR, resV, binInt, mnmxV, mnmx2, fillL, unV, lenV, extractV, partV, loadAt, Nat.reduceAdd, Nat.reduceBEq, Nat.reduceEqDiff, Nat.reduceLT, Nat.reduceLeDiff, Nat.reduceMul, Nat.reduceSub, reduceIte, Int.reduceEq, Int.reduceNe, Int.reduceLT, Int.reduceLE, Int.reduceAdd, Int.reduceSub, Int.reduceMul, Int.reduceNeg, Int.reduceMod, Int.reduceDiv, Int.reduceTMod, Int.reduceTDiv, Int.reduceToNat, okChain_i, okLoads_nil, okLoads_in, okLoads_eq]
  | succ d ih =>
    intro k hk ρ G hG q0 q5 q6 q7
    have hkl : k < l.length := by omega
    have hx : l[k]? = some l[k] := List.getElem?_eq_getElem hkl
    obtain ⟨r1, r2⟩ := step31 H v l hl hv k _ hx ρ G hG q0 q5 q6 q7
    rw [List.drop_eq_getElem_cons hkl]
    by_cases hb : okF l[k]
    · obtain ⟨ρ', F, e, hF, s0, s5, s6, s7⟩ := r1 hb
      obtain ⟨i1, i2⟩ := ih (k + 1) (by omega) ρ' F hF s0 s5 s6 s7
      rw [El, e, andThen_n]
      exact ⟨fun h => i1 (fun x hx => h x (List.mem_cons_of_mem _ hx)), fun h => i2 (fun h' => h (fun x hx => by
        rcases List.mem_cons.1 hx with rfl | hx
        · exact hb
        · exact h' x hx))⟩
    · obtain ⟨ρ', F, e, hF, s2⟩ := r2 hb
      rw [El, e, andThen_r]
      exact ⟨fun h => absurd (h _ (List.mem_cons_self)) hb, fun _ => ⟨ρ', F, rfl, hF, s2⟩⟩
theorem feeders_f (H : Heap) (v : Value) (l : List Fd) (hl : l.length ≤ 1000) (hv : FS H v l) : ∃ F, D Tryd.prog hints 31 [v] H = some (.bool (decide ((∀ x ∈ l, okF x) ∧ l.length ≤ 16)), F) ∧ Ext H F := by
  have l1 := hv.len
  have fin : ∀ (ρ : Fr), ρ 0 = v → ρ 5 = v → ρ 6 = .int .i64 l.length → ρ 7 = .int .i64 (0 : Nat) → ∃ F, done [.tmp 2] (andThen (blk 0 (E Tryd.prog hints (.loop l31_0) ρ H)) (E Tryd.prog hints (.seq (.region c31_7) .ret))) = some (.bool (decide ((∀ x ∈ l, okF x) ∧ l.length ≤ 16)), F) ∧ Ext H F := by
    intro ρ q0 q5 q6 q7
    obtain ⟨r1, r2⟩ := loop31 H v l hl hv l.length 0 (by omega) ρ H (Ext.refl H) q0 q5 q6 q7
    rw [List.drop_zero] at r1 r2
    by_cases hb : ∀ x ∈ l, okF x
    · obtain ⟨ρ', F, e, hF, s0⟩ := r1 hb
      rw [e]
      refine ⟨F, ?_, hF⟩
      have hd : decide ((∀ x ∈ l, okF x) ∧ l.length ≤ 16) = decide ((l.length : Int) ≤ 16) := decide_eq_decide.2 ⟨fun h => by have := h.2; omega, fun h => ⟨hb, by omega⟩⟩
      rw [hd]
      simp (maxDischargeDepth := 8) only [c31_7, s0, l1, RUN, Ed, knd, kndR, resV, binInt, mnmxV, mnmx2, fillL, unV, extractV, partV, loadAt, Nat.reduceAdd, Nat.reduceBEq, Nat.reduceEqDiff, Nat.reduceLT, Nat.reduceLeDiff, Nat.reduceMul, Nat.reduceSub, reduceIte, Int.reduceEq, Int.reduceNe, Int.reduceLT, Int.reduceLE, Int.reduceAdd, Int.reduceSub, Int.reduceMul, Int.reduceNeg, Int.reduceMod, Int.reduceDiv, Int.reduceTMod, Int.reduceTDiv, Int.reduceToNat, okChain_i, okLoads_nil, okLoads_in, okLoads_eq]
    · obtain ⟨ρ', F, e, hF, s2⟩ := r2 hb
      rw [e]
      refine ⟨F, ?_, hF⟩
      have hd : decide ((∀ x ∈ l, okF x) ∧ l.length ≤ 16) = false := by rw [decide_eq_false_iff_not]; exact fun h => hb h.1
      rw [hd]
      simp (maxDischargeDepth := 8) only [s2, RUN, Ed, knd, kndR, resV, binInt, mnmxV, mnmx2, fillL, unV, lenV, extractV, partV, loadAt, Nat.reduceAdd, Nat.reduceBEq, Nat.reduceEqDiff, Nat.reduceLT, Nat.reduceLeDiff, Nat.reduceMul, Nat.reduceSub, reduceIte, Int.reduceEq, Int.reduceNe, Int.reduceLT, Int.reduceLE, Int.reduceAdd, Int.reduceSub, Int.reduceMul, Int.reduceNeg, Int.reduceMod, Int.reduceDiv, Int.reduceTMod, Int.reduceTDiv, Int.reduceToNat, okChain_i, okLoads_nil, okLoads_in, okLoads_eq]
  rw [D_eq p31 _ _ (Nat.le_of_ble_eq_true rfl)]
  simp (maxDischargeDepth := 8) only [r31, b31, c31_0, c31_1, l1, RUN, Ed, knd, kndR, resV, binInt, mnmxV, mnmx2, fillL, unV, extractV, partV, loadAt, Nat.reduceAdd, Nat.reduceBEq, Nat.reduceEqDiff, Nat.reduceLT, Nat.reduceLeDiff, Nat.reduceMul, Nat.reduceSub, reduceIte, Int.reduceEq, Int.reduceNe, Int.reduceLT, Int.reduceLE, Int.reduceAdd, Int.reduceSub, Int.reduceMul, Int.reduceNeg, Int.reduceMod, Int.reduceDiv, Int.reduceTMod, Int.reduceTDiv, Int.reduceToNat, okChain_i, okLoads_nil, okLoads_in, okLoads_eq]
  refine fin _ ?_ ?_ ?_ ?_
  all_goals first | (simp (maxDischargeDepth := 8) only [RUN, Ed, knd, kndR, resV, binInt, mnmxV, mnmx2, fillL, unV, lenV, extractV, partV, loadAt, Nat.reduceAdd, Nat.reduceBEq, Nat.reduceEqDiff, Nat.reduceLT, Nat.reduceLeDiff, Nat.reduceMul, Nat.reduceSub, reduceIte, Int.reduceEq, Int.reduceNe, Int.reduceLT, Int.reduceLE, Int.reduceAdd, Int.reduceSub, Int.reduceMul, Int.reduceNeg, Int.reduceMod, Int.reduceDiv, Int.reduceTMod, Int.reduceTDiv, Int.reduceToNat, okChain_i, okLoads_nil, okLoads_in, okLoads_eq]; done) | (simp (maxDischargeDepth := 8) only [RUN, Ed, knd, kndR, resV, binInt, mnmxV, mnmx2, fillL, unV, lenV, extractV, partV, loadAt, Nat.reduceAdd, Nat.reduceBEq, Nat.reduceEqDiff, Nat.reduceLT, Nat.reduceLeDiff, Nat.reduceMul, Nat.reduceSub, reduceIte, Int.reduceEq, Int.reduceNe, Int.reduceLT, Int.reduceLE, Int.reduceAdd, Int.reduceSub, Int.reduceMul, Int.reduceNeg, Int.reduceMod, Int.reduceDiv, Int.reduceTMod, Int.reduceTDiv, Int.reduceToNat, okChain_i, okLoads_nil, okLoads_in, okLoads_eq]; rfl)
end Go.Proofs.YtceildmghmigaaaDoor.Sim
