/- Writes upon a journal, and what comes of them. -/
import Derived.Test.YtdipdpkdmiokeaaDoorJo1
import Derived.Test.YtdipdpkdmiokeaaDoorSim21
namespace Go.Proofs.YtdipdpkdmiokeaaDoor.Sim
open Go Go.Proofs.YtdipdpkdmiokeaaDoor.CrcMath
set_option linter.unusedSimpArgs false
set_option linter.unusedVariables false
theorem clone_f (v : Value) (m : List B8) (hm : m.length ≤ 1000000) (H : Heap) (hB : BS H v (m.map w8)) : ∃ w F, D Tryd.prog hints 53 [v] H = some (w, F) ∧ Ext H F ∧ BO H F w m := by
  have q53 : D Tryd.prog hints 53 [v] H = done r53.res (E Tryd.prog hints r53.body (frame0 [v]) H) := D_eq p53 _ _ (Nat.le_of_ble_eq_true rfl)
  have hb0 : BO H (H ++ [some ⟨true, 5, []⟩]) (.slice (some ⟨H.length, 0, none⟩) 0 1) [] := .inr ⟨H.length, Nat.le_refl _, rfl, (live_app_len _ _).trans rfl, rfl⟩
  have hB' := hB
  rcases hB' with ⟨hA, e, rfl⟩ | ⟨i, o, e, ow, ty, cells, rfl, _, _, _⟩
  · have hm0 : m = [] := by simpa using hA
    subst hm0
    cases e with
    | zero =>
      refine ⟨.slice none 0 0, H, ?_, Ext.refl H, BO.nil _ _⟩
      rw [q53]
      simp (maxDischargeDepth := 8) only [r53, b53, c53_0, c53_1, c53_2, c53_3, RUN, Ed, knd, kndR, resV, binInt, mnmxV, mnmx2, fillL, unV, lenV, extractV, partV, loadAt, Nat.reduceAdd, Nat.reduceBEq, Nat.reduceEqDiff, Nat.reduceLT, Nat.reduceLeDiff, Nat.reduceMul, Nat.reduceSub, reduceIte, Int.reduceEq, Int.reduceNe, Int.reduceLT, Int.reduceLE, Int.reduceAdd, Int.reduceSub, Int.reduceMul, Int.reduceNeg, Int.reduceMod, Int.reduceDiv, Int.reduceTMod, Int.reduceTDiv, Int.reduceToNat, okChain_i, okLoads_nil, okLoads_in, okLoads_eq]
    | succ e =>
      obtain ⟨w', F', ea, hb, hF, _⟩ := hb0.app (Ext.more H _) (Ext.refl _) (k := []) (BS.nil _ (e + 1)) (by simp)
      refine ⟨w', F', ?_, hF, hb⟩
      rw [q53]
      simp (maxDischargeDepth := 8) only [r53, b53, c53_0, c53_1, c53_2, c53_3, fillL, ea, RUN, Ed, knd, kndR, resV, binInt, mnmxV, mnmx2, fillL, unV, lenV, extractV, partV, loadAt, Nat.reduceAdd, Nat.reduceBEq, Nat.reduceEqDiff, Nat.reduceLT, Nat.reduceLeDiff, Nat.reduceMul, Nat.reduceSub, reduceIte, Int.reduceEq, Int.reduceNe, Int.reduceLT, Int.reduceLE, Int.reduceAdd, Int.reduceSub, Int.reduceMul, Int.reduceNeg, Int.reduceMod, Int.reduceDiv, Int.reduceTMod, Int.reduceTDiv, Int.reduceToNat, okChain_i, okLoads_nil, okLoads_in, okLoads_eq]
  · obtain ⟨w', F', ea, hb, hF, _⟩ := hb0.app (Ext.more H _) (Ext.refl _) (hB.ext (Ext.more H _)) (by simp; omega)
    rw [List.nil_append] at hb
    refine ⟨w', F', ?_, hF, hb⟩
    rw [q53]
    simp (maxDischargeDepth := 8) only [r53, b53, c53_0, c53_1, c53_2, c53_3, fillL, ea, RUN, Ed, knd, kndR, resV, binInt, mnmxV, mnmx2, fillL, unV, lenV, extractV, partV, loadAt, Nat.reduceAdd, Nat.reduceBEq, Nat.reduceEqDiff, Nat.reduceLT, Nat.reduceLeDiff, Nat.reduceMul, Nat.reduceSub, reduceIte, Int.reduceEq, Int.reduceNe, Int.reduceLT, Int.reduceLE, Int.reduceAdd, Int.reduceSub, Int.reduceMul, Int.reduceNeg, Int.reduceMod, Int.reduceDiv, Int.reduceTMod, Int.reduceTDiv, Int.reduceToNat, okChain_i, okLoads_nil, okLoads_in, okLoads_eq]
/-- In place. -/
theorem BO.put {H G : Heap} {w : Value} {m : List B8} (h : BO H G w m) {i : Nat} (hi : i < m.length) (x : B8) : ∃ c, idxSV 1 w (.int .i64 (i : Nat)) = some (.pointer (some ⟨c, i, none⟩)) ∧ live G c = some ⟨true, 5, bL (m.map w8)⟩ ∧ H.length ≤ c ∧ i < (bL (m.map w8)).length ∧ (bL (m.map w8)).set i (.int .u8 (w8 x)) = bL ((m.set i x).map w8) ∧ BO H (G.set c (some ⟨true, 5, bL ((m.set i x).map w8)⟩)) w (m.set i x) := by
  rcases h with ⟨h1, _, _⟩ | ⟨c, h1, rfl, h3, h4⟩
  · omega
  · have ic := live_ltG h3
    have hx := idxS_s 1 c 0 m.length 1 .i64 (i : Int) (by omega) (by omega)
    rw [show 0 + ((i : Int)).toNat * 1 = i by omega] at hx
    refine ⟨c, hx, h3, h1, by rw [bL_len, List.length_map]; exact hi, by rw [bL_set, List.map_set], ?_⟩
    refine .inr ⟨c, h1, by rw [List.length_set], live_set_eq _ _ _ ic, ?_⟩
    rw [bL_len, List.length_map, Nat.mul_one]
abbrev Wr := Int × B8
def wC (l : List Wr) : List Value := (l.map fun p => [Value.int .i64 p.1, .int .u8 (w8 p.2)]).flatten
theorem wC_app (l k : List Wr) : wC (l ++ k) = wC l ++ wC k := by simp [wC]
theorem wC_len (l : List Wr) : (wC l).length = l.length * 2 := by
  unfold wC
  induction l with
  | nil => rfl
  | cons a l ih => simp [ih]; omega
theorem wC_one (l : List Wr) : (wC l).all Value.oneCell' = true := by
  unfold wC
  induction l with
  | nil => rfl
  | cons a l ih => simp [ih]; exact ⟨rfl, rfl⟩
theorem wC_get : ∀ (l : List Wr) (j : Nat) (p : Wr), l[j]? = some p → j * 2 + 2 ≤ (wC l).length ∧ ((wC l).drop (j * 2)).take 2 = [Value.int .i64 p.1, .int .u8 (w8 p.2)] := by
  intro l
  induction l with
  | nil => intro j p h; simp at h
  | cons a l ih =>
    intro j p h
    have hc : wC (a :: l) = [Value.int .i64 a.1, .int .u8 (w8 a.2)] ++ wC l := by simp [wC]
    cases j with
    | zero =>
      rw [List.getElem?_cons_zero] at h
      injection h with h
      subst h
      rw [hc]
      exact ⟨by simp, rfl⟩
    | succ j =>
      rw [List.getElem?_cons_succ] at h
      obtain ⟨h1, h2⟩ := ih j p h
      rw [hc]
      refine ⟨by simp; omega, ?_⟩
      rw [show (j + 1) * 2 = 2 + j * 2 by omega, ← List.drop_drop]
      exact h2
/-- A slice of writes. -/
def WS (H : Heap) (v : Value) (l : List Wr) : Prop := (l = [] ∧ ∃ e, v = .slice none 0 e) ∨ ∃ i e ow ty cells, v = .slice (some ⟨i, 0, none⟩) l.length e ∧ live H i = some ⟨ow, ty, cells⟩ ∧ ∀ (j : Nat) (p : Wr), l[j]? = some p → j * 2 + 2 ≤ cells.length ∧ (cells.drop (j * 2)).take 2 = [Value.int .i64 p.1, .int .u8 (w8 p.2)]
theorem WS.ext {H G : Heap} {v : Value} {l : List Wr} (h : WS H v l) (e : Ext H G) : WS G v l := by
  rcases h with h | ⟨i, e', ow, ty, cells, h1, h2, h3⟩
  · exact .inl h
  · exact .inr ⟨i, e', ow, ty, cells, h1, e.live h2, h3⟩
theorem WS.len {H : Heap} {v : Value} {l : List Wr} (h : WS H v l) : lenV false v = some (.int .i64 l.length) := by
  rcases h with ⟨rfl, e, rfl⟩ | ⟨i, e, ow, ty, cells, rfl, _, _⟩ <;> rfl
theorem WS.idx {H : Heap} {v : Value} {l : List Wr} (h : WS H v l) {j : Nat} {p : Wr} (hp : l[j]? = some p) : ∃ i, idxSV 2 v (.int .i64 j) = some (.pointer (some ⟨i, j * 2, none⟩)) ∧ ∃ ow ty cells, live H i = some ⟨ow, ty, cells⟩ ∧ j * 2 + 2 ≤ cells.length ∧ (cells.drop (j * 2)).take 2 = [Value.int .i64 p.1, .int .u8 (w8 p.2)] ∧ cells[j * 2]? = some (.int .i64 p.1) ∧ cells[j * 2 + 1]? = some (.int .u8 (w8 p.2)) := by
  have hj : j < l.length := by
    rcases Nat.lt_or_ge j l.length with q | q
    · exact q
    · rw [List.getElem?_eq_none q] at hp; cases hp
  rcases h with ⟨rfl, e, rfl⟩ | ⟨i, e, ow, ty, cells, rfl, h2, h3⟩
  · simp at hj
  · obtain ⟨g1, g2⟩ := h3 j p hp
    have a1 : (List.take 2 (List.drop (j * 2) cells))[0]? = some (.int .i64 p.1) := by rw [g2]; rfl
    have a2 : (List.take 2 (List.drop (j * 2) cells))[1]? = some (.int .u8 (w8 p.2)) := by rw [g2]; rfl
    rw [List.getElem?_take, if_pos (by omega), List.getElem?_drop] at a1 a2
    refine ⟨i, ?_, ow, ty, cells, h2, g1, g2, by simpa using a1, a2⟩
    rw [idxS_s _ _ _ _ _ _ _ (by omega) (by omega)]
    simp
theorem WS.cut {H : Heap} {v : Value} {l : List Wr} (h : WS H v l) (k : Nat) (hk : k ≤ l.length) : ∃ u, sliceV 2 v none (some (.int .i64 (k : Int))) = some u ∧ WS H u (l.take k) := by
  rcases h with ⟨rfl, e, rfl⟩ | ⟨i, e, ow, ty, cells, rfl, h2, h3⟩
  · have hk0 : k = 0 := by simpa using hk
    subst hk0
    refine ⟨.slice none 0 e, ?_, .inl ⟨rfl, e, rfl⟩⟩
    cases e <;> rfl
  · refine ⟨.slice (some ⟨i, 0, none⟩) k e, ?_, .inr ⟨i, e, ow, ty, cells, by rw [List.length_take, Nat.min_eq_left hk], h2, fun j p hp => ?_⟩⟩
    · have hb : boundV l.length (some (.int .i64 (k : Int))) = some k := bound_nat _ _ _
      show ((boundV 0 none).bind fun l' => (boundV l.length (some (.int .i64 (k : Int)))).bind fun h' => _) = _
      rw [hb]
      show (if k ≤ l.length ∧ (0 < k ∨ 0 = 0 ∧ 0 ≤ k) then some (Value.slice (some ⟨i, 0 + 0 * 2, none⟩) (k - 0) e) else _) = _
      rw [if_pos ⟨hk, .inr ⟨rfl, Nat.zero_le _⟩⟩]
      rfl
    · rw [List.getElem?_take] at hp
      split at hp
      · exact h3 j p hp
      · cases hp
/-- One write. -/
def st (m : List B8) (p : Wr) : List B8 := if 0 ≤ p.1 ∧ p.1 < m.length then m.set p.1.toNat p.2 else m
theorem st_len (m : List B8) (p : Wr) : (st m p).length = m.length := by
  unfold st
  split
  · rw [List.length_set]
  · rfl
def ap (m : List B8) (l : List Wr) : List B8 := l.foldl st m
theorem ap_len (l : List Wr) : ∀ m, (ap m l).length = m.length := by
  induction l with
  | nil => intro m; rfl
  | cons a l ih => intro m; show (ap (st m a) l).length = _; rw [ih, st_len]
theorem ap_app (m : List B8) (l k : List Wr) : ap m (l ++ k) = ap (ap m l) k := by unfold ap; rw [List.foldl_append]
theorem step35 (H : Heap) (w u : Value) (m : List B8) (hm : m.length ≤ 1000000) (l : List Wr) (hl : l.length ≤ 1000000) (j : Nat) (p : Wr) (hp : l[j]? = some p) (G : Heap) (hG : Ext H G) (hu : WS H u l) (hb : BO H G w m) (ρ : Fr) (q7 : ρ 7 = w) (q18 : ρ 18 = u) (q19 : ρ 19 = .int .i64 l.length) (q20 : ρ 20 = .int .i64 j) :
    ∃ ρ' F, E Tryd.prog hints l35_0 ρ G = some (.normal, ρ', F) ∧ ρ' 20 = .int .i64 (j + 1 : Nat) ∧ Ext H F ∧ BO H F w (st m p) := by
  obtain ⟨i, x1, ow, ty, cells, x2, x3, x4, _, _⟩ := (hu.ext hG).idx hp
  have i2 := live_ltG x2
  have hj : j < l.length := by
    rcases Nat.lt_or_ge j l.length with q | q
    · exact q
    · rw [List.getElem?_eq_none q] at hp; cases hp
  have hlt : (j : Int) < (l.length : Int) := by omega
  have wj := wrap64 ((j : Int) + 1) (by omega) (by omega)
  obtain ⟨a, b⟩ := p
  simp only at x4
  obtain ⟨G1, hG1⟩ : ∃ G1, G1 = G ++ [some ⟨true, 59, [.int .i64 a, .int .u8 (w8 b)]⟩] := ⟨_, rfl⟩
  have y1 : Ext G G1 := ⟨_, hG1⟩
  have k1 : live G1 G.length = some ⟨true, 59, [.int .i64 a, .int .u8 (w8 b)]⟩ := by rw [hG1]; exact (live_app_len _ _).trans rfl
  have i1 := live_ltG k1
  have lw := hb.len
  have hb1 := hb.ext y1
  by_cases c1 : 0 ≤ a
  · by_cases c2 : a < m.length
    · have hst : st m (a, b) = m.set a.toNat b := if_pos ⟨c1, c2⟩
      rw [hst]
      obtain ⟨k, rfl⟩ : ∃ k : Nat, a = k := ⟨a.toNat, by omega⟩
      rw [Int.toNat_natCast]
      obtain ⟨c, z1, z2, z3, z4, z5, z6⟩ := hb1.put (i := k) (by omega) b
      have i3 := live_ltG z2
      refine ⟨?ρ1, _, ?run1, ?_, (hG.trans y1).set z3 _, z6⟩
      case run1 =>
        simp (maxDischargeDepth := 8) only [l35_0, c35_0, c35_1, c35_2, c35_3, c35_4, c35_5, c35_6, c35_7, c35_8, q7, q18, q19, q20, hlt, wj, x1, x2, x3, x4, i2, ← hG1, k1, i1, lw, c1, c2, z1, z2, z4, z5, i3, RUN, Ed, knd, kndR, resV, binInt, mnmxV, mnmx2, fillL, unV, extractV, partV, loadAt, Nat.reduceAdd, Nat.reduceBEq, Nat.reduceEqDiff, Nat.reduceLT, Nat.reduceLeDiff, Nat.reduceMul, Nat.reduceSub, reduceIte, Int.reduceEq, Int.reduceNe, Int.reduceLT, Int.reduceLE, Int.reduceAdd, Int.reduceSub, Int.reduceMul, Int.reduceNeg, Int.reduceMod, Int.reduceDiv, Int.reduceTMod, Int.reduceTDiv, Int.reduceToNat, okChain_i, okLoads_nil, okLoads_in, okLoads_eq]
        rfl
      simp (maxDischargeDepth := 8) only [RUN, Ed, knd, kndR, resV, binInt, mnmxV, mnmx2, fillL, unV, lenV, extractV, partV, loadAt, Nat.reduceAdd, Nat.reduceBEq, Nat.reduceEqDiff, Nat.reduceLT, Nat.reduceLeDiff, Nat.reduceMul, Nat.reduceSub, reduceIte, Int.reduceEq, Int.reduceNe, Int.reduceLT, Int.reduceLE, Int.reduceAdd, Int.reduceSub, Int.reduceMul, Int.reduceNeg, Int.reduceMod, Int.reduceDiv, Int.reduceTMod, Int.reduceTDiv, Int.reduceToNat, okChain_i, okLoads_nil, okLoads_in, okLoads_eq]; rfl
    · have hst : st m (a, b) = m := if_neg (fun h => c2 h.2)
      rw [hst]
      refine ⟨?ρ2, G1, ?run2, ?_, hG.trans y1, hb1⟩
      case run2 =>
        simp (maxDischargeDepth := 8) only [l35_0, c35_0, c35_1, c35_2, c35_3, c35_4, c35_5, c35_6, c35_7, c35_8, q7, q18, q19, q20, hlt, wj, x1, x2, x3, x4, i2, ← hG1, k1, i1, lw, c1, c2, RUN, Ed, knd, kndR, resV, binInt, mnmxV, mnmx2, fillL, unV, extractV, partV, loadAt, Nat.reduceAdd, Nat.reduceBEq, Nat.reduceEqDiff, Nat.reduceLT, Nat.reduceLeDiff, Nat.reduceMul, Nat.reduceSub, reduceIte, Int.reduceEq, Int.reduceNe, Int.reduceLT, Int.reduceLE, Int.reduceAdd, Int.reduceSub, Int.reduceMul, Int.reduceNeg, Int.reduceMod, Int.reduceDiv, Int.reduceTMod, Int.reduceTDiv, Int.reduceToNat, okChain_i, okLoads_nil, okLoads_in, okLoads_eq]
        rfl
      simp (maxDischargeDepth := 8) only [RUN, Ed, knd, kndR, resV, binInt, mnmxV, mnmx2, fillL, unV, lenV, extractV, partV, loadAt, Nat.reduceAdd, Nat.reduceBEq, Nat.reduceEqDiff, Nat.reduceLT, Nat.reduceLeDiff, Nat.reduceMul, Nat.reduceSub, reduceIte, Int.reduceEq, Int.reduceNe, Int.reduceLT, Int.reduceLE, Int.reduceAdd, Int.reduceSub, Int.reduceMul, Int.reduceNeg, Int.reduceMod, Int.reduceDiv, Int.reduceTMod, Int.reduceTDiv, Int.reduceToNat, okChain_i, okLoads_nil, okLoads_in, okLoads_eq]; rfl
  · have hst : st m (a, b) = m := if_neg (fun h => c1 h.1)
    rw [hst]
    refine ⟨?ρ3, G1, ?run3, ?_, hG.trans y1, hb1⟩
    case run3 =>
      simp (maxDischargeDepth := 8) only [l35_0, c35_0, c35_1, c35_2, c35_3, c35_4, c35_5, c35_6, c35_7, c35_8, q7, q18, q19, q20, hlt, wj, x1, x2, x3, x4, i2, ← hG1, k1, i1, lw, c1, RUN, Ed, knd, kndR, resV, binInt, mnmxV, mnmx2, fillL, unV, extractV, partV, loadAt, Nat.reduceAdd, Nat.reduceBEq, Nat.reduceEqDiff, Nat.reduceLT, Nat.reduceLeDiff, Nat.reduceMul, Nat.reduceSub, reduceIte, Int.reduceEq, Int.reduceNe, Int.reduceLT, Int.reduceLE, Int.reduceAdd, Int.reduceSub, Int.reduceMul, Int.reduceNeg, Int.reduceMod, Int.reduceDiv, Int.reduceTMod, Int.reduceTDiv, Int.reduceToNat, okChain_i, okLoads_nil, okLoads_in, okLoads_eq]
      rfl
    simp (maxDischargeDepth := 8) only [RUN, Ed, knd, kndR, resV, binInt, mnmxV, mnmx2, fillL, unV, lenV, extractV, partV, loadAt, Nat.reduceAdd, Nat.reduceBEq, Nat.reduceEqDiff, Nat.reduceLT, Nat.reduceLeDiff, Nat.reduceMul, Nat.reduceSub, reduceIte, Int.reduceEq, Int.reduceNe, Int.reduceLT, Int.reduceLE, Int.reduceAdd, Int.reduceSub, Int.reduceMul, Int.reduceNeg, Int.reduceMod, Int.reduceDiv, Int.reduceTMod, Int.reduceTDiv, Int.reduceToNat, okChain_i, okLoads_nil, okLoads_in, okLoads_eq]; rfl
theorem apply_f (v ws : Value) (m : List B8) (hm : m.length ≤ 1000000) (l : List Wr) (hl : l.length ≤ 1000000) (n : Int) (H : Heap) (hB : BS H v (m.map w8)) (hW : WS H ws l) : ∃ w F, D Tryd.prog hints 35 [v, ws, .int .i64 n] H = some (w, F) ∧ Ext H F ∧ BO H F w (ap m (l.take n.toNat)) := by
  obtain ⟨w, F, e1, yF, hb⟩ := clone_f v m hm H hB
  have lw := hW.len
  obtain ⟨k, hk⟩ : ∃ k, k = min n.toNat l.length := ⟨_, rfl⟩
  obtain ⟨u, es, hu⟩ := hW.cut k (by omega)
  have htk : l.take n.toNat = l.take k := by
    rw [hk]
    rcases Nat.le_total n.toNat l.length with h | h
    · rw [Nat.min_eq_left h]
    · rw [Nat.min_eq_right h, List.take_of_length_le h, List.take_length]
  rw [htk]
  have hlk : (l.take k).length = k := by rw [List.length_take]; omega
  have lu := hu.len
  have hmx : (if n < 0 then (0 : Int) else n) = ((n.toNat : Nat) : Int) := by split <;> omega
  have hmn : (if (l.length : Int) < ((n.toNat : Nat) : Int) then (l.length : Int) else ((n.toNat : Nat) : Int)) = ((k : Nat) : Int) := by split <;> omega
  generalize l.take k = L at *
  have key : ∀ ρ0, ρ0 7 = w → ρ0 18 = u → ρ0 19 = .int .i64 L.length → ρ0 20 = .int .i64 (0 : Nat) → ∃ F', done [.tmp 6] (andThen (blk 0 (E Tryd.prog hints (.loop l35_0) ρ0 F)) (E Tryd.prog hints (.seq (.region c35_8) .ret))) = some (w, F') ∧ Ext H F' ∧ BO H F' w (ap m L) := by
    intro ρ0 q7 q18 q19 q20
    obtain ⟨ρ', G', e, hf, hE', hb'⟩ := loop_keep (P := Tryd.prog) (hs := hints) (b := l35_0) (id := 0) ρ0 (fun j ρ G => ρ 20 = .int .i64 j ∧ Ext H G ∧ BO H G w (ap m (L.take j))) (fun ρ G => Ext H G ∧ BO H G w (ap m L)) L.length
      (by
        rintro j ρ G hj hf ⟨r20, hG, hbj⟩
        have hp : L[j]? = some L[j] := List.getElem?_eq_getElem hj
        obtain ⟨ρ', F', e, s20, hF', hb'⟩ := step35 H w u (ap m (L.take j)) (by rw [ap_len]; exact hm) L (by omega) j _ hp G hG hu hbj ρ ((hf 7 rfl).trans q7) ((hf 18 rfl).trans q18) ((hf 19 rfl).trans q19) r20
        refine ⟨ρ', F', e, s20, hF', ?_⟩
        rw [take_getG L j _ hp, ap_app]
        exact hb')
      (by
        rintro ρ G hf ⟨r20, hG, hbj⟩
        rw [List.take_length] at hbj
        have r19 := (hf 19 rfl).trans q19
        have hlt : ¬ (L.length : Int) < (L.length : Int) := by omega
        refine ⟨?ρ2, G, ?run2, hG, hbj⟩
        case run2 =>
          simp (maxDischargeDepth := 8) only [l35_0, c35_3, r19, r20, hlt, RUN, Ed, knd, kndR, resV, binInt, mnmxV, mnmx2, fillL, unV, lenV, extractV, partV, loadAt, Nat.reduceAdd, Nat.reduceBEq, Nat.reduceEqDiff, Nat.reduceLT, Nat.reduceLeDiff, Nat.reduceMul, Nat.reduceSub, reduceIte, Int.reduceEq, Int.reduceNe, Int.reduceLT, Int.reduceLE, Int.reduceAdd, Int.reduceSub, Int.reduceMul, Int.reduceNeg, Int.reduceMod, Int.reduceDiv, Int.reduceTMod, Int.reduceTDiv, Int.reduceToNat, okChain_i, okLoads_nil, okLoads_in, okLoads_eq]
          rfl)
      F ⟨q20, yF, hb⟩
    have r7 := (hf 7 rfl).trans q7
    refine ⟨G', ?_, hE', hb'⟩
    rw [e]
    simp (maxDischargeDepth := 8) only [c35_8, r7, RUN, Ed, knd, kndR, resV, binInt, mnmxV, mnmx2, fillL, unV, lenV, extractV, partV, loadAt, Nat.reduceAdd, Nat.reduceBEq, Nat.reduceEqDiff, Nat.reduceLT, Nat.reduceLeDiff, Nat.reduceMul, Nat.reduceSub, reduceIte, Int.reduceEq, Int.reduceNe, Int.reduceLT, Int.reduceLE, Int.reduceAdd, Int.reduceSub, Int.reduceMul, Int.reduceNeg, Int.reduceMod, Int.reduceDiv, Int.reduceTMod, Int.reduceTDiv, Int.reduceToNat, okChain_i, okLoads_nil, okLoads_in, okLoads_eq]
  have fin : ∀ V, (∃ F', V = some (w, F') ∧ Ext H F' ∧ BO H F' w (ap m L)) → ∃ w F', V = some (w, F') ∧ Ext H F' ∧ BO H F' w (ap m L) := fun V ⟨F', h⟩ => ⟨w, F', h⟩
  rw [D_eq p35 _ _ (Nat.le_of_ble_eq_true rfl)]
  apply fin
  simp (maxDischargeDepth := 8) only [r35, b35, c35_0, c35_1, c35_2, e1, lw, hmx, hmn, es, lu, RUN, Ed, knd, kndR, resV, binInt, mnmxV, mnmx2, fillL, unV, extractV, partV, loadAt, Nat.reduceAdd, Nat.reduceBEq, Nat.reduceEqDiff, Nat.reduceLT, Nat.reduceLeDiff, Nat.reduceMul, Nat.reduceSub, reduceIte, Int.reduceEq, Int.reduceNe, Int.reduceLT, Int.reduceLE, Int.reduceAdd, Int.reduceSub, Int.reduceMul, Int.reduceNeg, Int.reduceMod, Int.reduceDiv, Int.reduceTMod, Int.reduceTDiv, Int.reduceToNat, okChain_i, okLoads_nil, okLoads_in, okLoads_eq]
  refine key _ ?_ ?_ ?_ ?_
  all_goals first | (simp (maxDischargeDepth := 8) only [RUN, Ed, knd, kndR, resV, binInt, mnmxV, mnmx2, fillL, unV, lenV, extractV, partV, loadAt, Nat.reduceAdd, Nat.reduceBEq, Nat.reduceEqDiff, Nat.reduceLT, Nat.reduceLeDiff, Nat.reduceMul, Nat.reduceSub, reduceIte, Int.reduceEq, Int.reduceNe, Int.reduceLT, Int.reduceLE, Int.reduceAdd, Int.reduceSub, Int.reduceMul, Int.reduceNeg, Int.reduceMod, Int.reduceDiv, Int.reduceTMod, Int.reduceTDiv, Int.reduceToNat, okChain_i, okLoads_nil, okLoads_in, okLoads_eq]; done) | (simp (maxDischargeDepth := 8) only [RUN, Ed, knd, kndR, resV, binInt, mnmxV, mnmx2, fillL, unV, lenV, extractV, partV, loadAt, Nat.reduceAdd, Nat.reduceBEq, Nat.reduceEqDiff, Nat.reduceLT, Nat.reduceLeDiff, Nat.reduceMul, Nat.reduceSub, reduceIte, Int.reduceEq, Int.reduceNe, Int.reduceLT, Int.reduceLE, Int.reduceAdd, Int.reduceSub, Int.reduceMul, Int.reduceNeg, Int.reduceMod, Int.reduceDiv, Int.reduceTMod, Int.reduceTDiv, Int.reduceToNat, okChain_i, okLoads_nil, okLoads_in, okLoads_eq]; rfl)
end Go.Proofs.YtdipdpkdmiokeaaDoor.Sim
