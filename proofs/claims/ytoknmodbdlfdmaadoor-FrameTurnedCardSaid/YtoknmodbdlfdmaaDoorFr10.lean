/- The laws of chapter 6: frames one behind the other. -/
import Derived.Test.YtoknmodbdlfdmaaDoorFr9
import Derived.Test.YtoknmodbdlfdmaaDoorSim21
namespace Go.Proofs.YtoknmodbdlfdmaaDoor.Sim
open Go Go.Proofs.YtoknmodbdlfdmaaDoor.CrcMath
set_option linter.unusedSimpArgs false
set_option linter.unusedVariables false
/-- Bytes that are these frames, and so many others, whatever comes behind them. -/
def Clean (X : List B8) (L : List Fra) (p : Nat) : Prop := ∀ r, splitP (X ++ r) = (L ++ (splitP r).1, p + (splitP r).2)
theorem Clean.nil : Clean [] [] 0 := fun r => by simp
theorem Clean.gap {X : List B8} {L : List Fra} {p : Nat} (h : Clean X L p) {x : B8} (hx : x ≠ 0x7e#8) : Clean (X ++ [x]) L (p + 1) := fun r => by
  rw [List.append_assoc, h, splitP_gap [x] r (by simp [hx])]
  simp; omega
theorem Clean.frame {X : List B8} {L : List Fra} {p : Nat} (h : Clean X L p) {f : Fra} (hf : f.2.2.length ≤ 32) : Clean (X ++ frB f) (L ++ [f]) p := fun r => by
  rw [List.append_assoc, h, splitP_frame f r hf]
  simp
theorem Clean.end_ {X : List B8} {L : List Fra} {p : Nat} (h : Clean X L p) : splitP X = (L, p) := by
  have := h []
  rw [List.append_nil, splitP_nil] at this
  simpa using this
structure S4 (v u w : Value) (p i : Nat) (ρ : Fr) : Prop where
  q0 : ρ 0 = v
  q1 : ρ 1 = u
  q5 : ρ 5 = .bool true
  q6 : ρ 6 = w
  q7 : ρ 7 = .int .i64 p
  q8 : ρ 8 = .int .i64 i
def M4 (H G : Heap) (w : Value) (X : List B8) (L : List Fra) (p b : Nat) : Prop := Ext H G ∧ BO H G w X ∧ Clean X L p ∧ X.length ≤ b ∧ p ≤ b
theorem gap4 (H : Heap) (v u : Value) (L0 : List Fra) (m : List B8) (hA : FS H v L0) (hB : BS H u (m.map w8)) (hm : m.length ≤ 40) (hn : L0.length ≤ 8) (hn0 : 0 < L0.length) (L : List Fra) (i b : Nat) (hb : b ≤ 5000) :
    ∀ (d k : Nat), (m.length ≤ k + d) → k ≤ m.length + 8 → ∀ (w : Value) (X : List B8) (p : Nat) (ρ : Fr) (G : Heap), S4 v u w p i ρ → ρ 9 = .int .i64 k → M4 H G w X L p (b + min k m.length) →
      ∃ ρ' G' w' X' p', E Tryd.prog hints (.loop l4_0) ρ G = some (.exit 2, ρ', G') ∧ S4 v u w' p' i ρ' ∧ M4 H G' w' X' L p' (b + m.length) := by
  have lastc : ∀ (k : Nat), m.length ≤ k → ∀ (w : Value) (X : List B8) (p : Nat) (ρ : Fr) (G : Heap), S4 v u w p i ρ → ρ 9 = .int .i64 k → M4 H G w X L p (b + min k m.length) →
      ∃ ρ' G' w' X' p', E Tryd.prog hints (.loop l4_0) ρ G = some (.exit 2, ρ', G') ∧ S4 v u w' p' i ρ' ∧ M4 H G' w' X' L p' (b + m.length) := by
    rintro k hk w X p ρ G ⟨q0, q1, q5, q6, q7, q8⟩ q9 ⟨hE, hbo, hcl, hX, hp⟩
    have l1 := (hB.ext hE).len
    rw [List.length_map] at l1
    have hlt : ¬ (k : Int) < (m.length : Int) := by omega
    refine ⟨?ρ1, G, w, X, p, ?run1, ⟨?_, ?_, ?_, ?_, ?_, ?_⟩, hE, hbo, hcl, by omega, by omega⟩
    case run1 =>
      rw [El]
      simp (maxDischargeDepth := 8) only [l4_0, c4_13, q1, q9, l1, hlt, RUN, Ed, knd, kndR, resV, binInt, mnmxV, mnmx2, fillL, unV, extractV, partV, loadAt, Nat.reduceAdd, Nat.reduceBEq, Nat.reduceEqDiff, Nat.reduceLT, Nat.reduceLeDiff, Nat.reduceMul, Nat.reduceSub, reduceIte, Int.reduceEq, Int.reduceNe, Int.reduceLT, Int.reduceLE, Int.reduceAdd, Int.reduceSub, Int.reduceMul, Int.reduceNeg, Int.reduceMod, Int.reduceDiv, Int.reduceTMod, Int.reduceTDiv, Int.reduceToNat, okChain_i, okLoads_nil, okLoads_in, okLoads_eq]
      rfl
    all_goals simp (maxDischargeDepth := 8) only [q0, q1, q5, q6, q7, q8, RUN, Ed, knd, kndR, resV, binInt, mnmxV, mnmx2, fillL, unV, lenV, extractV, partV, loadAt, Nat.reduceAdd, Nat.reduceBEq, Nat.reduceEqDiff, Nat.reduceLT, Nat.reduceLeDiff, Nat.reduceMul, Nat.reduceSub, reduceIte, Int.reduceEq, Int.reduceNe, Int.reduceLT, Int.reduceLE, Int.reduceAdd, Int.reduceSub, Int.reduceMul, Int.reduceNeg, Int.reduceMod, Int.reduceDiv, Int.reduceTMod, Int.reduceTDiv, Int.reduceToNat, okChain_i, okLoads_nil, okLoads_in, okLoads_eq]
  intro d
  induction d with
  | zero => intro k hk _; exact lastc k (by omega)
  | succ d ih =>
    intro k hk hk2
    by_cases hkm : m.length ≤ k
    · exact lastc k hkm
    rintro w X p ρ G ⟨q0, q1, q5, q6, q7, q8⟩ q9 ⟨hE, hbo, hcl, hX, hp⟩
    have hBG := hB.ext hE
    have hAG := hA.ext hE
    have l1 := hBG.len
    rw [List.length_map] at l1
    have l2 := hAG.len
    have hlt : (k : Int) < (m.length : Int) := by omega
    obtain ⟨a, o, x1, ow, ty, cs, x2, x3⟩ := hBG.idx (map_get (ix_get (m := m) (i := k) (by omega)))
    have i1 := live_ltG x2
    have wk : IntKind.i64.wrap ((k : Int) + (L0.length : Int)) = ((k + L0.length : Nat) : Int) := by rw [wrap64 _ (by omega) (by omega)]; omega
    have wp := wrap64 ((p : Int) + 1) (by omega) (by omega)
    by_cases hx : ix m k = 0x7e#8
    · have hd : decide (w8 (ix m k) = 126) = true := by rw [e_mark]; simpa using hx
      have e1 : ∃ ρ', E Tryd.prog hints l4_0 ρ G = some (.normal, ρ', G) ∧ S4 v u w p i ρ' ∧ ρ' 9 = .int .i64 (k + L0.length : Nat) := by
        refine ⟨?ρ2, ?run2, ⟨?_, ?_, ?_, ?_, ?_, ?_⟩, ?_⟩
        case run2 =>
          simp (maxDischargeDepth := 8) only [l4_0, c4_0, c4_1, c4_2, c4_3, c4_4, c4_5, c4_6, c4_7, c4_8, c4_9, c4_10, c4_11, c4_12, c4_13, c4_14, c4_15, c4_16, c4_17, c4_18, c4_19, c4_20, c4_21, c4_22, c4_23, c4_24, q0, q1, q9, l1, l2, hlt, x1, x2, x3, i1, hd, wk, RUN, Ed, knd, kndR, resV, binInt, mnmxV, mnmx2, fillL, unV, extractV, partV, loadAt, Nat.reduceAdd, Nat.reduceBEq, Nat.reduceEqDiff, Nat.reduceLT, Nat.reduceLeDiff, Nat.reduceMul, Nat.reduceSub, reduceIte, Int.reduceEq, Int.reduceNe, Int.reduceLT, Int.reduceLE, Int.reduceAdd, Int.reduceSub, Int.reduceMul, Int.reduceNeg, Int.reduceMod, Int.reduceDiv, Int.reduceTMod, Int.reduceTDiv, Int.reduceToNat, okChain_i, okLoads_nil, okLoads_in, okLoads_eq]
          rfl
        all_goals first | (simp (maxDischargeDepth := 8) only [q0, q1, q5, q6, q7, q8, RUN, Ed, knd, kndR, resV, binInt, mnmxV, mnmx2, fillL, unV, lenV, extractV, partV, loadAt, Nat.reduceAdd, Nat.reduceBEq, Nat.reduceEqDiff, Nat.reduceLT, Nat.reduceLeDiff, Nat.reduceMul, Nat.reduceSub, reduceIte, Int.reduceEq, Int.reduceNe, Int.reduceLT, Int.reduceLE, Int.reduceAdd, Int.reduceSub, Int.reduceMul, Int.reduceNeg, Int.reduceMod, Int.reduceDiv, Int.reduceTMod, Int.reduceTDiv, Int.reduceToNat, okChain_i, okLoads_nil, okLoads_in, okLoads_eq]; done) | (simp (maxDischargeDepth := 8) only [q0, q1, q5, q6, q7, q8, RUN, Ed, knd, kndR, resV, binInt, mnmxV, mnmx2, fillL, unV, lenV, extractV, partV, loadAt, Nat.reduceAdd, Nat.reduceBEq, Nat.reduceEqDiff, Nat.reduceLT, Nat.reduceLeDiff, Nat.reduceMul, Nat.reduceSub, reduceIte, Int.reduceEq, Int.reduceNe, Int.reduceLT, Int.reduceLE, Int.reduceAdd, Int.reduceSub, Int.reduceMul, Int.reduceNeg, Int.reduceMod, Int.reduceDiv, Int.reduceTMod, Int.reduceTDiv, Int.reduceToNat, okChain_i, okLoads_nil, okLoads_in, okLoads_eq]; rfl)
      obtain ⟨ρ', e1, hs', q9'⟩ := e1
      rw [El, e1, andThen_n]
      by_cases hkk : k + L0.length ≤ m.length + 8
      · exact ih (k + L0.length) (by omega) hkk w X p ρ' G hs' q9' ⟨hE, hbo, hcl, by omega, by omega⟩
      · exact lastc (k + L0.length) (by omega) w X p ρ' G hs' q9' ⟨hE, hbo, hcl, by omega, by omega⟩
    · have hd : decide (w8 (ix m k) = 126) = false := by rw [e_mark]; simpa using hx
      have hxs : BS (G ++ [some ⟨true, 5, bL [w8 (ix m k)]⟩]) (.slice (some ⟨G.length, 0, none⟩) 1 1) ([ix m k].map w8) := BS.of (A := [w8 (ix m k)]) ((live_app_len _ _).trans rfl)
      obtain ⟨w', F', ea, hb', hE', _⟩ := hbo.app hE (Ext.more G _) hxs (by simp; omega)
      simp only [bL, List.map_cons, List.map_nil] at ea
      have e1 : ∃ ρ', E Tryd.prog hints l4_0 ρ G = some (.normal, ρ', F') ∧ S4 v u w' (p + 1) i ρ' ∧ ρ' 9 = .int .i64 (k + L0.length : Nat) := by
        refine ⟨?ρ3, ?run3, ⟨?_, ?_, ?_, ?_, ?_, ?_⟩, ?_⟩
        case run3 =>
          simp (maxDischargeDepth := 8) only [l4_0, c4_0, c4_1, c4_2, c4_3, c4_4, c4_5, c4_6, c4_7, c4_8, c4_9, c4_10, c4_11, c4_12, c4_13, c4_14, c4_15, c4_16, c4_17, c4_18, c4_19, c4_20, c4_21, c4_22, c4_23, c4_24, q0, q1, q6, q7, q9, l1, l2, hlt, x1, x2, x3, i1, hd, wk, wp, ea, RUN, Ed, knd, kndR, resV, binInt, mnmxV, mnmx2, fillL, unV, extractV, partV, loadAt, Nat.reduceAdd, Nat.reduceBEq, Nat.reduceEqDiff, Nat.reduceLT, Nat.reduceLeDiff, Nat.reduceMul, Nat.reduceSub, reduceIte, Int.reduceEq, Int.reduceNe, Int.reduceLT, Int.reduceLE, Int.reduceAdd, Int.reduceSub, Int.reduceMul, Int.reduceNeg, Int.reduceMod, Int.reduceDiv, Int.reduceTMod, Int.reduceTDiv, Int.reduceToNat, okChain_i, okLoads_nil, okLoads_in, okLoads_eq]
          rfl
        all_goals first | (simp (maxDischargeDepth := 8) only [q0, q1, q5, q6, q7, q8, RUN, Ed, knd, kndR, resV, binInt, mnmxV, mnmx2, fillL, unV, lenV, extractV, partV, loadAt, Nat.reduceAdd, Nat.reduceBEq, Nat.reduceEqDiff, Nat.reduceLT, Nat.reduceLeDiff, Nat.reduceMul, Nat.reduceSub, reduceIte, Int.reduceEq, Int.reduceNe, Int.reduceLT, Int.reduceLE, Int.reduceAdd, Int.reduceSub, Int.reduceMul, Int.reduceNeg, Int.reduceMod, Int.reduceDiv, Int.reduceTMod, Int.reduceTDiv, Int.reduceToNat, okChain_i, okLoads_nil, okLoads_in, okLoads_eq]; done) | (simp (maxDischargeDepth := 8) only [q0, q1, q5, q6, q7, q8, RUN, Ed, knd, kndR, resV, binInt, mnmxV, mnmx2, fillL, unV, lenV, extractV, partV, loadAt, Nat.reduceAdd, Nat.reduceBEq, Nat.reduceEqDiff, Nat.reduceLT, Nat.reduceLeDiff, Nat.reduceMul, Nat.reduceSub, reduceIte, Int.reduceEq, Int.reduceNe, Int.reduceLT, Int.reduceLE, Int.reduceAdd, Int.reduceSub, Int.reduceMul, Int.reduceNeg, Int.reduceMod, Int.reduceDiv, Int.reduceTMod, Int.reduceTDiv, Int.reduceToNat, okChain_i, okLoads_nil, okLoads_in, okLoads_eq]; rfl)
      obtain ⟨ρ', e1, hs', q9'⟩ := e1
      rw [El, e1, andThen_n]
      have hm' : M4 H F' w' (X ++ [ix m k]) L (p + 1) (b + min (k + L0.length) m.length) := ⟨hE', hb', hcl.gap hx, by simp; omega, by omega⟩
      by_cases hkk : k + L0.length ≤ m.length + 8
      · exact ih (k + L0.length) (by omega) hkk w' _ (p + 1) ρ' F' hs' q9' hm'
      · exact lastc (k + L0.length) (by omega) w' _ (p + 1) ρ' F' hs' q9' hm'
def w4c : RCode := (.seq (.region c4_18) (.seq (.seq (.region c4_19) (.cond (.tmp 72) (.seq (.region c4_20) .ret) .skip)) (.region c4_21)))
theorem loop4 (H : Heap) (v u : Value) (L0 : List Fra) (m : List B8) (hA : FS H v L0) (hB : BS H u (m.map w8)) (hm : m.length ≤ 40) (hn : L0.length ≤ 8) :
    ∀ (d i : Nat), i + d = L0.length → ∀ (w : Value) (X : List B8) (p : Nat) (ρ : Fr) (G : Heap), S4 v u w p i ρ → M4 H G w X (L0.take i) p (i * 80) → 
      (∃ ρ' G', E Tryd.prog hints (.loop l4_1) ρ G = some (.ret, ρ', G') ∧ ρ' 4 = .bool true) ∨ ∃ ρ' G' w' X' p', E Tryd.prog hints (.loop l4_1) ρ G = some (.exit 0, ρ', G') ∧ S4 v u w' p' L0.length ρ' ∧ M4 H G' w' X' L0 p' (L0.length * 80) ∧ ∀ f ∈ L0.drop i, f.2.2.length ≤ 32 := by
  intro d
  induction d with
  | zero =>
    rintro i hi w X p ρ G ⟨q0, q1, q5, q6, q7, q8⟩ ⟨hE, hM⟩
    have hi2 : i = L0.length := by omega
    subst hi2
    rw [List.take_length] at hM
    have l2 := (hA.ext hE).len
    have hlt : ¬ (L0.length : Int) < (L0.length : Int) := by omega
    right
    refine ⟨?ρ1, G, w, X, p, ?run1, ⟨?_, ?_, ?_, ?_, ?_, ?_⟩, ⟨hE, hM⟩, by simp⟩
    case run1 =>
      rw [El]
      simp (maxDischargeDepth := 8) only [l4_1, c4_9, q0, q8, l2, hlt, RUN, Ed, knd, kndR, resV, binInt, mnmxV, mnmx2, fillL, unV, extractV, partV, loadAt, Nat.reduceAdd, Nat.reduceBEq, Nat.reduceEqDiff, Nat.reduceLT, Nat.reduceLeDiff, Nat.reduceMul, Nat.reduceSub, reduceIte, Int.reduceEq, Int.reduceNe, Int.reduceLT, Int.reduceLE, Int.reduceAdd, Int.reduceSub, Int.reduceMul, Int.reduceNeg, Int.reduceMod, Int.reduceDiv, Int.reduceTMod, Int.reduceTDiv, Int.reduceToNat, okChain_i, okLoads_nil, okLoads_in, okLoads_eq]
      rfl
    all_goals simp (maxDischargeDepth := 8) only [q0, q1, q5, q6, q7, q8, RUN, Ed, knd, kndR, resV, binInt, mnmxV, mnmx2, fillL, unV, lenV, extractV, partV, loadAt, Nat.reduceAdd, Nat.reduceBEq, Nat.reduceEqDiff, Nat.reduceLT, Nat.reduceLeDiff, Nat.reduceMul, Nat.reduceSub, reduceIte, Int.reduceEq, Int.reduceNe, Int.reduceLT, Int.reduceLE, Int.reduceAdd, Int.reduceSub, Int.reduceMul, Int.reduceNeg, Int.reduceMod, Int.reduceDiv, Int.reduceTMod, Int.reduceTDiv, Int.reduceToNat, okChain_i, okLoads_nil, okLoads_in, okLoads_eq]
  | succ d ih =>
    rintro i hi w X p ρ G ⟨q0, q1, q5, q6, q7, q8⟩ ⟨hE, hbo, hcl, hX, hp⟩
    have hil : i < L0.length := by omega
    have hf : L0[i]? = some L0[i] := List.getElem?_eq_getElem hil
    have hAG := hA.ext hE
    have l2 := hAG.len
    have hlt : (i : Int) < (L0.length : Int) := by omega
    obtain ⟨a, y, x1, x2, ow, ty, cells, x3, x4, x5, x6⟩ := hAG.idx hf
    have hy := x2.BS
    have ly := hy.len
    rw [List.length_map] at ly
    have i3 := live_ltG x3
    have hdr : L0.drop i = L0[i] :: L0.drop (i + 1) := List.drop_eq_getElem_cons hil
    have htk := take_getG L0 i _ hf
    generalize L0[i] = f at *
    by_cases h32' : ¬ f.2.2.length ≤ 32
    · left
      have hlg : (32 : Int) < (f.2.2.length : Int) := by omega
      have e1 : ∃ ρ', E Tryd.prog hints l4_1 ρ G = some (.ret, ρ', G) ∧ ρ' 4 = .bool true := by
        refine ⟨?ρ2, ?run2, ?_⟩
        case run2 =>
          simp (maxDischargeDepth := 8) only [l4_1, c4_9, c4_10, c4_11, q0, q5, q8, l2, hlt, x1, x3, x4, x6, i3, ly, hlg, RUN, Ed, knd, kndR, resV, binInt, mnmxV, mnmx2, fillL, unV, extractV, partV, loadAt, Nat.reduceAdd, Nat.reduceBEq, Nat.reduceEqDiff, Nat.reduceLT, Nat.reduceLeDiff, Nat.reduceMul, Nat.reduceSub, reduceIte, Int.reduceEq, Int.reduceNe, Int.reduceLT, Int.reduceLE, Int.reduceAdd, Int.reduceSub, Int.reduceMul, Int.reduceNeg, Int.reduceMod, Int.reduceDiv, Int.reduceTMod, Int.reduceTDiv, Int.reduceToNat, okChain_i, okLoads_nil, okLoads_in, okLoads_eq]
          rfl
        simp (maxDischargeDepth := 8) only [q5, RUN, Ed, knd, kndR, resV, binInt, mnmxV, mnmx2, fillL, unV, lenV, extractV, partV, loadAt, Nat.reduceAdd, Nat.reduceBEq, Nat.reduceEqDiff, Nat.reduceLT, Nat.reduceLeDiff, Nat.reduceMul, Nat.reduceSub, reduceIte, Int.reduceEq, Int.reduceNe, Int.reduceLT, Int.reduceLE, Int.reduceAdd, Int.reduceSub, Int.reduceMul, Int.reduceNeg, Int.reduceMod, Int.reduceDiv, Int.reduceTMod, Int.reduceTDiv, Int.reduceToNat, okChain_i, okLoads_nil, okLoads_in, okLoads_eq]
      obtain ⟨ρ', e1, h4⟩ := e1
      exact ⟨ρ', G, by rw [El, e1, andThen_r], h4⟩
    have h32 := Decidable.not_not.1 h32'
    have hlg : ¬ (32 : Int) < (f.2.2.length : Int) := by omega
    have wi := wrap64 ((i : Int) + 1) (by omega) (by omega)
    have key : ∀ ρ1, S4 v u w p i ρ1 → ρ1 9 = .int .i64 i → ∃ ρ' G' w' X' p', andThen (blk 1 (andThen (blk 2 (E Tryd.prog hints (.loop l4_0) ρ1 G)) (E Tryd.prog hints w4c))) (E Tryd.prog hints (.region c4_22)) = some (.normal, ρ', G') ∧ S4 v u w' p' (i + 1) ρ' ∧ M4 H G' w' X' (L0.take (i + 1)) p' ((i + 1) * 80) := by
      intro ρ1 hs1 h9
      obtain ⟨ρ2, G2, w2, X2, p2, e2, ⟨z0, z1, z5, z6, z7, z8⟩, hE2, hb2, hc2, hX2, hp2⟩ := gap4 H v u L0 m hA hB hm hn (by omega) (L0.take i) i (i * 80) (by omega) m.length i (by omega) (by omega) w X p ρ1 G hs1 h9 ⟨hE, hbo, hcl, by omega, by omega⟩
      obtain ⟨a', y', x1', x2', ow', ty', cells', x3', x4', x5', x6'⟩ := (hA.ext hE2).idx hf
      have i3' := live_ltG x3'
      obtain ⟨w3, F3, e3, y3, m3⟩ := frame_f f y' h32 G2 x2'.BS
      have hx3 : BS F3 w3 ((frB f).map w8) := by
        have := m3
        rw [show (frB f).length = ((frB f).map w8).length by rw [List.length_map]] at this
        exact this.BS
      obtain ⟨w4, F4, e4, hb4, hE4, _⟩ := hb2.app hE2 y3 hx3 (by rw [frB_len]; omega)
      simp only [frL] at x5'
      rw [e2]
      refine ⟨?ρ3, F4, w4, X2 ++ frB f, p2, ?run3, ⟨?_, ?_, ?_, ?_, ?_, ?_⟩, hE4, hb4, ?_, ?_, ?_⟩
      case run3 =>
        simp (maxDischargeDepth := 8) only [w4c, c4_18, c4_19, c4_20, c4_21, c4_22, z0, z1, z5, z6, z7, z8, x1', x3', x4', x5', i3', e3, e4, wi, RUN, Ed, knd, kndR, resV, binInt, mnmxV, mnmx2, fillL, unV, lenV, extractV, partV, loadAt, Nat.reduceAdd, Nat.reduceBEq, Nat.reduceEqDiff, Nat.reduceLT, Nat.reduceLeDiff, Nat.reduceMul, Nat.reduceSub, reduceIte, Int.reduceEq, Int.reduceNe, Int.reduceLT, Int.reduceLE, Int.reduceAdd, Int.reduceSub, Int.reduceMul, Int.reduceNeg, Int.reduceMod, Int.reduceDiv, Int.reduceTMod, Int.reduceTDiv, Int.reduceToNat, okChain_i, okLoads_nil, okLoads_in, okLoads_eq]
        rfl
      · simp (maxDischargeDepth := 8) only [z0, RUN, Ed, knd, kndR, resV, binInt, mnmxV, mnmx2, fillL, unV, lenV, extractV, partV, loadAt, Nat.reduceAdd, Nat.reduceBEq, Nat.reduceEqDiff, Nat.reduceLT, Nat.reduceLeDiff, Nat.reduceMul, Nat.reduceSub, reduceIte, Int.reduceEq, Int.reduceNe, Int.reduceLT, Int.reduceLE, Int.reduceAdd, Int.reduceSub, Int.reduceMul, Int.reduceNeg, Int.reduceMod, Int.reduceDiv, Int.reduceTMod, Int.reduceTDiv, Int.reduceToNat, okChain_i, okLoads_nil, okLoads_in, okLoads_eq]
      · simp (maxDischargeDepth := 8) only [z1, RUN, Ed, knd, kndR, resV, binInt, mnmxV, mnmx2, fillL, unV, lenV, extractV, partV, loadAt, Nat.reduceAdd, Nat.reduceBEq, Nat.reduceEqDiff, Nat.reduceLT, Nat.reduceLeDiff, Nat.reduceMul, Nat.reduceSub, reduceIte, Int.reduceEq, Int.reduceNe, Int.reduceLT, Int.reduceLE, Int.reduceAdd, Int.reduceSub, Int.reduceMul, Int.reduceNeg, Int.reduceMod, Int.reduceDiv, Int.reduceTMod, Int.reduceTDiv, Int.reduceToNat, okChain_i, okLoads_nil, okLoads_in, okLoads_eq]
      · simp (maxDischargeDepth := 8) only [z5, RUN, Ed, knd, kndR, resV, binInt, mnmxV, mnmx2, fillL, unV, lenV, extractV, partV, loadAt, Nat.reduceAdd, Nat.reduceBEq, Nat.reduceEqDiff, Nat.reduceLT, Nat.reduceLeDiff, Nat.reduceMul, Nat.reduceSub, reduceIte, Int.reduceEq, Int.reduceNe, Int.reduceLT, Int.reduceLE, Int.reduceAdd, Int.reduceSub, Int.reduceMul, Int.reduceNeg, Int.reduceMod, Int.reduceDiv, Int.reduceTMod, Int.reduceTDiv, Int.reduceToNat, okChain_i, okLoads_nil, okLoads_in, okLoads_eq]
      · simp (maxDischargeDepth := 8) only [RUN, Ed, knd, kndR, resV, binInt, mnmxV, mnmx2, fillL, unV, lenV, extractV, partV, loadAt, Nat.reduceAdd, Nat.reduceBEq, Nat.reduceEqDiff, Nat.reduceLT, Nat.reduceLeDiff, Nat.reduceMul, Nat.reduceSub, reduceIte, Int.reduceEq, Int.reduceNe, Int.reduceLT, Int.reduceLE, Int.reduceAdd, Int.reduceSub, Int.reduceMul, Int.reduceNeg, Int.reduceMod, Int.reduceDiv, Int.reduceTMod, Int.reduceTDiv, Int.reduceToNat, okChain_i, okLoads_nil, okLoads_in, okLoads_eq]
      · simp (maxDischargeDepth := 8) only [z7, RUN, Ed, knd, kndR, resV, binInt, mnmxV, mnmx2, fillL, unV, lenV, extractV, partV, loadAt, Nat.reduceAdd, Nat.reduceBEq, Nat.reduceEqDiff, Nat.reduceLT, Nat.reduceLeDiff, Nat.reduceMul, Nat.reduceSub, reduceIte, Int.reduceEq, Int.reduceNe, Int.reduceLT, Int.reduceLE, Int.reduceAdd, Int.reduceSub, Int.reduceMul, Int.reduceNeg, Int.reduceMod, Int.reduceDiv, Int.reduceTMod, Int.reduceTDiv, Int.reduceToNat, okChain_i, okLoads_nil, okLoads_in, okLoads_eq]
      · simp (maxDischargeDepth := 8) only [RUN, Ed, knd, kndR, resV, binInt, mnmxV, mnmx2, fillL, unV, lenV, extractV, partV, loadAt, Nat.reduceAdd, Nat.reduceBEq, Nat.reduceEqDiff, Nat.reduceLT, Nat.reduceLeDiff, Nat.reduceMul, Nat.reduceSub, reduceIte, Int.reduceEq, Int.reduceNe, Int.reduceLT, Int.reduceLE, Int.reduceAdd, Int.reduceSub, Int.reduceMul, Int.reduceNeg, Int.reduceMod, Int.reduceDiv, Int.reduceTMod, Int.reduceTDiv, Int.reduceToNat, okChain_i, okLoads_nil, okLoads_in, okLoads_eq]; rfl
      · rw [htk]; exact hc2.frame h32
      · rw [List.length_append, frB_len]; omega
      · omega
    have hl : l4_1 = (.seq (.seq (.region c4_9) (.cond (.tmp 29) .skip (.exit 0))) (.seq (.block 1 (.seq (.seq (.region c4_10) (.cond (.tmp 38) (.seq (.region c4_11) .ret) .skip)) (.seq (.seq (.region c4_12) (.block 2 (.loop l4_0))) w4c))) (.region c4_22))) := rfl
    have e1 : ∃ ρ' G' w' X' p', E Tryd.prog hints l4_1 ρ G = some (.normal, ρ', G') ∧ S4 v u w' p' (i + 1) ρ' ∧ M4 H G' w' X' (L0.take (i + 1)) p' ((i + 1) * 80) := by
      rw [hl]
      simp (maxDischargeDepth := 8) only [c4_9, c4_10, c4_11, c4_12, q0, q5, q8, l2, hlt, x1, x3, x4, x6, i3, ly, hlg, RUN, Ed, knd, kndR, resV, binInt, mnmxV, mnmx2, fillL, unV, extractV, partV, loadAt, Nat.reduceAdd, Nat.reduceBEq, Nat.reduceEqDiff, Nat.reduceLT, Nat.reduceLeDiff, Nat.reduceMul, Nat.reduceSub, reduceIte, Int.reduceEq, Int.reduceNe, Int.reduceLT, Int.reduceLE, Int.reduceAdd, Int.reduceSub, Int.reduceMul, Int.reduceNeg, Int.reduceMod, Int.reduceDiv, Int.reduceTMod, Int.reduceTDiv, Int.reduceToNat, okChain_i, okLoads_nil, okLoads_in, okLoads_eq]
      refine key _ ⟨?_, ?_, ?_, ?_, ?_, ?_⟩ ?_
      all_goals simp (maxDischargeDepth := 8) only [q0, q1, q5, q6, q7, q8, RUN, Ed, knd, kndR, resV, binInt, mnmxV, mnmx2, fillL, unV, lenV, extractV, partV, loadAt, Nat.reduceAdd, Nat.reduceBEq, Nat.reduceEqDiff, Nat.reduceLT, Nat.reduceLeDiff, Nat.reduceMul, Nat.reduceSub, reduceIte, Int.reduceEq, Int.reduceNe, Int.reduceLT, Int.reduceLE, Int.reduceAdd, Int.reduceSub, Int.reduceMul, Int.reduceNeg, Int.reduceMod, Int.reduceDiv, Int.reduceTMod, Int.reduceTDiv, Int.reduceToNat, okChain_i, okLoads_nil, okLoads_in, okLoads_eq]
    obtain ⟨ρ', G', w', X', p', e1, hs', hm'⟩ := e1
    rw [El, e1, andThen_n]
    rcases ih (i + 1) (by omega) w' X' p' ρ' G' hs' hm' with h | ⟨ρ2, G2, w2, X2, p2, e2, hs2, hm2, ha⟩
    · exact .inl h
    · refine .inr ⟨ρ2, G2, w2, X2, p2, e2, hs2, hm2, fun g hg => ?_⟩
      rw [hdr] at hg
      rcases List.mem_cons.1 hg with rfl | hg
      · exact h32
      · exact ha g hg
def t4 : RCode := (.seq (.region c4_23) (.seq (.region c4_24) .ret))
theorem b4t : b4 = (.seq (.region c4_0) (.seq (.region c4_1) (.seq (.seq (.region c4_2) (.cond (.tmp 16) (.seq (.region c4_3) .ret) .skip)) (.seq (.seq (.region c4_4) (.cond (.tmp 24) (.seq (.region c4_5) .ret) .skip)) (.seq (.region c4_6) (.seq (.region c4_7) (.seq (.seq (.region c4_8) (.block 0 (.loop l4_1))) t4))))))) := (rfl)
theorem rows (v u : Value) (L0 : List Fra) (m : List B8) (H : Heap) (hA : FS H v L0) (hB : BS H u (m.map w8)) : Ok (D Tryd.prog hints 4 [v, u] H) := by
  obtain ⟨F0, e0, x0⟩ := first_f H
  have hA0 := hA.ext x0
  have hB0 := hB.ext x0
  have l2 := hA0.len
  have l1 := hB0.len
  rw [List.length_map] at l1
  rw [D_eq p4 _ _ (Nat.le_of_ble_eq_true rfl)]
  by_cases h1 : (8 : Int) < (L0.length : Int)
  · simp (maxDischargeDepth := 8) only [r4, b4, c4_0, c4_1, c4_2, c4_3, c4_4, c4_5, c4_6, c4_7, c4_8, c4_9, c4_10, c4_11, c4_12, c4_13, c4_14, c4_15, c4_16, c4_17, c4_18, c4_19, c4_20, c4_21, c4_22, c4_23, c4_24, e0, l1, l2, h1, RUN, Ed, knd, kndR, resV, binInt, mnmxV, mnmx2, fillL, unV, extractV, partV, loadAt, Nat.reduceAdd, Nat.reduceBEq, Nat.reduceEqDiff, Nat.reduceLT, Nat.reduceLeDiff, Nat.reduceMul, Nat.reduceSub, reduceIte, Int.reduceEq, Int.reduceNe, Int.reduceLT, Int.reduceLE, Int.reduceAdd, Int.reduceSub, Int.reduceMul, Int.reduceNeg, Int.reduceMod, Int.reduceDiv, Int.reduceTMod, Int.reduceTDiv, Int.reduceToNat, okChain_i, okLoads_nil, okLoads_in, okLoads_eq]
    exact Ok.mk _
  by_cases h2 : (40 : Int) < (m.length : Int)
  · simp (maxDischargeDepth := 8) only [r4, b4, c4_0, c4_1, c4_2, c4_3, c4_4, c4_5, c4_6, c4_7, c4_8, c4_9, c4_10, c4_11, c4_12, c4_13, c4_14, c4_15, c4_16, c4_17, c4_18, c4_19, c4_20, c4_21, c4_22, c4_23, c4_24, e0, l1, l2, h1, h2, RUN, Ed, knd, kndR, resV, binInt, mnmxV, mnmx2, fillL, unV, extractV, partV, loadAt, Nat.reduceAdd, Nat.reduceBEq, Nat.reduceEqDiff, Nat.reduceLT, Nat.reduceLeDiff, Nat.reduceMul, Nat.reduceSub, reduceIte, Int.reduceEq, Int.reduceNe, Int.reduceLT, Int.reduceLE, Int.reduceAdd, Int.reduceSub, Int.reduceMul, Int.reduceNeg, Int.reduceMod, Int.reduceDiv, Int.reduceTMod, Int.reduceTDiv, Int.reduceToNat, okChain_i, okLoads_nil, okLoads_in, okLoads_eq]
    exact Ok.mk _
  have fin : ∀ ρ, S4 v u (.slice none 0 0) 0 0 ρ → Ok (done [.tmp 4] (andThen (blk 0 (E Tryd.prog hints (.loop l4_1) ρ F0)) (E Tryd.prog hints t4))) := by
    intro ρ hs
    rcases loop4 F0 v u L0 m hA0 hB0 (by omega) (by omega) L0.length 0 (by omega) _ [] 0 ρ F0 hs ⟨Ext.refl _, BO.nil _ _, Clean.nil, by simp, by omega⟩ with ⟨ρ', G', e, h4⟩ | ⟨ρ', G', w, X, p, e, ⟨q0, q1, q5, q6, q7, q8⟩, ⟨hE, hbo, hcl, hX, hp⟩, hal⟩
    · rw [e]
      simp (maxDischargeDepth := 8) only [h4, RUN, Ed, knd, kndR, resV, binInt, mnmxV, mnmx2, fillL, unV, lenV, extractV, partV, loadAt, Nat.reduceAdd, Nat.reduceBEq, Nat.reduceEqDiff, Nat.reduceLT, Nat.reduceLeDiff, Nat.reduceMul, Nat.reduceSub, reduceIte, Int.reduceEq, Int.reduceNe, Int.reduceLT, Int.reduceLE, Int.reduceAdd, Int.reduceSub, Int.reduceMul, Int.reduceNeg, Int.reduceMod, Int.reduceDiv, Int.reduceTMod, Int.reduceTDiv, Int.reduceToNat, okChain_i, okLoads_nil, okLoads_in, okLoads_eq]
      exact Ok.mk _
    · rw [e]
      obtain ⟨w2, F2, e2, y2, m2⟩ := split_f G' w X (by omega) hbo.BS
      rw [hcl.end_] at e2 m2
      obtain ⟨X4, e4⟩ := sameFrames_f F2 w2 v _ _ m2.FS (hA0.ext (hE.trans y2)) (fun g hg => by have := hal g (by simpa using hg); omega) (by simp only; omega)
      rw [decide_eq_true rfl] at e4
      have hd : decide (((p : Nat) : Int) = ((p : Nat) : Int)) = true := by simp
      simp (maxDischargeDepth := 8) only [t4, c4_23, c4_24, q0, q5, q6, q7, e2, e4, hd, RUN, Ed, knd, kndR, resV, binInt, mnmxV, mnmx2, fillL, unV, lenV, extractV, partV, loadAt, Nat.reduceAdd, Nat.reduceBEq, Nat.reduceEqDiff, Nat.reduceLT, Nat.reduceLeDiff, Nat.reduceMul, Nat.reduceSub, reduceIte, Int.reduceEq, Int.reduceNe, Int.reduceLT, Int.reduceLE, Int.reduceAdd, Int.reduceSub, Int.reduceMul, Int.reduceNeg, Int.reduceMod, Int.reduceDiv, Int.reduceTMod, Int.reduceTDiv, Int.reduceToNat, okChain_i, okLoads_nil, okLoads_in, okLoads_eq]
      exact Ok.mk _
  simp (maxDischargeDepth := 8) only [r4, b4t, c4_0, c4_1, c4_2, c4_3, c4_4, c4_5, c4_6, c4_7, c4_8, e0, l1, l2, h1, h2, RUN, Ed, knd, kndR, resV, binInt, mnmxV, mnmx2, fillL, unV, extractV, partV, loadAt, Nat.reduceAdd, Nat.reduceBEq, Nat.reduceEqDiff, Nat.reduceLT, Nat.reduceLeDiff, Nat.reduceMul, Nat.reduceSub, reduceIte, Int.reduceEq, Int.reduceNe, Int.reduceLT, Int.reduceLE, Int.reduceAdd, Int.reduceSub, Int.reduceMul, Int.reduceNeg, Int.reduceMod, Int.reduceDiv, Int.reduceTMod, Int.reduceTDiv, Int.reduceToNat, okChain_i, okLoads_nil, okLoads_in, okLoads_eq]
  refine fin _ ⟨?_, ?_, ?_, ?_, ?_, ?_⟩
  all_goals first | (simp (maxDischargeDepth := 8) only [RUN, Ed, knd, kndR, resV, binInt, mnmxV, mnmx2, fillL, unV, lenV, extractV, partV, loadAt, Nat.reduceAdd, Nat.reduceBEq, Nat.reduceEqDiff, Nat.reduceLT, Nat.reduceLeDiff, Nat.reduceMul, Nat.reduceSub, reduceIte, Int.reduceEq, Int.reduceNe, Int.reduceLT, Int.reduceLE, Int.reduceAdd, Int.reduceSub, Int.reduceMul, Int.reduceNeg, Int.reduceMod, Int.reduceDiv, Int.reduceTMod, Int.reduceTDiv, Int.reduceToNat, okChain_i, okLoads_nil, okLoads_in, okLoads_eq]; done) | (simp (maxDischargeDepth := 8) only [RUN, Ed, knd, kndR, resV, binInt, mnmxV, mnmx2, fillL, unV, lenV, extractV, partV, loadAt, Nat.reduceAdd, Nat.reduceBEq, Nat.reduceEqDiff, Nat.reduceLT, Nat.reduceLeDiff, Nat.reduceMul, Nat.reduceSub, reduceIte, Int.reduceEq, Int.reduceNe, Int.reduceLT, Int.reduceLE, Int.reduceAdd, Int.reduceSub, Int.reduceMul, Int.reduceNeg, Int.reduceMod, Int.reduceDiv, Int.reduceTMod, Int.reduceTDiv, Int.reduceToNat, okChain_i, okLoads_nil, okLoads_in, okLoads_eq]; rfl)
def sh4 : List Sh := [.slice (.agg ((.cons (.int .u8) (.cons (.int .u8) (.cons (.slice (.int .u8)) .nil))))), .slice (.int .u8)]
theorem rows_law (H : Heap) (h : EH on1 H) (ls : List (List Value)) (o : OpnAll H sh4 ls) : Ok (D Tryd.prog hints 4 (argsS sh4 ls) H) := by
  obtain ⟨l0, _, rfl, h0, o⟩ := o.uncons
  obtain ⟨l1, _, rfl, h1, o⟩ := o.uncons
  cases o.unnil
  obtain ⟨v, L, rfl, hv⟩ := Opn_frames h0
  obtain ⟨u, m, rfl, hu⟩ := Opn_bytes h1
  exact rows v u L m H hv hu.BS
end Go.Proofs.YtoknmodbdlfdmaaDoor.Sim
