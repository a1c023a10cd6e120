/- Configurations out of any three numbers, over the plain heap. -/
import Derived.Test.YtceildmghmigaaaDoorCfg
import Derived.Test.YtceildmghmigaaaDoorSim21
namespace Go.Proofs.YtceildmghmigaaaDoor.Sim
open Go
set_option linter.unusedSimpArgs false
set_option linter.unusedVariables false
theorem append_nil {ty esz bytes : Nat} {H : Heap} {i n e t : Nat} {o : Bool} {cs : List Value} (h : live H i = some ⟨o, t, cs⟩) (hn : 0 < n) (hl : n * esz ≤ cs.length) (hb : n * bytes ≤ 140737488355328) :
    appendV ty esz bytes H (.slice none 0 0) (.slice (some ⟨i, 0, none⟩) n e) = some (.slice (some ⟨H.length, 0, none⟩) n esz, H ++ [some ⟨true, ty, cs.take (n * esz)⟩]) := by
  unfold appendV
  simp only [sliceCells, h, Option.bind_some]
  rw [if_pos (by omega), Option.bind_some]
  refine (if_neg (show ¬ n = 0 by omega)).trans ((if_pos hb).trans ?_)
  simp only [List.drop_zero]
  rfl
theorem append_cons {ty esz bytes : Nat} {H : Heap} {i n e j m t : Nat} {o : Bool} {cs ds : List Value} (hi : live H i = some ⟨true, ty, ds⟩) (hd : ds.length = n * esz) (h : live H j = some ⟨o, t, cs⟩) (hm : 0 < m) (hl : m * esz ≤ cs.length) (hb : (n + m) * bytes ≤ 140737488355328)
    (h1 : (cs.take (m * esz)).all Value.oneCell' = true) :
    appendV ty esz bytes H (.slice (some ⟨i, 0, none⟩) n esz) (.slice (some ⟨j, 0, none⟩) m e) = some (.slice (some ⟨H.length, 0, none⟩) (n + m) esz, H.set i none ++ [some ⟨true, ty, ds ++ cs.take (m * esz)⟩]) := by
  unfold appendV
  simp only [sliceCells, h, Option.bind_some]
  rw [if_pos (by omega), Option.bind_some]
  refine (if_neg (show ¬ m = 0 by omega)).trans ?_
  rw [hi, Option.bind_some]
  simp only [List.drop_zero]
  exact if_pos ⟨trivial, trivial, trivial, hd, hb, h1⟩
theorem cut_loopG {P : Program} {hs : Nat → Hints} {R : Option (Value × Heap) → Prop} {b : RCode} {id : Nat} {rs : List RRes} {ρ : Fr} {H : Heap} {k : Fr → Heap → Option (Ex × Fr × Heap)} (I J : Fr → Heap → Prop) (hI : I ρ H)
    (hl : ∀ ρ H, I ρ H → ∃ ρ' H', E P hs (.loop b) ρ H = some (.exit id, ρ', H') ∧ J ρ' H') (hk : ∀ ρ' H', J ρ' H' → R (done rs (k ρ' H'))) : R (done rs (andThen (blk id (E P hs (.loop b) ρ H)) k)) := by
  obtain ⟨ρ', H', h1, h2⟩ := hl ρ H hI
  rw [h1, blk_x, if_pos rfl, andThen_n]
  exact hk ρ' H' h2
def cvG (n m k : Int) (h : Nat) (f : Value) : Cv := ⟨1 + n % 1048576 % 4, 1 + n % 1048576 / 4 % 3, 1 + n % 1048576 / 12 % 4, 1 + n % 1048576 / 48 % 9, 1 + n % 1048576 / 432 % 5, m % 1048576 % 5, 1000 * (k % 1048576 % 8), 500 + m % 1048576 / 5 % 4 * 500, .slice (some ⟨h + 2, 0, none⟩) 4 2, f⟩
/-- A feeder. -/
def fdv (K : Int) (j : Nat) : List Value := [.int .i64 (4 + ((j : Int) + K / 8) % 3), .int .i64 (50 + 60 * ((K / 24 + (j : Int)) % 5)), .int .i64 ((K / 120 + (j : Int) * (j : Int)) % 4)]
theorem live_at {A X : Heap} {n : Nat} (h : A.length = n) (k : Nat) : live (A ++ X) (n + k) = live X k := by subst h; exact live_app_add A X k
def fds (K : Int) (i : Nat) : List Value := (List.range i).flatMap (fdv K)
theorem fds_len (K : Int) (i : Nat) : (fds K i).length = i * 3 := by
  induction i with
  | zero => rfl
  | succ i ih => unfold fds at ih ⊢; rw [List.range_succ, List.flatMap_append, List.length_append, ih]; simp [fdv]; omega
theorem fds_succ (K : Int) (i : Nat) : fds K (i + 1) = fds K i ++ fdv K i := by
  unfold fds; rw [List.range_succ, List.flatMap_append]; simp
def Feed (h : Nat) (K : Int) (i : Nat) (G : Heap) (f : Value) : Prop := i = 0 ∧ f = .slice none 0 0 ∨ 0 < i ∧ ∃ b, f = .slice (some ⟨b, 0, none⟩) i 3 ∧ live G b = some ⟨true, 41, fds K i⟩ ∧ h + 3 ≤ b
structure S13 (h : Nat) (M K : Int) (i : Nat) (ρ : Fr) : Prop where
  q1 : ρ 1 = .int .i64 M
  q2 : ρ 2 = .int .i64 K
  q6 : ρ 6 = .pointer (some ⟨h, 0, none⟩)
  q7 : ρ 7 = .pointer (some ⟨h + 1, 0, none⟩)
  q8 : ρ 8 = .int .i64 i
structure M13 (H : Heap) (n m k : Int) (i : Nat) (G : Heap) : Prop where
  cf : ∃ f, live G (H.length + 1) = some ⟨true, 26, cfgL (cvG n m k H.length f)⟩ ∧ Feed H.length (k % 1048576) i G f
  z : ∃ z, live G H.length = some ⟨true, 26, z⟩ ∧ z.length = 27
  oc : live G (H.length + 2) = ocvB
  old : ∀ (j : Nat) (b : Blk), live H j = some b → live G j = some b
theorem cfgG_26 (n m k : Int) (h : Nat) (f : Value) : (cfgL (cvG n m k h f))[26]? = some f := (rfl)
theorem cfgG_set (n m k : Int) (h : Nat) (f g : Value) : (cfgL (cvG n m k h f)).set 26 g = cfgL (cvG n m k h g) := (rfl)
theorem cfgG_len (n m k : Int) (h : Nat) (f : Value) : (cfgL (cvG n m k h f)).length = 27 := (rfl)
theorem tmods (a b c : Int) (h : a.tdiv b = c) (hc : 0 ≤ c) (d : Int) : (a.tdiv b).tmod d = c % d := by rw [h]; exact Int.tmod_eq_emod_of_nonneg hc
theorem round13 (H : Heap) (n m k : Int) (i : Nat) (hi : i < 7) (hlt : (i : Int) < m % 1048576 / 20 % 7) (ρ : Fr) (G : Heap) (hs : S13 H.length (m % 1048576) (k % 1048576) i ρ) (hm : M13 H n m k i G) :
    ∃ ρ' G', E Tryd.prog hints l8_0 ρ G = some (.normal, ρ', G') ∧ S13 H.length (m % 1048576) (k % 1048576) (i + 1) ρ' ∧ M13 H n m k (i + 1) G' := by
  obtain ⟨q1, q2, q6, q7, q8⟩ := hs
  obtain ⟨⟨f, hf, hfd⟩, ⟨z, hz, hzl⟩, hoc, hold⟩ := hm
  have hM0 := Int.emod_nonneg m (show (1048576 : Int) ≠ 0 by decide)
  have hM1 := Int.emod_lt_of_pos m (show (0 : Int) < 1048576 by decide)
  have hK0 := Int.emod_nonneg k (show (1048576 : Int) ≠ 0 by decide)
  have hK1 := Int.emod_lt_of_pos k (show (0 : Int) < 1048576 by decide)
  have hMe : ∃ M, M = m % 1048576 := ⟨_, rfl⟩
  have hKe : ∃ K, K = k % 1048576 := ⟨_, rfl⟩
  obtain ⟨M, hM⟩ := hMe
  obtain ⟨K, hK⟩ := hKe
  rw [← hM] at q1 hM0 hM1 hlt
  rw [← hK] at q2 hK0 hK1 hfd
  have d1 : M.tdiv 20 = M / 20 := tdivL _ _ hM0
  have d2 : (M / 20).tmod 7 = M / 20 % 7 := tmodL _ _ (by omega)
  have d3 : K.tdiv 8 = K / 8 := tdivL _ _ hK0
  have w1 := wrap64 ((i : Int) + K / 8) (by omega) (by omega)
  have d4 : ((i : Int) + K / 8).tmod 3 = ((i : Int) + K / 8) % 3 := tmodL _ _ (by omega)
  have w2 := wrap64 (4 + ((i : Int) + K / 8) % 3) (by omega) (by omega)
  have d5 : K.tdiv 24 = K / 24 := tdivL _ _ hK0
  have w3 := wrap64 (K / 24 + (i : Int)) (by omega) (by omega)
  have d6 : (K / 24 + (i : Int)).tmod 5 = (K / 24 + (i : Int)) % 5 := tmodL _ _ (by omega)
  have w4 := wrap64 (60 * ((K / 24 + (i : Int)) % 5)) (by omega) (by omega)
  have w5 := wrap64 (50 + 60 * ((K / 24 + (i : Int)) % 5)) (by omega) (by omega)
  have d7 : K.tdiv 120 = K / 120 := tdivL _ _ hK0
  have hii : 0 ≤ (i : Int) * (i : Int) ∧ (i : Int) * (i : Int) ≤ 36 := by
    have : i = 0 ∨ i = 1 ∨ i = 2 ∨ i = 3 ∨ i = 4 ∨ i = 5 ∨ i = 6 := by omega
    rcases this with rfl | rfl | rfl | rfl | rfl | rfl | rfl <;> decide
  obtain ⟨hi0, hi1⟩ := hii
  have w6 := wrap64 ((i : Int) * (i : Int)) (by omega) (by omega)
  have w7 := wrap64 (K / 120 + (i : Int) * (i : Int)) (by omega) (by omega)
  have d8 : (K / 120 + (i : Int) * (i : Int)).tmod 4 = (K / 120 + (i : Int) * (i : Int)) % 4 := tmodL _ _ (by omega)
  have w8 := wrap64 ((i : Int) + 1) (by omega) (by omega)
  have v1 := wrap64 (M / 20) (by omega) (by omega)
  have v2 := wrap64 (K / 8) (by omega) (by omega)
  have v3 := wrap64 (K / 24) (by omega) (by omega)
  have v4 := wrap64 (K / 120) (by omega) (by omega)
  have hg1 := live_lt hf
  have hg0 := live_lt hz
  have hg2 := live_lt hoc
  have hzd : z.drop 27 = [] := List.drop_eq_nil_of_le (by omega)
  have hf' := fun X => live_more0 hf X
  rcases hfd with ⟨hi0', rfl⟩ | ⟨hipos, b, rfl, hb, hbl⟩
  · subst hi0'
    have ea := append_nil (ty := 41) (esz := 3) (bytes := 24) (H := G ++ [some ⟨true, 41, fdv K 0⟩]) (i := G.length) (n := 1) (e := 3) (o := true) (t := 41) (cs := fdv K 0) (by rw [live_app_len]; rfl) (by omega) (by simp [fdv]) (by omega)
    simp only [fdv, List.length_append, List.length_cons, List.length_nil, Nat.zero_add, Nat.reduceMul, List.take_succ_cons, List.take_zero, List.append_assoc, List.cons_append, List.nil_append] at ea
    refine ⟨?ρ1, ?G1, ?run1, ?inv1⟩
    case run1 =>
      simp (maxDischargeDepth := 8) only [l8_0, c8_7, c8_8, c8_9, q1, q2, q6, q7, q8, d1, d2, d3, d4, d5, d6, d7, d8, w1, w2, w3, w4, w5, w6, w7, w8, v1, v2, v3, v4, hlt, hf, hf', hg1, hg0, cfgG_26, cfgG_set, cfgG_len, ea, RUN, Ed, knd, kndR, resV, binInt, mnmxV, mnmx2, fillL, unV, lenV, extractV, partV, loadAt, Nat.reduceAdd, Nat.reduceBEq, Nat.reduceEqDiff, Nat.reduceLT, Nat.reduceLeDiff, Nat.reduceMul, Nat.reduceSub, reduceIte, Int.reduceEq, Int.reduceNe, Int.reduceLT, Int.reduceLE, Int.reduceAdd, Int.reduceSub, Int.reduceMul, Int.reduceNeg, Int.reduceMod, Int.reduceDiv, Int.reduceTMod, Int.reduceTDiv, Int.reduceToNat, okChain_i, okLoads_nil, okLoads_in, okLoads_eq]
      rfl
    case inv1 =>
      refine ⟨⟨?_, ?_, ?_, ?_, ?_⟩, ⟨⟨.slice (some ⟨G.length + 1, 0, none⟩) 1 3, ?_, .inr ⟨by omega, G.length + 1, rfl, ?_, by omega⟩⟩, ⟨z, ?_, hzl⟩, ?_, fun j b hj => ?_⟩⟩
      · simp (maxDischargeDepth := 8) only [q1, RUN, Ed, knd, kndR, resV, binInt, mnmxV, mnmx2, fillL, unV, lenV, extractV, partV, loadAt, Nat.reduceAdd, Nat.reduceBEq, Nat.reduceEqDiff, Nat.reduceLT, Nat.reduceLeDiff, Nat.reduceMul, Nat.reduceSub, reduceIte, Int.reduceEq, Int.reduceNe, Int.reduceLT, Int.reduceLE, Int.reduceAdd, Int.reduceSub, Int.reduceMul, Int.reduceNeg, Int.reduceMod, Int.reduceDiv, Int.reduceTMod, Int.reduceTDiv, Int.reduceToNat, okChain_i, okLoads_nil, okLoads_in, okLoads_eq]
        rw [hM]
      · simp (maxDischargeDepth := 8) only [q2, RUN, Ed, knd, kndR, resV, binInt, mnmxV, mnmx2, fillL, unV, lenV, extractV, partV, loadAt, Nat.reduceAdd, Nat.reduceBEq, Nat.reduceEqDiff, Nat.reduceLT, Nat.reduceLeDiff, Nat.reduceMul, Nat.reduceSub, reduceIte, Int.reduceEq, Int.reduceNe, Int.reduceLT, Int.reduceLE, Int.reduceAdd, Int.reduceSub, Int.reduceMul, Int.reduceNeg, Int.reduceMod, Int.reduceDiv, Int.reduceTMod, Int.reduceTDiv, Int.reduceToNat, okChain_i, okLoads_nil, okLoads_in, okLoads_eq]
        rw [hK]
      · simp (maxDischargeDepth := 8) only [q6, RUN, Ed, knd, kndR, resV, binInt, mnmxV, mnmx2, fillL, unV, lenV, extractV, partV, loadAt, Nat.reduceAdd, Nat.reduceBEq, Nat.reduceEqDiff, Nat.reduceLT, Nat.reduceLeDiff, Nat.reduceMul, Nat.reduceSub, reduceIte, Int.reduceEq, Int.reduceNe, Int.reduceLT, Int.reduceLE, Int.reduceAdd, Int.reduceSub, Int.reduceMul, Int.reduceNeg, Int.reduceMod, Int.reduceDiv, Int.reduceTMod, Int.reduceTDiv, Int.reduceToNat, okChain_i, okLoads_nil, okLoads_in, okLoads_eq]
      · simp (maxDischargeDepth := 8) only [q7, RUN, Ed, knd, kndR, resV, binInt, mnmxV, mnmx2, fillL, unV, lenV, extractV, partV, loadAt, Nat.reduceAdd, Nat.reduceBEq, Nat.reduceEqDiff, Nat.reduceLT, Nat.reduceLeDiff, Nat.reduceMul, Nat.reduceSub, reduceIte, Int.reduceEq, Int.reduceNe, Int.reduceLT, Int.reduceLE, Int.reduceAdd, Int.reduceSub, Int.reduceMul, Int.reduceNeg, Int.reduceMod, Int.reduceDiv, Int.reduceTMod, Int.reduceTDiv, Int.reduceToNat, okChain_i, okLoads_nil, okLoads_in, okLoads_eq]
      · simp (maxDischargeDepth := 8) only [RUN, Ed, knd, kndR, resV, binInt, mnmxV, mnmx2, fillL, unV, lenV, extractV, partV, loadAt, Nat.reduceAdd, Nat.reduceBEq, Nat.reduceEqDiff, Nat.reduceLT, Nat.reduceLeDiff, Nat.reduceMul, Nat.reduceSub, reduceIte, Int.reduceEq, Int.reduceNe, Int.reduceLT, Int.reduceLE, Int.reduceAdd, Int.reduceSub, Int.reduceMul, Int.reduceNeg, Int.reduceMod, Int.reduceDiv, Int.reduceTMod, Int.reduceTDiv, Int.reduceToNat, okChain_i, okLoads_nil, okLoads_in, okLoads_eq]
        rfl
      · exact live_more0 (live_set_eq _ _ _ hg1) _
      · rw [← hK]
        refine (live_at (by simp) 1).trans ?_
        rfl
      · exact live_more0 (by rw [live_set_ne _ _ _ _ (by omega)]; exact hz) _
      · exact live_more0 (by rw [live_set_ne _ _ _ _ (by omega)]; exact hoc) _
      · exact live_more0 (by rw [live_set_ne _ _ _ _ (by have := live_lt hj; omega)]; exact hold j b hj) _
  · have hgb := live_lt hb
    have hb7 : ¬ (b = H.length + 1) := by omega
    have ea := append_cons (ty := 41) (esz := 3) (bytes := 24) (H := G ++ [some ⟨true, 41, fdv K i⟩]) (i := b) (n := i) (j := G.length) (m := 1) (e := 3) (o := true) (t := 41) (cs := fdv K i) (ds := fds K i) (live_more0 hb _) (fds_len K i) (by rw [live_app_len]; rfl) (by omega) (by simp [fdv]) (by omega) (by rfl)
    rw [show (fdv K i).take (1 * 3) = fdv K i from rfl, ← fds_succ] at ea
    rw [set_app _ _ _ _ hgb] at ea
    simp only [fdv, List.length_append, List.length_cons, List.length_nil, Nat.zero_add, List.append_assoc, List.cons_append, List.nil_append] at ea
    refine ⟨?ρ2, ?G2, ?run2, ?inv2⟩
    case run2 =>
      simp (maxDischargeDepth := 8) only [l8_0, c8_7, c8_8, c8_9, q1, q2, q6, q7, q8, d1, d2, d3, d4, d5, d6, d7, d8, w1, w2, w3, w4, w5, w6, w7, w8, v1, v2, v3, v4, hlt, hf, hf', hg1, hg0, hb7, cfgG_26, cfgG_set, cfgG_len, ea, RUN, Ed, knd, kndR, resV, binInt, mnmxV, mnmx2, fillL, unV, lenV, extractV, partV, loadAt, Nat.reduceAdd, Nat.reduceBEq, Nat.reduceEqDiff, Nat.reduceLT, Nat.reduceLeDiff, Nat.reduceMul, Nat.reduceSub, reduceIte, Int.reduceEq, Int.reduceNe, Int.reduceLT, Int.reduceLE, Int.reduceAdd, Int.reduceSub, Int.reduceMul, Int.reduceNeg, Int.reduceMod, Int.reduceDiv, Int.reduceTMod, Int.reduceTDiv, Int.reduceToNat, okChain_i, okLoads_nil, okLoads_in, okLoads_eq]
      rfl
    case inv2 =>
      refine ⟨⟨?_, ?_, ?_, ?_, ?_⟩, ⟨⟨.slice (some ⟨G.length + 1, 0, none⟩) (i + 1) 3, ?_, .inr ⟨by omega, G.length + 1, rfl, ?_, by omega⟩⟩, ⟨z, ?_, hzl⟩, ?_, fun j b hj => ?_⟩⟩
      · simp (maxDischargeDepth := 8) only [q1, RUN, Ed, knd, kndR, resV, binInt, mnmxV, mnmx2, fillL, unV, lenV, extractV, partV, loadAt, Nat.reduceAdd, Nat.reduceBEq, Nat.reduceEqDiff, Nat.reduceLT, Nat.reduceLeDiff, Nat.reduceMul, Nat.reduceSub, reduceIte, Int.reduceEq, Int.reduceNe, Int.reduceLT, Int.reduceLE, Int.reduceAdd, Int.reduceSub, Int.reduceMul, Int.reduceNeg, Int.reduceMod, Int.reduceDiv, Int.reduceTMod, Int.reduceTDiv, Int.reduceToNat, okChain_i, okLoads_nil, okLoads_in, okLoads_eq]
        rw [hM]
      · simp (maxDischargeDepth := 8) only [q2, RUN, Ed, knd, kndR, resV, binInt, mnmxV, mnmx2, fillL, unV, lenV, extractV, partV, loadAt, Nat.reduceAdd, Nat.reduceBEq, Nat.reduceEqDiff, Nat.reduceLT, Nat.reduceLeDiff, Nat.reduceMul, Nat.reduceSub, reduceIte, Int.reduceEq, Int.reduceNe, Int.reduceLT, Int.reduceLE, Int.reduceAdd, Int.reduceSub, Int.reduceMul, Int.reduceNeg, Int.reduceMod, Int.reduceDiv, Int.reduceTMod, Int.reduceTDiv, Int.reduceToNat, okChain_i, okLoads_nil, okLoads_in, okLoads_eq]
        rw [hK]
      · simp (maxDischargeDepth := 8) only [q6, RUN, Ed, knd, kndR, resV, binInt, mnmxV, mnmx2, fillL, unV, lenV, extractV, partV, loadAt, Nat.reduceAdd, Nat.reduceBEq, Nat.reduceEqDiff, Nat.reduceLT, Nat.reduceLeDiff, Nat.reduceMul, Nat.reduceSub, reduceIte, Int.reduceEq, Int.reduceNe, Int.reduceLT, Int.reduceLE, Int.reduceAdd, Int.reduceSub, Int.reduceMul, Int.reduceNeg, Int.reduceMod, Int.reduceDiv, Int.reduceTMod, Int.reduceTDiv, Int.reduceToNat, okChain_i, okLoads_nil, okLoads_in, okLoads_eq]
      · simp (maxDischargeDepth := 8) only [q7, RUN, Ed, knd, kndR, resV, binInt, mnmxV, mnmx2, fillL, unV, lenV, extractV, partV, loadAt, Nat.reduceAdd, Nat.reduceBEq, Nat.reduceEqDiff, Nat.reduceLT, Nat.reduceLeDiff, Nat.reduceMul, Nat.reduceSub, reduceIte, Int.reduceEq, Int.reduceNe, Int.reduceLT, Int.reduceLE, Int.reduceAdd, Int.reduceSub, Int.reduceMul, Int.reduceNeg, Int.reduceMod, Int.reduceDiv, Int.reduceTMod, Int.reduceTDiv, Int.reduceToNat, okChain_i, okLoads_nil, okLoads_in, okLoads_eq]
      · simp (maxDischargeDepth := 8) only [RUN, Ed, knd, kndR, resV, binInt, mnmxV, mnmx2, fillL, unV, lenV, extractV, partV, loadAt, Nat.reduceAdd, Nat.reduceBEq, Nat.reduceEqDiff, Nat.reduceLT, Nat.reduceLeDiff, Nat.reduceMul, Nat.reduceSub, reduceIte, Int.reduceEq, Int.reduceNe, Int.reduceLT, Int.reduceLE, Int.reduceAdd, Int.reduceSub, Int.reduceMul, Int.reduceNeg, Int.reduceMod, Int.reduceDiv, Int.reduceTMod, Int.reduceTDiv, Int.reduceToNat, okChain_i, okLoads_nil, okLoads_in, okLoads_eq]
        rfl
      · exact live_more0 (live_set_eq _ _ _ (by simpa using hg1)) _
      · rw [← hK]
        refine (live_at (by simp) 1).trans ?_
        rfl
      · exact live_more0 (by rw [live_set_ne _ _ _ _ (by omega), live_set_ne _ _ _ _ (by omega)]; exact hz) _
      · exact live_more0 (by rw [live_set_ne _ _ _ _ (by omega), live_set_ne _ _ _ _ (by omega)]; exact hoc) _
      · have := live_lt hj
        exact live_more0 (by rw [live_set_ne _ _ _ _ (by omega), live_set_ne _ _ _ _ (by omega)]; exact hold j _ hj) _
def feedN (m : Int) : Nat := (m % 1048576 / 20 % 7).toNat
theorem loop13 (H : Heap) (n m k : Int) (ρ : Fr) (G : Heap) (h : S13 H.length (m % 1048576) (k % 1048576) 0 ρ ∧ M13 H n m k 0 G) :
    ∃ ρ' G', E Tryd.prog hints (.loop l8_0) ρ G = some (.exit 0, ρ', G') ∧ S13 H.length (m % 1048576) (k % 1048576) (feedN m) ρ' ∧ M13 H n m k (feedN m) G' := by
  have hM0 := Int.emod_nonneg m (show (1048576 : Int) ≠ 0 by decide)
  have hM1 := Int.emod_lt_of_pos m (show (0 : Int) < 1048576 by decide)
  have hN : ((feedN m : Nat) : Int) = m % 1048576 / 20 % 7 := by unfold feedN; omega
  refine loop_inv (fun i ρ G => S13 H.length (m % 1048576) (k % 1048576) i ρ ∧ M13 H n m k i G) _ (feedN m) ?_ ?_ ρ G h
  · rintro i ρ G hi ⟨hs, hm⟩
    exact round13 H n m k i (by omega) (by omega) ρ G hs hm
  · rintro ρ G ⟨⟨q1, q2, q6, q7, q8⟩, hm⟩
    have d1 : (m % 1048576).tdiv 20 = m % 1048576 / 20 := tdivL _ _ hM0
    have v1 := wrap64 (m % 1048576 / 20) (by omega) (by omega)
    have d2 : (m % 1048576 / 20).tmod 7 = m % 1048576 / 20 % 7 := tmodL _ _ (by omega)
    have hlt : ¬ (((feedN m : Nat) : Int) < m % 1048576 / 20 % 7) := by omega
    refine ⟨?ρ2, G, ?run2, ?inv2⟩
    case run2 =>
      simp (maxDischargeDepth := 8) only [l8_0, c8_7, q1, q8, d1, v1, d2, hlt, RUN, Ed, knd, kndR, resV, binInt, mnmxV, mnmx2, fillL, unV, lenV, extractV, partV, loadAt, Nat.reduceAdd, Nat.reduceBEq, Nat.reduceEqDiff, Nat.reduceLT, Nat.reduceLeDiff, Nat.reduceMul, Nat.reduceSub, reduceIte, Int.reduceEq, Int.reduceNe, Int.reduceLT, Int.reduceLE, Int.reduceAdd, Int.reduceSub, Int.reduceMul, Int.reduceNeg, Int.reduceMod, Int.reduceDiv, Int.reduceTMod, Int.reduceTDiv, Int.reduceToNat, okChain_i, okLoads_nil, okLoads_in, okLoads_eq]
      rfl
    case inv2 =>
      refine ⟨⟨?_, ?_, ?_, ?_, ?_⟩, hm⟩
      all_goals simp (maxDischargeDepth := 8) only [q1, q2, q6, q7, q8, RUN, Ed, knd, kndR, resV, binInt, mnmxV, mnmx2, fillL, unV, lenV, extractV, partV, loadAt, Nat.reduceAdd, Nat.reduceBEq, Nat.reduceEqDiff, Nat.reduceLT, Nat.reduceLeDiff, Nat.reduceMul, Nat.reduceSub, reduceIte, Int.reduceEq, Int.reduceNe, Int.reduceLT, Int.reduceLE, Int.reduceAdd, Int.reduceSub, Int.reduceMul, Int.reduceNeg, Int.reduceMod, Int.reduceDiv, Int.reduceTMod, Int.reduceTDiv, Int.reduceToNat, okChain_i, okLoads_nil, okLoads_in, okLoads_eq]
/-- What a configuration's feeders are, and where. -/
structure CfgOut (H : Heap) (n m k : Int) (f : Value) (G : Heap) : Prop where
  fd : Feed H.length (k % 1048576) (feedN m) G f
  oc : live G (H.length + 2) = ocvB
  old : ∀ (j : Nat) (b : Blk), live H j = some b → live G j = some b
def CfgR (H : Heap) (n m k : Int) (o : Option (Value × Heap)) : Prop := ∃ f G, o = some (.agg ⟨cfgL (cvG n m k H.length f)⟩, G) ∧ CfgOut H n m k f G
theorem cfgG_take (n m k : Int) (h : Nat) (f : Value) : (cfgL (cvG n m k h f)).take 27 = cfgL (cvG n m k h f) := (rfl)
theorem cfgG_one (n m k : Int) (h : Nat) (f : Value) (hf : f.oneCell' = true) : (cfgL (cvG n m k h f)).all Value.oneCell' = true := by
  cases f <;> first | rfl | cases hf
theorem Feed.one {h : Nat} {K : Int} {i : Nat} {G : Heap} {f : Value} (hf : Feed h K i G f) : f.oneCell' = true := by
  rcases hf with ⟨_, rfl⟩ | ⟨_, b, rfl, _⟩ <;> rfl
end Go.Proofs.YtceildmghmigaaaDoor.Sim
