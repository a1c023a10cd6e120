/- The cells of chapter 15 over the plain heap. -/
import Derived.Test.YtncpbbdgckkdmaaLoc4
import Derived.Test.YtncpbbdgckkdmaaSim21
namespace Go.Proofs.Ytncpbbdgckkdmaa.Sim
open Go
set_option linter.unusedSimpArgs false
set_option linter.unusedVariables false
theorem fsub_f (a b : Int) (H : Heap) (ha : -1000000 ≤ a ∧ a ≤ 1000000) (hb : -1000000 ≤ b ∧ b ≤ 1000000) : K 28 [.int .i64 a, .int .i64 b] H = some (.int .i64 (a - b), H) := by
  have w := wrap64 (a - b) (by omega) (by omega)
  rw [K, D_eq p28 _ _ (Nat.le_of_ble_eq_true rfl)]
  by_cases h1 : b < 0
  · have w1 := wrap64 (9223372036854775807 + b) (by omega) (by omega)
    have n1 : ¬ 9223372036854775807 + b < a := by omega
    have n2 : ¬ 0 < b := by omega
    simp (maxDischargeDepth := 8) only [r28, b28, c28_0, c28_1, c28_2, c28_3, c28_4, c28_5, h1, w1, n1, n2, w, RUN, Ed, knd, kndR, resV, binInt, mnmxV, mnmx2, fillL, unV, lenV, extractV, partV, loadAt, Nat.reduceAdd, Nat.reduceBEq, Nat.reduceEqDiff, Nat.reduceLT, Nat.reduceLeDiff, Nat.reduceMul, Nat.reduceSub, reduceIte, Int.reduceEq, Int.reduceNe, Int.reduceLT, Int.reduceLE, Int.reduceAdd, Int.reduceSub, Int.reduceMul, Int.reduceNeg, Int.reduceMod, Int.reduceDiv, Int.reduceTMod, Int.reduceTDiv, Int.reduceToNat, okChain_i, okLoads_nil, okLoads_in, okLoads_eq]
  · by_cases h2 : 0 < b
    · have w1 := wrap64 (-9223372036854775808 + b) (by omega) (by omega)
      have n1 : ¬ a < -9223372036854775808 + b := by omega
      simp (maxDischargeDepth := 8) only [r28, b28, c28_0, c28_1, c28_2, c28_3, c28_4, c28_5, h1, h2, w1, n1, w, RUN, Ed, knd, kndR, resV, binInt, mnmxV, mnmx2, fillL, unV, lenV, extractV, partV, loadAt, Nat.reduceAdd, Nat.reduceBEq, Nat.reduceEqDiff, Nat.reduceLT, Nat.reduceLeDiff, Nat.reduceMul, Nat.reduceSub, reduceIte, Int.reduceEq, Int.reduceNe, Int.reduceLT, Int.reduceLE, Int.reduceAdd, Int.reduceSub, Int.reduceMul, Int.reduceNeg, Int.reduceMod, Int.reduceDiv, Int.reduceTMod, Int.reduceTDiv, Int.reduceToNat, okChain_i, okLoads_nil, okLoads_in, okLoads_eq]
    · simp (maxDischargeDepth := 8) only [r28, b28, c28_0, c28_1, c28_2, c28_3, c28_4, c28_5, h1, h2, w, RUN, Ed, knd, kndR, resV, binInt, mnmxV, mnmx2, fillL, unV, lenV, extractV, partV, loadAt, Nat.reduceAdd, Nat.reduceBEq, Nat.reduceEqDiff, Nat.reduceLT, Nat.reduceLeDiff, Nat.reduceMul, Nat.reduceSub, reduceIte, Int.reduceEq, Int.reduceNe, Int.reduceLT, Int.reduceLE, Int.reduceAdd, Int.reduceSub, Int.reduceMul, Int.reduceNeg, Int.reduceMod, Int.reduceDiv, Int.reduceTMod, Int.reduceTDiv, Int.reduceToNat, okChain_i, okLoads_nil, okLoads_in, okLoads_eq]
/-- What is amiss, as a number. -/
def e3 (u o g : Bool) : Int := (if u = true then 1 else 0) + (if o = true then 2 else 0) + (if g = true then 4 else 0)
theorem e3_1 (u o g : Bool) : IntKind.i64.wrap (BitVec.ofInt IntKind.i64.bits (e3 u o g) ||| BitVec.ofInt IntKind.i64.bits 1).toNat = e3 true o g := by
  cases u <;> cases o <;> cases g <;> rfl
theorem e3_2 (u o g : Bool) : IntKind.i64.wrap (BitVec.ofInt IntKind.i64.bits (e3 u o g) ||| BitVec.ofInt IntKind.i64.bits 2).toNat = e3 u true g := by
  cases u <;> cases o <;> cases g <;> rfl
theorem e3_4 (u o g : Bool) : IntKind.i64.wrap (BitVec.ofInt IntKind.i64.bits (e3 u o g) ||| BitVec.ofInt IntKind.i64.bits 4).toNat = e3 u o true := by
  cases u <;> cases o <;> cases g <;> rfl
def iL (L : List Int) : List Value := L.map (Value.int .i64)
theorem iL_len (L : List Int) : (iL L).length = L.length := by simp [iL]
theorem iL_app (l m : List Int) : iL (l ++ m) = iL l ++ iL m := by simp [iL]
theorem iL_get (L : List Int) (j : Nat) (a : Int) (h : L[j]? = some a) : (iL L)[j]? = some (.int .i64 a) := by simp [iL, h]
/-- A list grown by append, behind a heap. -/
def SL (H G : Heap) (v : Value) (L : List Int) : Prop := (∃ X, G = H ++ X) ∧ ((L = [] ∧ v = .slice none 0 0) ∨ (L ≠ [] ∧ ∃ c, H.length ≤ c ∧ v = .slice (some ⟨c, 0, none⟩) L.length 1 ∧ live G c = some ⟨true, 2, iL L⟩))
theorem append_nilG {ty esz bytes : Nat} {H : Heap} {i n e t : Nat} {o : Bool} {cs : List Value} (h : live H i = some ⟨o, t, cs⟩) (hn : 0 < n) (hl : n * esz ≤ cs.length) (hb : n * bytes ≤ 140737488355328) :
    appendV ty esz bytes H (.slice none 0 0) (.slice (some ⟨i, 0, none⟩) n e) = some (.slice (some ⟨H.length, 0, none⟩) n esz, H ++ [some ⟨true, ty, cs.take (n * esz)⟩]) := by
  unfold appendV
  simp only [sliceCells, h, Option.bind_some]
  rw [if_pos (by omega), Option.bind_some]
  refine (if_neg (show ¬ n = 0 by omega)).trans ((if_pos hb).trans ?_)
  simp only [List.drop_zero]
  rfl
theorem append_consG {ty esz bytes : Nat} {H : Heap} {i n e j m t : Nat} {o : Bool} {cs ds : List Value} (hi : live H i = some ⟨true, ty, ds⟩) (hd : ds.length = n * esz) (h : live H j = some ⟨o, t, cs⟩) (hm : 0 < m) (hl : m * esz ≤ cs.length) (hb : (n + m) * bytes ≤ 140737488355328)
    (h1 : (cs.take (m * esz)).all Value.oneCell' = true) :
    appendV ty esz bytes H (.slice (some ⟨i, 0, none⟩) n esz) (.slice (some ⟨j, 0, none⟩) m e) = some (.slice (some ⟨H.length, 0, none⟩) (n + m) esz, H.set i none ++ [some ⟨true, ty, ds ++ cs.take (m * esz)⟩]) := by
  unfold appendV
  simp only [sliceCells, h, Option.bind_some]
  rw [if_pos (by omega), Option.bind_some]
  refine (if_neg (show ¬ m = 0 by omega)).trans ?_
  rw [hi, Option.bind_some]
  simp only [List.drop_zero]
  exact if_pos ⟨trivial, trivial, trivial, hd, hb, h1⟩
theorem set_more {H X : Heap} {i : Nat} (h : H.length ≤ i) (y : Option Blk) : ∃ Z, (H ++ X).set i y = H ++ Z := ⟨X.set (i - H.length) y, by rw [List.set_append_right _ _ h]⟩
structure S14 (p3 p5 : Nat) (cells : List Value) (k : Int) (v : Value) (ρ : Fr) : Prop where
  r3 : ρ 3 = .pointer (some ⟨p3, 0, none⟩)
  r5 : ρ 5 = .pointer (some ⟨p5, 0, none⟩)
  r7 : ρ 7 = .int .i64 (e3 false false false)
  r8 : ρ 8 = v
  r15 : ρ 15 = .agg ⟨cells⟩
  r16 : ρ 16 = .int .i64 k
theorem round14 (H : Heap) (p3 p5 : Nat) (cells : List Value) (k k' : Int) (hk : k < 4) (hk' : IntKind.i64.wrap (k + 1) = k') (a : Int) (f : Bool) (hp : idxVV true 4 2 (.agg ⟨cells⟩) (.int .i64 k) = some (.agg ⟨[.int .i64 a, .bool f]⟩)) (v : Value) (L : List Int) (hL : L.length ≤ 10) (ρ : Fr) (G : Heap) (hs : S14 p3 p5 cells k v ρ) (hm : SL H G v L) :
    ∃ ρ' G' v', E Try.prog hints l14_0 ρ G = some (.normal, ρ', G') ∧ S14 p3 p5 cells k' v' ρ' ∧ SL H G' v' (if f = true then L ++ [a] else L) := by
  obtain ⟨r3, r5, r7, r8, r15, r16⟩ := hs
  obtain ⟨⟨X, rfl⟩, hv⟩ := hm
  cases f
  · refine ⟨?ρ1, ?G1, v, ?run1, ⟨?_, ?_, ?_, ?_, ?_, ?_⟩, ?inv1⟩
    case run1 =>
      simp (maxDischargeDepth := 8) only [l14_0, c14_4, c14_5, c14_6, c14_8, r3, r5, r7, r8, r15, r16, hk, hk', hp, RUN, Ed, knd, kndR, resV, binInt, mnmxV, mnmx2, fillL, unV, lenV, extractV, partV, loadAt, Nat.reduceAdd, Nat.reduceBEq, Nat.reduceEqDiff, Nat.reduceLT, Nat.reduceLeDiff, Nat.reduceMul, Nat.reduceSub, reduceIte, Int.reduceEq, Int.reduceNe, Int.reduceLT, Int.reduceLE, Int.reduceAdd, Int.reduceSub, Int.reduceMul, Int.reduceNeg, Int.reduceMod, Int.reduceDiv, Int.reduceTMod, Int.reduceTDiv, Int.reduceToNat, okChain_i, okLoads_nil, okLoads_in, okLoads_eq]
      rfl
    case inv1 =>
      refine ⟨⟨_, rfl⟩, ?_⟩
      rw [if_neg (by simp)]
      rcases hv with h | ⟨h1, c, h2, h3, h4⟩
      · exact .inl h
      · exact .inr ⟨h1, c, h2, h3, by rw [← List.append_assoc, live_app _ _ _ (live_lt h4)]; exact h4⟩
    all_goals simp (maxDischargeDepth := 8) only [r3, r5, r7, r8, r15, r16, RUN, Ed, knd, kndR, resV, binInt, mnmxV, mnmx2, fillL, unV, lenV, extractV, partV, loadAt, Nat.reduceAdd, Nat.reduceBEq, Nat.reduceEqDiff, Nat.reduceLT, Nat.reduceLeDiff, Nat.reduceMul, Nat.reduceSub, reduceIte, Int.reduceEq, Int.reduceNe, Int.reduceLT, Int.reduceLE, Int.reduceAdd, Int.reduceSub, Int.reduceMul, Int.reduceNeg, Int.reduceMod, Int.reduceDiv, Int.reduceTMod, Int.reduceTDiv, Int.reduceToNat, okChain_i, okLoads_nil, okLoads_in, okLoads_eq]
  · rcases hv with ⟨rfl, rfl⟩ | ⟨h1, c, h2, rfl, h4⟩
    · have ea := append_nilG (ty := 2) (esz := 1) (bytes := 8) (H := (H ++ X) ++ [some ⟨true, 29, [.int .i64 a, .bool true]⟩, some ⟨true, 2, [.int .i64 a]⟩]) (i := (H ++ X).length + 1) (n := 1) (e := 1) (o := true) (t := 2) (cs := [.int .i64 a]) (by rw [live_app_add]; rfl) (by omega) (by simp) (by omega)
      rw [show ([Value.int .i64 a]).take (1 * 1) = iL [a] from rfl] at ea
      simp only [List.length_append, List.length_cons, List.length_nil, Nat.zero_add, Nat.reduceAdd, List.append_assoc, List.cons_append, List.nil_append, Nat.add_assoc] at ea
      refine ⟨?ρ2, ?G2, .slice (some ⟨H.length + (X.length + 2), 0, none⟩) 1 1, ?run2, ⟨?_, ?_, ?_, ?_, ?_, ?_⟩, ?inv2⟩
      case run2 =>
        simp (maxDischargeDepth := 8) only [l14_0, c14_4, c14_5, c14_6, c14_7, c14_8, r3, r5, r7, r8, r15, r16, hk, hk', hp, ea, RUN, Ed, knd, kndR, resV, binInt, mnmxV, mnmx2, fillL, unV, lenV, extractV, partV, loadAt, Nat.reduceAdd, Nat.reduceBEq, Nat.reduceEqDiff, Nat.reduceLT, Nat.reduceLeDiff, Nat.reduceMul, Nat.reduceSub, reduceIte, Int.reduceEq, Int.reduceNe, Int.reduceLT, Int.reduceLE, Int.reduceAdd, Int.reduceSub, Int.reduceMul, Int.reduceNeg, Int.reduceMod, Int.reduceDiv, Int.reduceTMod, Int.reduceTDiv, Int.reduceToNat, okChain_i, okLoads_nil, okLoads_in, okLoads_eq]
        rfl
      case inv2 =>
        refine ⟨⟨_, rfl⟩, .inr ?_⟩
        rw [if_pos rfl]
        refine ⟨by simp, H.length + (X.length + 2), by omega, rfl, ?_⟩
        rw [live_app_add]
        exact (live_app_add _ _ _).trans rfl
      all_goals simp (maxDischargeDepth := 8) only [r3, r5, r7, r8, r15, r16, RUN, Ed, knd, kndR, resV, binInt, mnmxV, mnmx2, fillL, unV, lenV, extractV, partV, loadAt, Nat.reduceAdd, Nat.reduceBEq, Nat.reduceEqDiff, Nat.reduceLT, Nat.reduceLeDiff, Nat.reduceMul, Nat.reduceSub, reduceIte, Int.reduceEq, Int.reduceNe, Int.reduceLT, Int.reduceLE, Int.reduceAdd, Int.reduceSub, Int.reduceMul, Int.reduceNeg, Int.reduceMod, Int.reduceDiv, Int.reduceTMod, Int.reduceTDiv, Int.reduceToNat, okChain_i, okLoads_nil, okLoads_in, okLoads_eq]
    · have ic := live_lt h4
      have ea := append_consG (ty := 2) (esz := 1) (bytes := 8) (H := (H ++ X) ++ [some ⟨true, 29, [.int .i64 a, .bool true]⟩, some ⟨true, 2, [.int .i64 a]⟩]) (i := c) (n := L.length) (j := (H ++ X).length + 1) (m := 1) (e := 1) (o := true) (t := 2) (cs := [.int .i64 a]) (ds := iL L) (by rw [live_app _ _ _ ic]; exact h4) (by rw [iL_len, Nat.mul_one]) (by rw [live_app_add]; rfl) (by omega) (by simp) (by omega) (by rfl)
      obtain ⟨Z, hZ⟩ := set_more (X := X) h2 none
      have hZl : X.length = Z.length := by have := congrArg List.length hZ; simpa using this
      rw [show ([Value.int .i64 a]).take (1 * 1) = iL [a] from rfl, ← iL_app, set_app _ _ _ _ ic, hZ] at ea
      simp only [List.length_append, List.length_cons, List.length_nil, Nat.zero_add, Nat.reduceAdd, List.append_assoc, List.cons_append, List.nil_append, Nat.add_assoc] at ea
      refine ⟨?ρ3, ?G3, .slice (some ⟨H.length + (X.length + 2), 0, none⟩) (L.length + 1) 1, ?run3, ⟨?_, ?_, ?_, ?_, ?_, ?_⟩, ?inv3⟩
      case run3 =>
        simp (maxDischargeDepth := 8) only [l14_0, c14_4, c14_5, c14_6, c14_7, c14_8, r3, r5, r7, r8, r15, r16, hk, hk', hp, ea, RUN, Ed, knd, kndR, resV, binInt, mnmxV, mnmx2, fillL, unV, lenV, extractV, partV, loadAt, Nat.reduceAdd, Nat.reduceBEq, Nat.reduceEqDiff, Nat.reduceLT, Nat.reduceLeDiff, Nat.reduceMul, Nat.reduceSub, reduceIte, Int.reduceEq, Int.reduceNe, Int.reduceLT, Int.reduceLE, Int.reduceAdd, Int.reduceSub, Int.reduceMul, Int.reduceNeg, Int.reduceMod, Int.reduceDiv, Int.reduceTMod, Int.reduceTDiv, Int.reduceToNat, okChain_i, okLoads_nil, okLoads_in, okLoads_eq]
        rfl
      case inv3 =>
        refine ⟨⟨_, rfl⟩, .inr ?_⟩
        rw [if_pos rfl]
        refine ⟨by simp, H.length + (X.length + 2), by omega, by simp, ?_⟩
        rw [live_app_add, hZl]
        exact (live_app_add _ _ _).trans rfl
      all_goals simp (maxDischargeDepth := 8) only [r3, r5, r7, r8, r15, r16, RUN, Ed, knd, kndR, resV, binInt, mnmxV, mnmx2, fillL, unV, lenV, extractV, partV, loadAt, Nat.reduceAdd, Nat.reduceBEq, Nat.reduceEqDiff, Nat.reduceLT, Nat.reduceLeDiff, Nat.reduceMul, Nat.reduceSub, reduceIte, Int.reduceEq, Int.reduceNe, Int.reduceLT, Int.reduceLE, Int.reduceAdd, Int.reduceSub, Int.reduceMul, Int.reduceNeg, Int.reduceMod, Int.reduceDiv, Int.reduceTMod, Int.reduceTDiv, Int.reduceToNat, okChain_i, okLoads_nil, okLoads_in, okLoads_eq]
theorem SL.len {H G : Heap} {v : Value} {L : List Int} (h : SL H G v L) : lenV false v = some (.int .i64 L.length) := by
  rcases h.2 with ⟨rfl, rfl⟩ | ⟨_, c, _, rfl, _⟩ <;> rfl
theorem SL.idx {H G : Heap} {v : Value} {L : List Int} (h : SL H G v L) {j : Nat} {a : Int} (ha : L[j]? = some a) : ∃ c, idxSV 1 v (.int .i64 j) = some (.pointer (some ⟨c, j, none⟩)) ∧ live G c = some ⟨true, 2, iL L⟩ ∧ (iL L)[j]? = some (.int .i64 a) := by
  have hj : j < L.length := by
    rcases Nat.lt_or_ge j L.length with q | q
    · exact q
    · rw [List.getElem?_eq_none q] at ha; cases ha
  rcases h.2 with ⟨rfl, rfl⟩ | ⟨_, c, _, rfl, h4⟩
  · simp at hj
  · exact ⟨c, by rw [idxS_s _ _ _ _ _ _ _ (by omega) (by omega)]; simp, h4, iL_get L j a ha⟩
theorem take_get {α : Type} (A : List α) (k : Nat) (a : α) (h : A[k]? = some a) : A.take (k + 1) = A.take k ++ [a] := by
  rw [List.take_add_one, h]; rfl
structure T14 (p3 p5 : Nat) (v : Value) (n : Nat) (i : Nat) (w : Int) (ρ : Fr) : Prop where
  r3 : ρ 3 = .pointer (some ⟨p3, 0, none⟩)
  r5 : ρ 5 = .pointer (some ⟨p5, 0, none⟩)
  r7 : ρ 7 = .int .i64 w
  r8 : ρ 8 = v
  r27 : ρ 27 = v
  r28 : ρ 28 = .int .i64 n
  r29 : ρ 29 = .int .i64 i
/-- The bounds that a configuration names. -/
structure Cf (cf : List Value) (mn mx gap tm : Int) : Prop where
  c11 : cf[11]? = some (.int .i64 mn)
  c12 : cf[12]? = some (.int .i64 mx)
  c13 : cf[13]? = some (.int .i64 gap)
  c14 : cf[14]? = some (.int .i64 tm)
def In6 (L : List Int) : Prop := ∀ b ∈ L, 0 ≤ b ∧ b ≤ 6000
def gp (L : List Int) (gap a : Int) : Bool := L.any fun b => decide (gap < a - b)
theorem gp_succ (L : List Int) (gap a : Int) (j : Nat) (b : Int) (h : L[j]? = some b) : gp (L.take (j + 1)) gap a = (gp (L.take j) gap a || decide (gap < a - b)) := by
  unfold gp
  rw [take_get L j b h, List.any_append]
  simp
theorem inner14 (H : Heap) (p3 p5 : Nat) (v : Value) (L : List Int) (hL : L.length ≤ 10) (hI : In6 L) (cf : List Value) (mn mx gap tm : Int) (hcf : Cf cf mn mx gap tm) (hg : -1000000 ≤ gap ∧ gap ≤ 1000000) (i : Nat) (u o g : Bool) (a : Int) (ha : 0 ≤ a ∧ a ≤ 6000) (ρ : Fr) (G : Heap) (hs : T14 p3 p5 v L.length i (e3 u o g) ρ) (r12 : ρ 12 = .int .i64 a) (r45 : ρ 45 = v) (r46 : ρ 46 = .int .i64 L.length) (r47 : ρ 47 = .int .i64 0) (hm : SL H G v L) (k3 : live G p3 = some ⟨true, 26, cf⟩) :
    ∃ ρ' G', E Try.prog hints (.loop l14_1) ρ G = some (.exit 4, ρ', G') ∧ (T14 p3 p5 v L.length i (e3 u o (g || gp L gap a)) ρ' ∧ G' = G) := by
  have l1 := hm.len
  have i3 := live_lt k3
  refine loop_inv (fun j ρ G' => T14 p3 p5 v L.length i (e3 u o (g || gp (L.take j) gap a)) ρ ∧ ρ 12 = .int .i64 a ∧ ρ 45 = v ∧ ρ 46 = .int .i64 L.length ∧ ρ 47 = .int .i64 j ∧ G' = G) (fun ρ G' => T14 p3 p5 v L.length i (e3 u o (g || gp L gap a)) ρ ∧ G' = G) L.length ?_ ?_ ρ G ⟨by simpa [gp] using hs, r12, r45, r46, r47, rfl⟩
  · rintro j ρ G' hj ⟨⟨r3, r5, r7, r8, r27, r28, r29⟩, r12, r45, r46, r47, rfl⟩
    have hb : L[j]? = some L[j] := List.getElem?_eq_getElem hj
    obtain ⟨c, x1, x2, x3⟩ := hm.idx hb
    have ic := live_lt x2
    have hlt : (j : Int) < (L.length : Int) := by omega
    have w := wrap64 ((j : Int) + 1) (by omega) (by omega)
    have hbr := hI L[j] (List.getElem_mem hj)
    have es := fun F => fsub_f a L[j] F (by omega) (by omega)
    simp only [K] at es
    have hgs := gp_succ L gap a j L[j] hb
    have hc13 := hcf.c13
    generalize gp (L.take j) gap a = gj at r7 hgs
    rw [hgs]
    generalize L[j] = b at *
    by_cases hgb : gap < a - b
    · have e4 := e3_4 u o (g || gj)
      refine ⟨?ρ1, G', ?run1, ⟨?_, ?_, ?_, ?_, ?_, ?_, ?_⟩, ?_, ?_, ?_, ?_, rfl⟩
      case run1 =>
        simp (maxDischargeDepth := 8) only [l14_1, c14_17, c14_18, c14_19, c14_20, c14_21, r3, r5, r7, r8, r27, r28, r29, r12, r45, r46, r47, hlt, x1, x2, x3, ic, i3, k3, hc13, es, hgb, e4, w, okChain_all, RUN, Ed, knd, kndR, resV, binInt, mnmxV, mnmx2, fillL, unV, lenV, extractV, partV, loadAt, Nat.reduceAdd, Nat.reduceBEq, Nat.reduceEqDiff, Nat.reduceLT, Nat.reduceLeDiff, Nat.reduceMul, Nat.reduceSub, reduceIte, Int.reduceEq, Int.reduceNe, Int.reduceLT, Int.reduceLE, Int.reduceAdd, Int.reduceSub, Int.reduceMul, Int.reduceNeg, Int.reduceMod, Int.reduceDiv, Int.reduceTMod, Int.reduceTDiv, Int.reduceToNat]
        rfl
      all_goals first | (simp (maxDischargeDepth := 8) only [r3, r5, r7, r8, r27, r28, r29, r12, r45, r46, r47, hgb, RUN, Ed, knd, kndR, resV, binInt, mnmxV, mnmx2, fillL, unV, lenV, extractV, partV, loadAt, Nat.reduceAdd, Nat.reduceBEq, Nat.reduceEqDiff, Nat.reduceLT, Nat.reduceLeDiff, Nat.reduceMul, Nat.reduceSub, reduceIte, Int.reduceEq, Int.reduceNe, Int.reduceLT, Int.reduceLE, Int.reduceAdd, Int.reduceSub, Int.reduceMul, Int.reduceNeg, Int.reduceMod, Int.reduceDiv, Int.reduceTMod, Int.reduceTDiv, Int.reduceToNat, okChain_i, okLoads_nil, okLoads_in, okLoads_eq]; done) | (simp (maxDischargeDepth := 8) only [r3, r5, r7, r8, r27, r28, r29, r12, r45, r46, r47, hgb, RUN, Ed, knd, kndR, resV, binInt, mnmxV, mnmx2, fillL, unV, lenV, extractV, partV, loadAt, Nat.reduceAdd, Nat.reduceBEq, Nat.reduceEqDiff, Nat.reduceLT, Nat.reduceLeDiff, Nat.reduceMul, Nat.reduceSub, reduceIte, Int.reduceEq, Int.reduceNe, Int.reduceLT, Int.reduceLE, Int.reduceAdd, Int.reduceSub, Int.reduceMul, Int.reduceNeg, Int.reduceMod, Int.reduceDiv, Int.reduceTMod, Int.reduceTDiv, Int.reduceToNat, okChain_i, okLoads_nil, okLoads_in, okLoads_eq]; rfl) | (simp (maxDischargeDepth := 8) only [r3, r5, r7, r8, r27, r28, r29, r12, r45, r46, r47, hgb, RUN, Ed, knd, kndR, resV, binInt, mnmxV, mnmx2, fillL, unV, lenV, extractV, partV, loadAt, Nat.reduceAdd, Nat.reduceBEq, Nat.reduceEqDiff, Nat.reduceLT, Nat.reduceLeDiff, Nat.reduceMul, Nat.reduceSub, reduceIte, Int.reduceEq, Int.reduceNe, Int.reduceLT, Int.reduceLE, Int.reduceAdd, Int.reduceSub, Int.reduceMul, Int.reduceNeg, Int.reduceMod, Int.reduceDiv, Int.reduceTMod, Int.reduceTDiv, Int.reduceToNat, okChain_i, okLoads_nil, okLoads_in, okLoads_eq]; simp)
    · refine ⟨?ρ2, G', ?run2, ⟨?_, ?_, ?_, ?_, ?_, ?_, ?_⟩, ?_, ?_, ?_, ?_, rfl⟩
      case run2 =>
        simp (maxDischargeDepth := 8) only [l14_1, c14_17, c14_18, c14_19, c14_20, c14_21, r3, r5, r7, r8, r27, r28, r29, r12, r45, r46, r47, hlt, x1, x2, x3, ic, i3, k3, hc13, es, hgb, w, okChain_all, RUN, Ed, knd, kndR, resV, binInt, mnmxV, mnmx2, fillL, unV, lenV, extractV, partV, loadAt, Nat.reduceAdd, Nat.reduceBEq, Nat.reduceEqDiff, Nat.reduceLT, Nat.reduceLeDiff, Nat.reduceMul, Nat.reduceSub, reduceIte, Int.reduceEq, Int.reduceNe, Int.reduceLT, Int.reduceLE, Int.reduceAdd, Int.reduceSub, Int.reduceMul, Int.reduceNeg, Int.reduceMod, Int.reduceDiv, Int.reduceTMod, Int.reduceTDiv, Int.reduceToNat]
        rfl
      all_goals first | (simp (maxDischargeDepth := 8) only [r3, r5, r7, r8, r27, r28, r29, r12, r45, r46, r47, hgb, RUN, Ed, knd, kndR, resV, binInt, mnmxV, mnmx2, fillL, unV, lenV, extractV, partV, loadAt, Nat.reduceAdd, Nat.reduceBEq, Nat.reduceEqDiff, Nat.reduceLT, Nat.reduceLeDiff, Nat.reduceMul, Nat.reduceSub, reduceIte, Int.reduceEq, Int.reduceNe, Int.reduceLT, Int.reduceLE, Int.reduceAdd, Int.reduceSub, Int.reduceMul, Int.reduceNeg, Int.reduceMod, Int.reduceDiv, Int.reduceTMod, Int.reduceTDiv, Int.reduceToNat, okChain_i, okLoads_nil, okLoads_in, okLoads_eq]; done) | (simp (maxDischargeDepth := 8) only [r3, r5, r7, r8, r27, r28, r29, r12, r45, r46, r47, hgb, RUN, Ed, knd, kndR, resV, binInt, mnmxV, mnmx2, fillL, unV, lenV, extractV, partV, loadAt, Nat.reduceAdd, Nat.reduceBEq, Nat.reduceEqDiff, Nat.reduceLT, Nat.reduceLeDiff, Nat.reduceMul, Nat.reduceSub, reduceIte, Int.reduceEq, Int.reduceNe, Int.reduceLT, Int.reduceLE, Int.reduceAdd, Int.reduceSub, Int.reduceMul, Int.reduceNeg, Int.reduceMod, Int.reduceDiv, Int.reduceTMod, Int.reduceTDiv, Int.reduceToNat, okChain_i, okLoads_nil, okLoads_in, okLoads_eq]; rfl) | (simp (maxDischargeDepth := 8) only [r3, r5, r7, r8, r27, r28, r29, r12, r45, r46, r47, hgb, RUN, Ed, knd, kndR, resV, binInt, mnmxV, mnmx2, fillL, unV, lenV, extractV, partV, loadAt, Nat.reduceAdd, Nat.reduceBEq, Nat.reduceEqDiff, Nat.reduceLT, Nat.reduceLeDiff, Nat.reduceMul, Nat.reduceSub, reduceIte, Int.reduceEq, Int.reduceNe, Int.reduceLT, Int.reduceLE, Int.reduceAdd, Int.reduceSub, Int.reduceMul, Int.reduceNeg, Int.reduceMod, Int.reduceDiv, Int.reduceTMod, Int.reduceTDiv, Int.reduceToNat, okChain_i, okLoads_nil, okLoads_in, okLoads_eq]; simp)
  · rintro ρ G' ⟨⟨r3, r5, r7, r8, r27, r28, r29⟩, r12, r45, r46, r47, rfl⟩
    rw [List.take_length] at r7
    have hlt : ¬ (L.length : Int) < (L.length : Int) := by omega
    refine ⟨?ρ3, G', ?run3, ⟨?_, ?_, ?_, ?_, ?_, ?_, ?_⟩, rfl⟩
    case run3 =>
      simp (maxDischargeDepth := 8) only [l14_1, c14_17, r46, r47, hlt, RUN, Ed, knd, kndR, resV, binInt, mnmxV, mnmx2, fillL, unV, lenV, extractV, partV, loadAt, Nat.reduceAdd, Nat.reduceBEq, Nat.reduceEqDiff, Nat.reduceLT, Nat.reduceLeDiff, Nat.reduceMul, Nat.reduceSub, reduceIte, Int.reduceEq, Int.reduceNe, Int.reduceLT, Int.reduceLE, Int.reduceAdd, Int.reduceSub, Int.reduceMul, Int.reduceNeg, Int.reduceMod, Int.reduceDiv, Int.reduceTMod, Int.reduceTDiv, Int.reduceToNat, okChain_i, okLoads_nil, okLoads_in, okLoads_eq]
      rfl
    all_goals simp (maxDischargeDepth := 8) only [r3, r5, r7, r8, r27, r28, r29, RUN, Ed, knd, kndR, resV, binInt, mnmxV, mnmx2, fillL, unV, lenV, extractV, partV, loadAt, Nat.reduceAdd, Nat.reduceBEq, Nat.reduceEqDiff, Nat.reduceLT, Nat.reduceLeDiff, Nat.reduceMul, Nat.reduceSub, reduceIte, Int.reduceEq, Int.reduceNe, Int.reduceLT, Int.reduceLE, Int.reduceAdd, Int.reduceSub, Int.reduceMul, Int.reduceNeg, Int.reduceMod, Int.reduceDiv, Int.reduceTMod, Int.reduceTDiv, Int.reduceToNat, okChain_i, okLoads_nil, okLoads_in, okLoads_eq]
def uP (L : List Int) (mn : Int) : Bool := L.any fun a => decide (a < mn)
def oP (L : List Int) (mx : Int) : Bool := L.any fun a => decide (mx < a)
def gP (M L : List Int) (gap : Int) : Bool := M.any fun a => gp L gap a
theorem any_succ (p : Int → Bool) (L : List Int) (j : Nat) (b : Int) (h : L[j]? = some b) : (L.take (j + 1)).any p = ((L.take j).any p || p b) := by
  rw [take_get L j b h, List.any_append]
  simp
end Go.Proofs.Ytncpbbdgckkdmaa.Sim
