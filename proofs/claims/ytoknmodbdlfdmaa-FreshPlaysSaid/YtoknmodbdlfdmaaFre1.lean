/- The bank of fresh samples over the plain heap: what a channel's last sample is, and what Put, Get, Age and New do. -/
import Derived.Test.YtoknmodbdlfdmaaPrg
import Derived.Test.YtoknmodbdlfdmaaSim21
import Derived.Test.YtoknmodbdlfdmaaSim24
namespace Go.Proofs.Ytoknmodbdlfdmaa.Sim
open Go
set_option linter.unusedSimpArgs false
set_option linter.unusedVariables false
noncomputable abbrev K := D Try.prog hints
/-- A channel's last sample: its value, its number, its age. -/
abbrev La := Int × Int × Int
def lrow (x : La) : Value := .agg ⟨[.int .i64 x.1, .int .u8 x.2.1, .int .i64 x.2.2]⟩
def rows (L : List (Int × La)) : List (Int × Value) := L.map fun p => (p.1, lrow p.2)
def getL : List (Int × La) → Int → Option La
  | [], _ => none
  | (y, u) :: l, x => if x = y then some u else getL l x
def putL : List (Int × La) → Int → La → List (Int × La)
  | [], x, v => [(x, v)]
  | (y, u) :: l, x, v => if x = y then (y, v) :: l else (y, u) :: putL l x v
theorem findM_rows (L : List (Int × La)) (x : Int) : findM (rows L) x = (getL L x).map lrow := by
  induction L with
  | nil => rfl
  | cons p L ih =>
    obtain ⟨y, u⟩ := p
    simp only [rows, List.map_cons, findM, getL]
    split
    · rfl
    · exact ih
theorem putM_rows (L : List (Int × La)) (x : Int) (v : La) : putM (rows L) x (lrow v) = rows (putL L x v) := by
  induction L with
  | nil => rfl
  | cons p L ih =>
    obtain ⟨y, u⟩ := p
    simp only [rows, List.map_cons, putM, putL]
    split
    · rfl
    · simp only [rows] at ih
      rw [ih]; rfl
theorem getL_putL (L : List (Int × La)) (x : Int) (v : La) (c : Int) : getL (putL L x v) c = if c = x then some v else getL L c := by
  induction L with
  | nil => simp only [putL, getL]
  | cons p L ih =>
    obtain ⟨y, u⟩ := p
    simp only [putL]
    by_cases h : x = y
    · subst h
      rw [if_pos rfl]
      simp only [getL]
      split <;> rfl
    · rw [if_neg h]
      simp only [getL, ih]
      by_cases hc : c = y
      · rw [if_pos hc, if_neg (by omega)]; rw [if_pos hc]
      · rw [if_neg hc, if_neg hc]
def age1 (n : Int) : Int := if 1000 < n + 1 then 1000 else n + 1
def ageA (L : List (Int × La)) : List (Int × La) := L.map fun p => (p.1, p.2.1, p.2.2.1, age1 p.2.2.2)
theorem getL_ageA (L : List (Int × La)) (c : Int) : getL (ageA L) c = (getL L c).map fun x => (x.1, x.2.1, age1 x.2.2) := by
  induction L with
  | nil => rfl
  | cons p L ih =>
    obtain ⟨y, u⟩ := p
    simp only [ageA, List.map_cons, getL] at ih ⊢
    split
    · rfl
    · exact ih
/-- All ages are small. -/
def OldL (L : List (Int × La)) : Prop := ∀ p ∈ L, 0 ≤ p.2.2.2 ∧ p.2.2.2 ≤ 1000
theorem ageM_rows (L : List (Int × La)) (h : OldL L) : ((rows L).all (fun x => ageOk x.2) = true) ∧ ageM (rows L) = rows (ageA L) := by
  refine ⟨by rw [List.all_eq_true]; intro x hx; obtain ⟨p, _, rfl⟩ := List.mem_map.1 hx; rfl, ?_⟩
  unfold ageM rows ageA
  rw [List.map_map, List.map_map]
  refine List.map_congr_left fun p hp => ?_
  have h1 := h p hp
  simp only [Function.comp, lrow, ageW, age1]
  rw [wrap64 _ (by omega) (by omega)]
theorem OldL.age {L : List (Int × La)} (h : OldL L) : OldL (ageA L) := by
  intro p hp
  obtain ⟨q, hq, rfl⟩ := List.mem_map.1 hp
  have := h q hq
  simp only [age1]
  split <;> omega
theorem OldL.put {L : List (Int × La)} (h : OldL L) (x v s : Int) : OldL (putL L x (v, s, 0)) := by
  induction L with
  | nil => intro p hp; simp only [putL, List.mem_singleton] at hp; subst hp; exact ⟨Int.le_refl _, by show (0 : Int) ≤ 1000; omega⟩
  | cons q L ih =>
    obtain ⟨y, u⟩ := q
    have h1 := h _ List.mem_cons_self
    have h2 := ih (fun p hp => h p (List.mem_cons_of_mem _ hp))
    intro p hp
    simp only [putL] at hp
    split at hp
    · rcases List.mem_cons.1 hp with rfl | hp
      · exact ⟨Int.le_refl _, by show (0 : Int) ≤ 1000; omega⟩
      · exact h p (List.mem_cons_of_mem _ hp)
    · rcases List.mem_cons.1 hp with rfl | hp
      · exact h1
      · exact h2 p hp
/-- The bank at p, whose samples are fresh for s cycles; f tells each channel's last one. -/
def BK (H : Heap) (p : Nat) (s : Int) (f : Int → Option La) : Prop := ∃ m L g, live H p = some ⟨true, 48, [.int .i64 s, .map (some m)]⟩ ∧ mlive H m = some (.i64, rows L, g) ∧ OldL L ∧ getL L = f
/-- What was there is as it was; blocks of cells, that is. -/
def Stay (H G : Heap) : Prop := H.length ≤ G.length ∧ ∀ (i : Nat) (b : Blk), live H i = some b → live G i = some b
theorem Stay.refl (H : Heap) : Stay H H := ⟨Nat.le_refl _, fun _ _ h => h⟩
theorem Stay.trans {H G F : Heap} (h : Stay H G) (g : Stay G F) : Stay H F := ⟨Nat.le_trans h.1 g.1, fun i b k => g.2 i b (h.2 i b k)⟩
theorem Ext.stay {H G : Heap} (h : Ext H G) : Stay H G := ⟨h.le, fun _ _ k => h.live k⟩
theorem Ext.mlive {H G : Heap} (h : Ext H G) {i : Nat} {b : MRep} (hb : mlive H i = some b) : Sim.mlive G i = some b := by
  obtain ⟨X, rfl⟩ := h
  rw [mlive_app _ _ _ (mlive_lt hb)]; exact hb
theorem BK.ext {H G : Heap} {p : Nat} {s : Int} {f : Int → Option La} (h : BK H p s f) (e : Ext H G) : BK G p s f := by
  obtain ⟨m, L, g, h1, h2, h3, h4⟩ := h
  exact ⟨m, L, g, e.live h1, e.mlive h2, h3, h4⟩
theorem BK.lt {H : Heap} {p : Nat} {s : Int} {f : Int → Option La} (h : BK H p s f) : p < H.length := by
  obtain ⟨m, L, g, h1, _⟩ := h
  exact live_ltG h1
def newerB (a b : Int) : Bool := decide (1 ≤ IntKind.u8.wrap (a - b)) && decide (IntKind.u8.wrap (a - b) ≤ 127)
theorem newer_f (a b : Int) (H : Heap) : K 11 [.int .u8 a, .int .u8 b] H = some (.bool (newerB a b), H) := by
  rw [K, D_eq p11 _ _ (Nat.le_of_ble_eq_true rfl)]
  unfold newerB
  by_cases h : 1 ≤ IntKind.u8.wrap (a - b)
  · have h1 : decide (1 ≤ IntKind.u8.wrap (a - b)) = true := by simpa using h
    simp (maxDischargeDepth := 8) only [r11, b11, c11_0, c11_1, c11_2, h1, Bool.true_and, RUN, Ed, knd, kndR, resV, binInt, mnmxV, mnmx2, fillL, unV, lenV, extractV, partV, loadAt, Nat.reduceAdd, Nat.reduceBEq, Nat.reduceEqDiff, Nat.reduceLT, Nat.reduceLeDiff, Nat.reduceMul, Nat.reduceSub, reduceIte, Int.reduceEq, Int.reduceNe, Int.reduceLT, Int.reduceLE, Int.reduceAdd, Int.reduceSub, Int.reduceMul, Int.reduceNeg, Int.reduceMod, Int.reduceDiv, Int.reduceTMod, Int.reduceTDiv, Int.reduceToNat, okChain_i, okLoads_nil, okLoads_in, okLoads_eq]
  · have h1 : decide (1 ≤ IntKind.u8.wrap (a - b)) = false := by simpa using h
    simp (maxDischargeDepth := 8) only [r11, b11, c11_0, c11_1, c11_2, h1, Bool.false_and, RUN, Ed, knd, kndR, resV, binInt, mnmxV, mnmx2, fillL, unV, lenV, extractV, partV, loadAt, Nat.reduceAdd, Nat.reduceBEq, Nat.reduceEqDiff, Nat.reduceLT, Nat.reduceLeDiff, Nat.reduceMul, Nat.reduceSub, reduceIte, Int.reduceEq, Int.reduceNe, Int.reduceLT, Int.reduceLE, Int.reduceAdd, Int.reduceSub, Int.reduceMul, Int.reduceNeg, Int.reduceMod, Int.reduceDiv, Int.reduceTMod, Int.reduceTDiv, Int.reduceToNat, okChain_i, okLoads_nil, okLoads_in, okLoads_eq]
def clampZ (x lo hi : Int) : Int := max (min x hi) lo
theorem clamp_f (x lo hi : Int) (H : Heap) : K 21 [.int .i64 x, .int .i64 lo, .int .i64 hi] H = some (.int .i64 (clampZ x lo hi), H) := by
  rw [K, D_eq p21 _ _ (Nat.le_of_ble_eq_true rfl)]
  have e : (if (if hi < x then hi else x) < lo then lo else if hi < x then hi else x) = clampZ x lo hi := by unfold clampZ; split <;> split <;> omega
  simp (maxDischargeDepth := 8) only [r21, b21, c21_0, c21_1, e, RUN, Ed, knd, kndR, resV, binInt, mnmxV, mnmx2, fillL, unV, lenV, extractV, partV, loadAt, Nat.reduceAdd, Nat.reduceBEq, Nat.reduceEqDiff, Nat.reduceLT, Nat.reduceLeDiff, Nat.reduceMul, Nat.reduceSub, reduceIte, Int.reduceEq, Int.reduceNe, Int.reduceLT, Int.reduceLE, Int.reduceAdd, Int.reduceSub, Int.reduceMul, Int.reduceNeg, Int.reduceMod, Int.reduceDiv, Int.reduceTMod, Int.reduceTDiv, Int.reduceToNat, okChain_i, okLoads_nil, okLoads_in, okLoads_eq]
theorem new_f (s : Int) (H : Heap) : ∃ p F, K 10 [.int .i64 s] H = some (.pointer (some ⟨p, 0, none⟩), F) ∧ BK F p (clampZ s 0 1000) (fun _ => none) ∧ Ext H F ∧ H.length ≤ p := by
  have e1 := fun n G => clamp_f n 0 1000 G
  simp only [K] at e1
  refine ⟨H.length + 1, H ++ [some (mapB .i64 [] ([], 0)), some ⟨true, 48, [.int .i64 (clampZ s 0 1000), .map (some H.length)]⟩], ?_, ⟨H.length, [], ([], 0), ?_, ?_, ?_, ?_⟩, Ext.more _ _, by omega⟩
  · rw [K, D_eq p10 _ _ (Nat.le_of_ble_eq_true rfl)]
    simp (maxDischargeDepth := 8) only [r10, b10, c10_0, c10_1, e1, RUN, Ed, knd, kndR, resV, binInt, mnmxV, mnmx2, fillL, unV, lenV, extractV, partV, loadAt, Nat.reduceAdd, Nat.reduceBEq, Nat.reduceEqDiff, Nat.reduceLT, Nat.reduceLeDiff, Nat.reduceMul, Nat.reduceSub, reduceIte, Int.reduceEq, Int.reduceNe, Int.reduceLT, Int.reduceLE, Int.reduceAdd, Int.reduceSub, Int.reduceMul, Int.reduceNeg, Int.reduceMod, Int.reduceDiv, Int.reduceTMod, Int.reduceTDiv, Int.reduceToNat, okChain_i, okLoads_nil, okLoads_in, okLoads_eq]
  · rw [live_app_add]; rfl
  · rw [mlive_app_len, mlive_cons_zero]; rfl
  · intro p hp; cases hp
  · funext c; rfl
end Go.Proofs.Ytoknmodbdlfdmaa.Sim
