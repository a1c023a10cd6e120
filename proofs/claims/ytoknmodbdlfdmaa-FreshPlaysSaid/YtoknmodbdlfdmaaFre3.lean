/- What Get, Age and Tick do; numbers; the chapter's examples. -/
import Derived.Test.YtoknmodbdlfdmaaFre2
import Derived.Test.YtoknmodbdlfdmaaSim21
namespace Go.Proofs.Ytoknmodbdlfdmaa.Sim
open Go
set_option linter.unusedSimpArgs false
set_option linter.unusedVariables false
def valF (f : Int → Option La) (c : Int) : Int := match f c with | none => 0 | some x => x.1
def isF (f : Int → Option La) (s c : Int) : Bool := match f c with | none => false | some x => decide (x.2.2 ≤ s)
def ageF (f : Int → Option La) (c : Int) : Int := match f c with | none => 1000 | some x => x.2.2
theorem get_f {F : Heap} {p : Nat} {s : Int} {f : Int → Option La} (hb : BK F p s f) (c : Int) :
    ∃ X, K 13 [.pointer (some ⟨p, 0, none⟩), .int .i64 c] F = some (.tuple ⟨[.int .i64 (valF f c), .bool (isF f s c)]⟩, F ++ X) := by
  rw [K, D_eq p13 _ _ (Nat.le_of_ble_eq_true rfl)]
  obtain ⟨m, L, g, h1, h2, h3, h4⟩ := hb
  have j1 := live_ltG h1
  have j2 := mlive_lt h2
  unfold valF isF
  cases hl : f c with
  | none =>
    have hlk : findM (rows L) c = none := by rw [findM_rows, h4, hl]; rfl
    refine ⟨?X1, ?run1⟩
    case run1 =>
      simp (maxDischargeDepth := 8) only [r13, b13, c13_0, c13_1, c13_2, h1, h2, j1, j2, hlk, okChain_all, RUN, Ed, knd, kndR, resV, binInt, mnmxV, mnmx2, fillL, unV, lenV, extractV, partV, loadAt, Nat.reduceAdd, Nat.reduceBEq, Nat.reduceEqDiff, Nat.reduceLT, Nat.reduceLeDiff, Nat.reduceMul, Nat.reduceSub, reduceIte, Int.reduceEq, Int.reduceNe, Int.reduceLT, Int.reduceLE, Int.reduceAdd, Int.reduceSub, Int.reduceMul, Int.reduceNeg, Int.reduceMod, Int.reduceDiv, Int.reduceTMod, Int.reduceTDiv, Int.reduceToNat]
      rfl
  | some x =>
    obtain ⟨v0, q0, a0⟩ := x
    have hlk : findM (rows L) c = some (.agg ⟨[.int .i64 v0, .int .u8 q0, .int .i64 a0]⟩) := by rw [findM_rows, h4, hl]; rfl
    refine ⟨?X2, ?run2⟩
    case run2 =>
      simp (maxDischargeDepth := 8) only [r13, b13, c13_0, c13_1, c13_2, h1, h2, j1, j2, hlk, okChain_all, RUN, Ed, knd, kndR, resV, binInt, mnmxV, mnmx2, fillL, unV, lenV, extractV, partV, loadAt, Nat.reduceAdd, Nat.reduceBEq, Nat.reduceEqDiff, Nat.reduceLT, Nat.reduceLeDiff, Nat.reduceMul, Nat.reduceSub, reduceIte, Int.reduceEq, Int.reduceNe, Int.reduceLT, Int.reduceLE, Int.reduceAdd, Int.reduceSub, Int.reduceMul, Int.reduceNeg, Int.reduceMod, Int.reduceDiv, Int.reduceTMod, Int.reduceTDiv, Int.reduceToNat]
      rfl
theorem age_f {F : Heap} {p : Nat} {s : Int} {f : Int → Option La} (hb : BK F p s f) (c : Int) :
    ∃ X, K 19 [.pointer (some ⟨p, 0, none⟩), .int .i64 c] F = some (.int .i64 (ageF f c), F ++ X) := by
  rw [K, D_eq p19 _ _ (Nat.le_of_ble_eq_true rfl)]
  obtain ⟨m, L, g, h1, h2, h3, h4⟩ := hb
  have j1 := live_ltG h1
  have j2 := mlive_lt h2
  unfold ageF
  cases hl : f c with
  | none =>
    have hlk : findM (rows L) c = none := by rw [findM_rows, h4, hl]; rfl
    refine ⟨?X1, ?run1⟩
    case run1 =>
      simp (maxDischargeDepth := 8) only [r19, b19, c19_0, c19_1, c19_2, c19_3, c19_4, h1, h2, j1, j2, hlk, RUN, Ed, knd, kndR, resV, binInt, mnmxV, mnmx2, fillL, unV, lenV, extractV, partV, loadAt, Nat.reduceAdd, Nat.reduceBEq, Nat.reduceEqDiff, Nat.reduceLT, Nat.reduceLeDiff, Nat.reduceMul, Nat.reduceSub, reduceIte, Int.reduceEq, Int.reduceNe, Int.reduceLT, Int.reduceLE, Int.reduceAdd, Int.reduceSub, Int.reduceMul, Int.reduceNeg, Int.reduceMod, Int.reduceDiv, Int.reduceTMod, Int.reduceTDiv, Int.reduceToNat, okChain_i, okLoads_nil, okLoads_in, okLoads_eq]
      rfl
  | some x =>
    obtain ⟨v0, q0, a0⟩ := x
    have hlk : findM (rows L) c = some (.agg ⟨[.int .i64 v0, .int .u8 q0, .int .i64 a0]⟩) := by rw [findM_rows, h4, hl]; rfl
    refine ⟨?X2, ?run2⟩
    case run2 =>
      simp (maxDischargeDepth := 8) only [r19, b19, c19_0, c19_1, c19_2, c19_3, c19_4, h1, h2, j1, j2, hlk, RUN, Ed, knd, kndR, resV, binInt, mnmxV, mnmx2, fillL, unV, lenV, extractV, partV, loadAt, Nat.reduceAdd, Nat.reduceBEq, Nat.reduceEqDiff, Nat.reduceLT, Nat.reduceLeDiff, Nat.reduceMul, Nat.reduceSub, reduceIte, Int.reduceEq, Int.reduceNe, Int.reduceLT, Int.reduceLE, Int.reduceAdd, Int.reduceSub, Int.reduceMul, Int.reduceNeg, Int.reduceMod, Int.reduceDiv, Int.reduceTMod, Int.reduceTDiv, Int.reduceToNat, okChain_i, okLoads_nil, okLoads_in, okLoads_eq]
      rfl
def tickS (f : Int → Option La) : Int → Option La := fun c => (f c).map fun x => (x.1, x.2.1, age1 x.2.2)
theorem p16 : progOf Try.prog hints 16 = none := by
  have h : resolveF Try.prog (hints 16) Try.f16 = none := by kernel_rfl
  have e : Try.prog.funcs[16]? = some Try.f16 := by kernel_rfl
  simp only [progOf, e, Option.bind_some, h]
theorem tickB_s (H : Heap) (o : Bool) (t : TypeId) (x : Value) (m : Nat) (l : List (Int × Value)) (g : Gs) (h : mlive H m = some (.i64, l, g)) (hl : l.all (fun x => ageOk x.2) = true) :
    tickB H (some ⟨o, t, [x, .map (some m)]⟩) = some (.tuple ⟨[]⟩, H.set m (some (mapB .i64 (ageM l) g)) ++ List.replicate (l.length + 1) none) := by
  show (mlive H m).bind _ = _
  rw [h, Option.bind_some, if_pos ⟨rfl, hl⟩]
theorem tick_f {F : Heap} {p : Nat} {s : Int} {f : Int → Option La} (hb : BK F p s f) :
    ∃ F', K 16 [.pointer (some ⟨p, 0, none⟩)] F = some (.tuple ⟨[]⟩, F') ∧ BK F' p s (tickS f) ∧ Stay F F' := by
  rw [K, D_ext p16]
  obtain ⟨m, L, g, h1, h2, h3, h4⟩ := hb
  obtain ⟨a1, a2⟩ := ageM_rows L h3
  have hf : getL (ageA L) = tickS f := by funext c; rw [getL_ageA, h4]; rfl
  obtain ⟨g1, g2⟩ := BK_set h1 h2 h3.age g (List.replicate ((rows L).length + 1) none) hf
  refine ⟨_, ?_, g1, g2⟩
  simp only [extSem, tickF, if_true, tickV, h1, tickB_s _ _ _ _ _ _ _ h2 a1, a2]
def num (n b : Int) : Int := if n.tmod b < 0 then n.tmod b + b else n.tmod b
theorem num_bd (n b : Int) (hb : 0 < b) : 0 ≤ num n b ∧ num n b < b := by
  have h1 := Int.tmod_lt_of_pos n hb
  have h2 : -b < n.tmod b := by
    have := Int.lt_tmod_of_pos n hb
    omega
  unfold num
  split <;> omega
theorem number_f (n b : Int) (hb : 0 < b) (hs : b ≤ 1000000) (H : Heap) : K 9 [.int .i64 n, .int .i64 b] H = some (.int .i64 (num n b), H) := by
  have h1 := Int.tmod_lt_of_pos n hb
  have h2 : -b < n.tmod b := by
    have := Int.lt_tmod_of_pos n hb
    omega
  have hb0 : ¬ b = 0 := by omega
  rw [K, D_eq p9 _ _ (Nat.le_of_ble_eq_true rfl)]
  unfold num
  by_cases h : n.tmod b < 0
  · have hw : IntKind.i64.wrap (n.tmod b + b) = n.tmod b + b := wrap64 _ (by omega) (by omega)
    simp (maxDischargeDepth := 8) only [r9, b9, c9_0, c9_1, c9_2, c9_3, c9_4, h, hw, hb0, RUN, Ed, knd, kndR, resV, binInt, mnmxV, mnmx2, fillL, unV, lenV, extractV, partV, loadAt, Nat.reduceAdd, Nat.reduceBEq, Nat.reduceEqDiff, Nat.reduceLT, Nat.reduceLeDiff, Nat.reduceMul, Nat.reduceSub, reduceIte, Int.reduceEq, Int.reduceNe, Int.reduceLT, Int.reduceLE, Int.reduceAdd, Int.reduceSub, Int.reduceMul, Int.reduceNeg, Int.reduceMod, Int.reduceDiv, Int.reduceTMod, Int.reduceTDiv, Int.reduceToNat, okChain_i, okLoads_nil, okLoads_in, okLoads_eq]
  · simp (maxDischargeDepth := 8) only [r9, b9, c9_0, c9_1, c9_2, c9_3, c9_4, h, hb0, RUN, Ed, knd, kndR, resV, binInt, mnmxV, mnmx2, fillL, unV, lenV, extractV, partV, loadAt, Nat.reduceAdd, Nat.reduceBEq, Nat.reduceEqDiff, Nat.reduceLT, Nat.reduceLeDiff, Nat.reduceMul, Nat.reduceSub, reduceIte, Int.reduceEq, Int.reduceNe, Int.reduceLT, Int.reduceLE, Int.reduceAdd, Int.reduceSub, Int.reduceMul, Int.reduceNeg, Int.reduceMod, Int.reduceDiv, Int.reduceTMod, Int.reduceTDiv, Int.reduceToNat, okChain_i, okLoads_nil, okLoads_in, okLoads_eq]
theorem first_f (H : Heap) : ∃ F, K 8 [] H = some (.bool true, F) ∧ Stay H F := by
  have q8 : K 8 [] H = done r8.res (E Try.prog hints r8.body (frame0 []) H) := D_eq p8 _ _ (Nat.le_of_ble_eq_true rfl)
  obtain ⟨p, F1, e1, k1, x1, _⟩ := new_f 1 H
  obtain ⟨F2, e2, k2, s2⟩ := put_f k1 1 0 7
  obtain ⟨F3, e3, k3, s3⟩ := put_f k2 1 0 8
  have c1 : putB (fun _ => none) 1 0 = true := by rfl
  have c2 : putB (putF (fun _ => none) 1 0 7) 1 0 = false := by rfl
  have n1 := fun H => newer_f 0 255 H
  have n2 := fun H => newer_f 5 5 H
  have d1 : newerB 0 255 = true := by rfl
  have d2 : newerB 5 5 = false := by rfl
  rw [c1] at e2; rw [c2] at e3
  rw [d1] at n1; rw [d2] at n2
  simp only [K] at e1 e2 e3 n1 n2 q8
  refine ⟨F3, ?_, (x1.stay.trans s2).trans s3⟩
  rw [K, q8]
  simp (maxDischargeDepth := 8) only [r8, b8, c8_0, c8_1, c8_2, e1, e2, e3, n1, n2, RUN, Ed, knd, kndR, resV, binInt, mnmxV, mnmx2, fillL, unV, lenV, extractV, partV, loadAt, Nat.reduceAdd, Nat.reduceBEq, Nat.reduceEqDiff, Nat.reduceLT, Nat.reduceLeDiff, Nat.reduceMul, Nat.reduceSub, reduceIte, Int.reduceEq, Int.reduceNe, Int.reduceLT, Int.reduceLE, Int.reduceAdd, Int.reduceSub, Int.reduceMul, Int.reduceNeg, Int.reduceMod, Int.reduceDiv, Int.reduceTMod, Int.reduceTDiv, Int.reduceToNat, okChain_i, okLoads_nil, okLoads_in, okLoads_eq]
end Go.Proofs.Ytoknmodbdlfdmaa.Sim
