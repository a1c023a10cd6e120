/- The document's CheckConfig. -/
import Derived.Test.YtceildmghmigaaaDoorCon15
import Derived.Test.YtceildmghmigaaaDoorSim21
namespace Go.Proofs.YtceildmghmigaaaDoor.Sim
open Go
set_option linter.unusedSimpArgs false
set_option linter.unusedVariables false
def tB : RCode := (.seq (.seq (.draw c14_16) (.cond (.tmp 130) (.seq (.region c14_17) .ret) .skip)) tB2)
open Classical in
noncomputable def bR (c : Cf) (l : List Pt) (k : List Fd) : Int := if TabB l then amR c (l.getD 0 (0, 0)).1 (l.getD (l.length - 1) (0, 0)).1 k else 21
theorem amR_eR (c : Cf) (x y : Int) (k : List Fd) : amR c x y k = if x ≠ 0 then 21 else if y ≠ c.cap then 21 else eR c k := rfl
theorem tailB_f (c : Cf) (hk : c.ok) (l : List Pt) (hl : l.length ≤ 1000) (k : List Fd) (hkl : k.length ≤ 1000) (H : Heap) (hps : PS H c.o l) (hfs : FS H c.f k) (p : Nat) (kp : live H p = some ⟨true, 26, c.L⟩) (ρ : Fr) (q1 : ρ 1 = .pointer (some ⟨p, 0, none⟩)) (q3 : ρ 3 = .int .i64 1073741824) : ∃ F, done [.tmp 2] (E Tryd.prog hints tB ρ H) = some (.int .i64 (bR c l k), F) ∧ Ext H F := by
  have ip := live_ltG kp
  have kp' := fun X => live_more0 kp X
  have c20 : c.L[20]? = some c.o := rfl
  have c5 : c.L[5]? = some (.int .i64 c.cap) := rfl
  have ho1 := hk.o1
  have lo := hps.len
  obtain ⟨F0, code, pl, pos, e24, ⟨X, rfl⟩, t1, t2⟩ := refT_f H c.o l hl hps
  have yX : Ext H (H ++ X) := ⟨_, rfl⟩
  unfold bR
  by_cases ht : TabB l
  case neg =>
    rw [if_neg ht]
    have hc := t2 ht
    refine ⟨H ++ X, ?_, yX⟩
    simp (maxDischargeDepth := 8) only [tB, c14_16, c14_17, q1, q3, kp, ip, kp', c20, ho1, e24, hc, fullOf_appG, fullOf_mapG, List.length_map, RUN, Ed, knd, kndR, resV, binInt, mnmxV, mnmx2, fillL, unV, lenV, extractV, partV, loadAt, Nat.reduceAdd, Nat.reduceBEq, Nat.reduceEqDiff, Nat.reduceLT, Nat.reduceLeDiff, Nat.reduceMul, Nat.reduceSub, reduceIte, Int.reduceEq, Int.reduceNe, Int.reduceLT, Int.reduceLE, Int.reduceAdd, Int.reduceSub, Int.reduceMul, Int.reduceNeg, Int.reduceMod, Int.reduceDiv, Int.reduceTMod, Int.reduceTDiv, Int.reduceToNat, okChain_i, okLoads_nil, okLoads_in, okLoads_eq]
  rw [if_pos ht, amR_eR]
  have hc := t1 ht
  subst hc
  have h2 := ht.1
  have hx := getD_get (l := l) (j := 0) (by omega)
  have hy := getD_get (l := l) (j := l.length - 1) (by omega)
  obtain ⟨a1, u1, ow1, ty1, cl1, u2, u3, u4, u5, u6⟩ := hps.idx hx
  obtain ⟨a2, v1, ow2, ty2, cl2, v2, v3, v4, v5, v6⟩ := hps.idx hy
  have j1 := live_ltG u2
  have j2 := live_ltG v2
  have u1' : idxSV 2 c.o (.int .i64 0) = some (.pointer (some ⟨a1, 0, none⟩)) := u1
  have u5' : cl1[0]? = some (.int .i64 (l.getD 0 (0, 0)).1) := by simpa using u5
  have wl : IntKind.i64.wrap ((l.length : Int) - 1) = ((l.length - 1 : Nat) : Int) := by
    rw [wrap64 _ (by omega) (by omega)]; omega
  generalize l.length - 1 = n1 at *
  generalize (l.getD 0 (0, 0)).1 = x at *
  generalize (l.getD n1 (0, 0)).1 = y at *
  by_cases c1 : x = 0
  case neg =>
    rw [if_pos c1]
    refine ⟨H ++ X, ?_, yX⟩
    simp (maxDischargeDepth := 8) only [tB, c14_16, c14_17, q1, q3, kp, ip, kp', c20, ho1, e24, u1', u2, u5', j1, c1, fullOf_appG, fullOf_mapG, List.length_map, RUN, Ed, knd, kndR, resV, binInt, mnmxV, mnmx2, fillL, unV, lenV, extractV, partV, loadAt, Nat.reduceAdd, Nat.reduceBEq, Nat.reduceEqDiff, Nat.reduceLT, Nat.reduceLeDiff, Nat.reduceMul, Nat.reduceSub, reduceIte, Int.reduceEq, Int.reduceNe, Int.reduceLT, Int.reduceLE, Int.reduceAdd, Int.reduceSub, Int.reduceMul, Int.reduceNeg, Int.reduceMod, Int.reduceDiv, Int.reduceTMod, Int.reduceTDiv, Int.reduceToNat, okChain_i, okLoads_nil, okLoads_in, okLoads_eq]
  rw [if_neg (by simpa using c1)]
  by_cases c2 : y = c.cap
  case neg =>
    rw [if_pos c2]
    refine ⟨H ++ X, ?_, yX⟩
    simp (maxDischargeDepth := 8) only [tB, c14_16, c14_17, q1, q3, kp, ip, kp', c20, c5, ho1, lo, wl, e24, u1', u2, u5', j1, c1, v1, v2, v5, j2, c2, fullOf_appG, fullOf_mapG, List.length_map, RUN, Ed, knd, kndR, resV, binInt, mnmxV, mnmx2, fillL, unV, extractV, partV, loadAt, Nat.reduceAdd, Nat.reduceBEq, Nat.reduceEqDiff, Nat.reduceLT, Nat.reduceLeDiff, Nat.reduceMul, Nat.reduceSub, reduceIte, Int.reduceEq, Int.reduceNe, Int.reduceLT, Int.reduceLE, Int.reduceAdd, Int.reduceSub, Int.reduceMul, Int.reduceNeg, Int.reduceMod, Int.reduceDiv, Int.reduceTMod, Int.reduceTDiv, Int.reduceToNat, okChain_i, okLoads_nil, okLoads_in, okLoads_eq]
  rw [if_neg (by simpa using c2)]
  have key : ∀ ρ0, ρ0 1 = .pointer (some ⟨p, 0, none⟩) → ρ0 3 = .int .i64 1073741824 → ∃ F, done [.tmp 2] (E Tryd.prog hints tB2 ρ0 (H ++ X)) = some (.int .i64 (eR c k), F) ∧ Ext H F := by
    intro ρ0 r1 r3
    obtain ⟨F, e, y⟩ := tailB2_f c hk k hkl (H ++ X) (hfs.ext yX) p (yX.live kp) ρ0 r1 r3
    exact ⟨F, e, yX.trans y⟩
  simp (maxDischargeDepth := 8) only [tB, c14_16, c14_17, q1, q3, kp, ip, kp', c20, c5, ho1, lo, wl, e24, u1', u2, u5', j1, c1, v1, v2, v5, j2, c2, fullOf_appG, fullOf_mapG, List.length_map, RUN, Ed, knd, kndR, resV, binInt, mnmxV, mnmx2, fillL, unV, extractV, partV, loadAt, Nat.reduceAdd, Nat.reduceBEq, Nat.reduceEqDiff, Nat.reduceLT, Nat.reduceLeDiff, Nat.reduceMul, Nat.reduceSub, reduceIte, Int.reduceEq, Int.reduceNe, Int.reduceLT, Int.reduceLE, Int.reduceAdd, Int.reduceSub, Int.reduceMul, Int.reduceNeg, Int.reduceMod, Int.reduceDiv, Int.reduceTMod, Int.reduceTDiv, Int.reduceToNat, okChain_i, okLoads_nil, okLoads_in, okLoads_eq]
  refine key _ ?_ ?_
  all_goals first | (simp (maxDischargeDepth := 8) only [q1, q3, RUN, Ed, knd, kndR, resV, binInt, mnmxV, mnmx2, fillL, unV, lenV, extractV, partV, loadAt, Nat.reduceAdd, Nat.reduceBEq, Nat.reduceEqDiff, Nat.reduceLT, Nat.reduceLeDiff, Nat.reduceMul, Nat.reduceSub, reduceIte, Int.reduceEq, Int.reduceNe, Int.reduceLT, Int.reduceLE, Int.reduceAdd, Int.reduceSub, Int.reduceMul, Int.reduceNeg, Int.reduceMod, Int.reduceDiv, Int.reduceTMod, Int.reduceTDiv, Int.reduceToNat, okChain_i, okLoads_nil, okLoads_in, okLoads_eq]; done) | (simp (maxDischargeDepth := 8) only [q1, q3, RUN, Ed, knd, kndR, resV, binInt, mnmxV, mnmx2, fillL, unV, lenV, extractV, partV, loadAt, Nat.reduceAdd, Nat.reduceBEq, Nat.reduceEqDiff, Nat.reduceLT, Nat.reduceLeDiff, Nat.reduceMul, Nat.reduceSub, reduceIte, Int.reduceEq, Int.reduceNe, Int.reduceLT, Int.reduceLE, Int.reduceAdd, Int.reduceSub, Int.reduceMul, Int.reduceNeg, Int.reduceMod, Int.reduceDiv, Int.reduceTMod, Int.reduceTDiv, Int.reduceToNat, okChain_i, okLoads_nil, okLoads_in, okLoads_eq]; rfl)
end Go.Proofs.YtceildmghmigaaaDoor.Sim
