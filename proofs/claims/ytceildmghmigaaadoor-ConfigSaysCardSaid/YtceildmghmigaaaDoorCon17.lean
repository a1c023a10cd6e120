/- The document's CheckConfig: the whole. -/
import Derived.Test.YtceildmghmigaaaDoorCon16
import Derived.Test.YtceildmghmigaaaDoorSim21
namespace Go.Proofs.YtceildmghmigaaaDoor.Sim
open Go
set_option linter.unusedSimpArgs false
set_option linter.unusedVariables false
def v15 (c : Cf) : List Int := [c.cap, c.qmin, c.imax, c.trip, c.vmin, c.vdark, c.cmin, c.cmax, c.cgap, c.tmax, c.coil, c.ohm, c.sag, c.amp, c.drift]
def lo15 (c : Cf) : List Int := [1, 0, 1, 1, 1, 1, 0, c.cmin, 0, -500, 1, 0, 0, 0, 0]
def hi15 (c : Cf) : List Int := [1073741824, c.cap, 500000, 500000, 60000, 60000, 6000, 6000, 6000, 1500, 30000, 100000, 60000, 500000, 1073741824]
def v5 (c : Cf) : List Int := [c.d, c.b, c.s, c.p, c.h]
def tA : RCode := (.seq (.region c14_8) (.seq (.region c14_9) (.seq (.region c14_10) (.seq (.seq (.region c14_11) (.block 2 (.loop l14_1))) tB))))
theorem b14t : b14 = (.seq (.region c14_0) (.seq (.region c14_1) (.seq (.region c14_2) (.seq (.seq (.region c14_3) (.block 0 (.loop l14_0))) tA)))) := (rfl)
theorem amS_bR (c : Cf) (l : List Pt) (k : List Fd) (h : fbk 0 (bds c) = none) : amS c l k = bR c l k := by
  unfold amS bR
  rw [h]
theorem amS_at (c : Cf) (l : List Pt) (k : List Fd) (j : Nat) (h : fbk 0 (bds c) = some j) : amS c l k = ((1 + j : Nat) : Int) := by
  unfold amS
  rw [h]
theorem e5 (c : Cf) : ∀ j, j < 5 → (bds c).getD j (0, 0, 0) = ((v5 c).getD j 0, 1, 100) := by
  intro j hj
  match j, hj with
  | 0, _ => rfl
  | 1, _ => rfl
  | 2, _ => rfl
  | 3, _ => rfl
  | 4, _ => rfl
theorem e15 (c : Cf) : ∀ j, j < 15 → (bds c).getD (5 + j) (0, 0, 0) = ((v15 c).getD j 0, (lo15 c).getD j 0, (hi15 c).getD j 0) := by
  intro j hj
  match j, hj with
  | 0, _ => rfl
  | 1, _ => rfl
  | 2, _ => rfl
  | 3, _ => rfl
  | 4, _ => rfl
  | 5, _ => rfl
  | 6, _ => rfl
  | 7, _ => rfl
  | 8, _ => rfl
  | 9, _ => rfl
  | 10, _ => rfl
  | 11, _ => rfl
  | 12, _ => rfl
  | 13, _ => rfl
  | 14, _ => rfl
theorem fbk_all (l : List Bd) (h : ∀ i, i < l.length → okB (l.getD i (0, 0, 0))) : fbk 0 l = none := by
  apply fbk_none
  intro x hx
  obtain ⟨j, hj, rfl⟩ := List.getElem_of_mem hx
  have := h j hj
  rw [List.getD_eq_getElem?_getD, List.getElem?_eq_getElem hj] at this
  exact this
theorem tailA_f (c : Cf) (hk : c.ok) (h5 : ∀ i, i < 5 → okB ((bds c).getD i (0, 0, 0))) (l : List Pt) (hl : l.length ≤ 1000) (k : List Fd) (hkl : k.length ≤ 1000) (H : Heap) (hps : PS H c.o l) (hfs : FS H c.f k) (p : Nat) (kp : live H p = some ⟨true, 26, c.L⟩) (ρ : Fr) (q1 : ρ 1 = .pointer (some ⟨p, 0, none⟩)) (q3 : ρ 3 = .int .i64 1073741824) : ∃ F, done [.tmp 2] (E Tryd.prog hints tA ρ H) = some (.int .i64 (amS c l k), F) ∧ Ext H F := by
  have ip := live_ltG kp
  have kp' := fun X => live_more0 kp X
  have ip' : ∀ X : Heap, p < (H ++ X).length := fun X => by rw [List.length_append]; omega
  obtain ⟨G, hG⟩ : ∃ G, G = H ++ [some ⟨true, 2, (v15 c).map (Value.int .i64)⟩, some ⟨true, 2, (lo15 c).map (Value.int .i64)⟩, some ⟨true, 2, (hi15 c).map (Value.int .i64)⟩] := ⟨_, rfl⟩
  have yG : Ext H G := ⟨_, hG⟩
  have T1 : TS G (.slice (some ⟨H.length, 0, none⟩) 15 1) (v15 c) := ⟨H.length, 1, true, 2, rfl, by rw [hG]; exact (live_app_len _ _).trans rfl⟩
  have T2 : TS G (.slice (some ⟨H.length + 1, 0, none⟩) 15 1) (lo15 c) := ⟨H.length + 1, 1, true, 2, rfl, by rw [hG]; exact (live_app_add _ _ _).trans rfl⟩
  have T3' : TS G (.slice (some ⟨H.length + 2, 0, none⟩) 15 1) (hi15 c) := ⟨H.length + 2, 1, true, 2, rfl, by rw [hG]; exact (live_app_add _ _ _).trans rfl⟩
  have key : ∀ ρ0 F0, F0 = G → ρ0 1 = .pointer (some ⟨p, 0, none⟩) → ρ0 3 = .int .i64 1073741824 → ρ0 6 = .slice (some ⟨H.length, 0, none⟩) 15 1 → ρ0 7 = .slice (some ⟨H.length + 1, 0, none⟩) 15 1 → ρ0 8 = .slice (some ⟨H.length + 2, 0, none⟩) 15 1 → ρ0 9 = .int .i64 (0 : Nat) → ∃ F, done [.tmp 2] (andThen (blk 2 (E Tryd.prog hints (.loop l14_1) ρ0 F0)) (E Tryd.prog hints tB)) = some (.int .i64 (amS c l k), F) ∧ Ext H F := by
    intro ρ0 F0 hF0 r1 r3 r6 r7 r8 r9
    subst hF0
    obtain ⟨s1, s2⟩ := loop14b F0 _ _ _ (v15 c) (lo15 c) (hi15 c) rfl rfl rfl T1 T2 T3' ρ0 r6 r7 r8 r9
    rcases first_or (okL (v15 c) (lo15 c) (hi15 c)) 15 with h | ⟨j, h1, h2, h3⟩
    · obtain ⟨ρ', F, e, rfl⟩ := s1 h
      have a1 := (E_keep (t := 1) e rfl).trans r1
      have a3 := (E_keep (t := 3) e rfl).trans r3
      obtain ⟨F', e', y'⟩ := tailB_f c hk l hl k hkl F (hps.ext yG) (hfs.ext yG) p (yG.live kp) ρ' a1 a3
      rw [e, blk_x, if_pos rfl, andThen_n, e']
      refine ⟨F', ?_, yG.trans y'⟩
      have hn : fbk 0 (bds c) = none := fbk_all _ (fun i hi => by
        have hi' : i < 20 := hi
        by_cases h6 : i < 5
        · exact h5 i h6
        · have := h (i - 5) (Nat.zero_le _) (by omega)
          have ee := e15 c (i - 5) (by omega)
          rw [show 5 + (i - 5) = i by omega] at ee
          rw [ee]
          exact this)
      rw [amS_bR c l k hn]
    · obtain ⟨ρ', F, e, rfl, a2⟩ := s2 j (Nat.zero_le _) h1 h2 h3
      rw [e]
      have hn : fbk 0 (bds c) = some (5 + j) := by
        have := fbk_at (bds c) 0 (5 + j) (by show 5 + j < 20; omega) (by rw [e15 c j h1]; exact h2) (fun i hi => by
          by_cases h6 : i < 5
          · exact h5 i h6
          · have := h3 (i - 5) (Nat.zero_le _) (by omega)
            have ee := e15 c (i - 5) (by omega)
            rw [show 5 + (i - 5) = i by omega] at ee
            rw [ee]
            exact this)
        rw [this]
        congr 1
        omega
      refine ⟨F, ?_, yG⟩
      rw [amS_at c l k _ hn, show 1 + (5 + j) = j + 6 by omega]
      simp (maxDischargeDepth := 8) only [a2, RUN, Ed, knd, kndR, resV, binInt, mnmxV, mnmx2, fillL, unV, lenV, extractV, partV, loadAt, Nat.reduceAdd, Nat.reduceBEq, Nat.reduceEqDiff, Nat.reduceLT, Nat.reduceLeDiff, Nat.reduceMul, Nat.reduceSub, reduceIte, Int.reduceEq, Int.reduceNe, Int.reduceLT, Int.reduceLE, Int.reduceAdd, Int.reduceSub, Int.reduceMul, Int.reduceNeg, Int.reduceMod, Int.reduceDiv, Int.reduceTMod, Int.reduceTDiv, Int.reduceToNat, okChain_i, okLoads_nil, okLoads_in, okLoads_eq]
  obtain ⟨d, b, s, p', h, cap, qmin, imax, trip, vmin, vdark, cmin, cmax, cgap, tmax, coil, ohm, sag, amp, drift, o, gen, bat, ext, eland, margin, f⟩ := c
  simp only [Cf.L] at kp kp'
  simp (maxDischargeDepth := 8) only [tA, c14_8, c14_9, c14_10, c14_11, q1, q3, kp, ip, kp', ip', fillL, RUN, Ed, knd, kndR, resV, binInt, mnmxV, mnmx2, fillL, unV, lenV, extractV, partV, loadAt, Nat.reduceAdd, Nat.reduceBEq, Nat.reduceEqDiff, Nat.reduceLT, Nat.reduceLeDiff, Nat.reduceMul, Nat.reduceSub, reduceIte, Int.reduceEq, Int.reduceNe, Int.reduceLT, Int.reduceLE, Int.reduceAdd, Int.reduceSub, Int.reduceMul, Int.reduceNeg, Int.reduceMod, Int.reduceDiv, Int.reduceTMod, Int.reduceTDiv, Int.reduceToNat, okChain_i, okLoads_nil, okLoads_in, okLoads_eq]
  refine key _ _ hG.symm ?_ ?_ ?_ ?_ ?_ ?_
  all_goals first | (simp (maxDischargeDepth := 8) only [q1, q3, RUN, Ed, knd, kndR, resV, binInt, mnmxV, mnmx2, fillL, unV, lenV, extractV, partV, loadAt, Nat.reduceAdd, Nat.reduceBEq, Nat.reduceEqDiff, Nat.reduceLT, Nat.reduceLeDiff, Nat.reduceMul, Nat.reduceSub, reduceIte, Int.reduceEq, Int.reduceNe, Int.reduceLT, Int.reduceLE, Int.reduceAdd, Int.reduceSub, Int.reduceMul, Int.reduceNeg, Int.reduceMod, Int.reduceDiv, Int.reduceTMod, Int.reduceTDiv, Int.reduceToNat, okChain_i, okLoads_nil, okLoads_in, okLoads_eq]; done) | (simp (maxDischargeDepth := 8) only [q1, q3, RUN, Ed, knd, kndR, resV, binInt, mnmxV, mnmx2, fillL, unV, lenV, extractV, partV, loadAt, Nat.reduceAdd, Nat.reduceBEq, Nat.reduceEqDiff, Nat.reduceLT, Nat.reduceLeDiff, Nat.reduceMul, Nat.reduceSub, reduceIte, Int.reduceEq, Int.reduceNe, Int.reduceLT, Int.reduceLE, Int.reduceAdd, Int.reduceSub, Int.reduceMul, Int.reduceNeg, Int.reduceMod, Int.reduceDiv, Int.reduceTMod, Int.reduceTDiv, Int.reduceToNat, okChain_i, okLoads_nil, okLoads_in, okLoads_eq]; rfl)
theorem ck_f (c : Cf) (hk : c.ok) (l : List Pt) (hl : l.length ≤ 1000) (k : List Fd) (hkl : k.length ≤ 1000) (H : Heap) (hps : PS H c.o l) (hfs : FS H c.f k) : ∃ F, D Tryd.prog hints 14 [.agg ⟨c.L⟩] H = some (.int .i64 (amS c l k), F) ∧ Ext H F := by
  obtain ⟨G, hG⟩ : ∃ G, G = H ++ [some ⟨true, 26, c.L⟩, some ⟨true, 3, (v5 c).map (Value.int .i64)⟩] := ⟨_, rfl⟩
  have yG : Ext H G := ⟨_, hG⟩
  have kp : live G H.length = some ⟨true, 26, c.L⟩ := by rw [hG]; exact (live_app_len _ _).trans rfl
  have T1 : TS G (.slice (some ⟨H.length + 1, 0, none⟩) 5 1) (v5 c) := ⟨H.length + 1, 1, true, 3, rfl, by rw [hG]; exact (live_app_add _ _ _).trans rfl⟩
  have key : ∀ ρ0 F0, F0 = G → ρ0 1 = .pointer (some ⟨H.length, 0, none⟩) → ρ0 3 = .int .i64 1073741824 → ρ0 4 = .slice (some ⟨H.length + 1, 0, none⟩) 5 1 → ρ0 5 = .int .i64 (0 : Nat) → ∃ F, done [.tmp 2] (andThen (blk 0 (E Tryd.prog hints (.loop l14_0) ρ0 F0)) (E Tryd.prog hints tA)) = some (.int .i64 (amS c l k), F) ∧ Ext H F := by
    intro ρ0 F0 hF0 r1 r3 r4 r5
    subst hF0
    obtain ⟨s1, s2⟩ := loop14a F0 _ (v5 c) rfl T1 ρ0 r4 r5
    rcases first_or (ok5 (v5 c)) 5 with h | ⟨j, h1, h2, h3⟩
    · obtain ⟨ρ', F, e, rfl⟩ := s1 h
      have a1 := (E_keep (t := 1) e rfl).trans r1
      have a3 := (E_keep (t := 3) e rfl).trans r3
      obtain ⟨F', e', y'⟩ := tailA_f c hk (fun i hi => by rw [e5 c i hi]; exact h i (Nat.zero_le _) hi) l hl k hkl F (hps.ext yG) (hfs.ext yG) H.length kp ρ' a1 a3
      rw [e, blk_x, if_pos rfl, andThen_n, e']
      exact ⟨F', rfl, yG.trans y'⟩
    · obtain ⟨ρ', F, e, rfl, a2⟩ := s2 j (Nat.zero_le _) h1 h2 h3
      rw [e]
      have hn : fbk 0 (bds c) = some j := by
        have := fbk_at (bds c) 0 j (by show j < 20; omega) (by rw [e5 c j h1]; exact h2) (fun i hi => by rw [e5 c i (by omega)]; exact h3 i (Nat.zero_le _) hi)
        simpa using this
      refine ⟨F, ?_, yG⟩
      rw [amS_at c l k _ hn, show 1 + j = j + 1 by omega]
      simp (maxDischargeDepth := 8) only [a2, RUN, Ed, knd, kndR, resV, binInt, mnmxV, mnmx2, fillL, unV, lenV, extractV, partV, loadAt, Nat.reduceAdd, Nat.reduceBEq, Nat.reduceEqDiff, Nat.reduceLT, Nat.reduceLeDiff, Nat.reduceMul, Nat.reduceSub, reduceIte, Int.reduceEq, Int.reduceNe, Int.reduceLT, Int.reduceLE, Int.reduceAdd, Int.reduceSub, Int.reduceMul, Int.reduceNeg, Int.reduceMod, Int.reduceDiv, Int.reduceTMod, Int.reduceTDiv, Int.reduceToNat, okChain_i, okLoads_nil, okLoads_in, okLoads_eq]
  obtain ⟨o1, o2, f1, f2⟩ := hk
  obtain ⟨d, b, s, p', h, cap, qmin, imax, trip, vmin, vdark, cmin, cmax, cgap, tmax, coil, ohm, sag, amp, drift, o, gen, bat, ext, eland, margin, f⟩ := c
  simp only at o1 o2 f1 f2
  rw [D_eq p14 _ _ (Nat.le_of_ble_eq_true rfl)]
  simp (maxDischargeDepth := 8) only [r14, b14t, c14_0, c14_1, c14_2, c14_3, Cf.L, o1, o2, f1, f2, fillL, RUN, Ed, knd, kndR, resV, binInt, mnmxV, mnmx2, fillL, unV, lenV, extractV, partV, loadAt, Nat.reduceAdd, Nat.reduceBEq, Nat.reduceEqDiff, Nat.reduceLT, Nat.reduceLeDiff, Nat.reduceMul, Nat.reduceSub, reduceIte, Int.reduceEq, Int.reduceNe, Int.reduceLT, Int.reduceLE, Int.reduceAdd, Int.reduceSub, Int.reduceMul, Int.reduceNeg, Int.reduceMod, Int.reduceDiv, Int.reduceTMod, Int.reduceTDiv, Int.reduceToNat, okChain_i, okLoads_nil, okLoads_in, okLoads_eq]
  refine key _ _ hG.symm ?_ ?_ ?_ ?_
  all_goals first | (simp (maxDischargeDepth := 8) only [RUN, Ed, knd, kndR, resV, binInt, mnmxV, mnmx2, fillL, unV, lenV, extractV, partV, loadAt, Nat.reduceAdd, Nat.reduceBEq, Nat.reduceEqDiff, Nat.reduceLT, Nat.reduceLeDiff, Nat.reduceMul, Nat.reduceSub, reduceIte, Int.reduceEq, Int.reduceNe, Int.reduceLT, Int.reduceLE, Int.reduceAdd, Int.reduceSub, Int.reduceMul, Int.reduceNeg, Int.reduceMod, Int.reduceDiv, Int.reduceTMod, Int.reduceTDiv, Int.reduceToNat, okChain_i, okLoads_nil, okLoads_in, okLoads_eq]; done) | (simp (maxDischargeDepth := 8) only [RUN, Ed, knd, kndR, resV, binInt, mnmxV, mnmx2, fillL, unV, lenV, extractV, partV, loadAt, Nat.reduceAdd, Nat.reduceBEq, Nat.reduceEqDiff, Nat.reduceLT, Nat.reduceLeDiff, Nat.reduceMul, Nat.reduceSub, reduceIte, Int.reduceEq, Int.reduceNe, Int.reduceLT, Int.reduceLE, Int.reduceAdd, Int.reduceSub, Int.reduceMul, Int.reduceNeg, Int.reduceMod, Int.reduceDiv, Int.reduceTMod, Int.reduceTDiv, Int.reduceToNat, okChain_i, okLoads_nil, okLoads_in, okLoads_eq]; rfl)
end Go.Proofs.YtceildmghmigaaaDoor.Sim
