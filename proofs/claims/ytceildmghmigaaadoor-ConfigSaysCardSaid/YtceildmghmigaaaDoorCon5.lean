/- The chapter's examples; boot, and the bound. -/
import Derived.Test.YtceildmghmigaaaDoorCon4
import Derived.Test.YtceildmghmigaaaDoorSim21
namespace Go.Proofs.YtceildmghmigaaaDoor.Sim
open Go
set_option linter.unusedSimpArgs false
set_option linter.unusedVariables false
theorem fbk_none : ∀ (l : List Bd) (k : Nat), (∀ x ∈ l, x.2.1 ≤ x.1 ∧ x.1 ≤ x.2.2) → fbk k l = none := by
  intro l
  induction l with
  | nil => intro k _; rfl
  | cons x l ih =>
    intro k h
    unfold fbk
    rw [if_pos (h x (List.mem_cons_self))]
    exact ih (k + 1) (fun y hy => h y (List.mem_cons_of_mem _ hy))
def cfOf (x : Cv) : Cf := ⟨x.a0, x.a1, x.a2, x.a3, x.a4, 100000, 0, 500, 20000, 10000, 12000, 3000, 4200, 300, 600, 1000, 20, 100, x.a18, 50, x.o, 3000, 500, 3000, x.a24, x.a25, x.f⟩
theorem cfgL_eq (x : Cv) : cfgL x = (cfOf x).L := rfl
structure CvOk (x : Cv) : Prop where
  h0 : 1 ≤ x.a0 ∧ x.a0 ≤ 99
  h1 : 1 ≤ x.a1 ∧ x.a1 ≤ 99
  h2 : 1 ≤ x.a2 ∧ x.a2 ≤ 99
  h3 : 1 ≤ x.a3 ∧ x.a3 ≤ 99
  h4 : 1 ≤ x.a4 ∧ x.a4 ≤ 99
  h18 : 0 ≤ x.a18 ∧ x.a18 ≤ 400000
  h24 : 0 ≤ x.a24 ∧ x.a24 ≤ 1000000
  h25 : 500 ≤ x.a25 ∧ x.a25 ≤ 1000000
theorem bds_none (x : Cv) (h : CvOk x) : fbk 0 (bds (cfOf x)) = none := by
  obtain ⟨h0, h1, h2, h3, h4, h18, _, _⟩ := h
  apply fbk_none
  simp only [bds, cfOf, List.mem_cons, List.not_mem_nil, or_false, forall_eq_or_imp, forall_eq]
  omega
theorem eds_none (x : Cv) (h : CvOk x) : fbk 0 (eds (cfOf x)) = none := by
  obtain ⟨_, _, _, _, _, _, h24, h25⟩ := h
  apply fbk_none
  simp only [eds, cfOf, List.mem_cons, List.not_mem_nil, or_false, forall_eq_or_imp, forall_eq]
  omega
def l4 : List Pt := [(0, 20000), (20000, 23000), (80000, 25000), (100000, 28000)]
theorem l4_tab : Tab l4 := by
  refine ⟨by decide, by decide, ?_, ?_⟩
  · intro j p h
    match j with
    | 0 => injection h with h; subst h; decide
    | 1 => injection h with h; subst h; decide
    | 2 => injection h with h; subst h; decide
    | 3 => injection h with h; subst h; decide
    | j + 4 => cases h
  · intro j p q h g
    match j with
    | 0 => injection h with h; injection g with g; subst h; subst g; decide
    | 1 => injection h with h; injection g with g; subst h; subst g; decide
    | 2 => injection h with h; injection g with g; subst h; subst g; decide
    | 3 => cases g
    | j + 4 => cases h
theorem l4_PS {G : Heap} {b : Nat} (h : live G b = ocvB) : PS G (.slice (some ⟨b, 0, none⟩) 4 2) l4 := by
  refine .inr ⟨b, 2, true, 39, _, rfl, h, ?_⟩
  intro j p h
  match j with
  | 0 => injection h with h; subst h; exact ⟨by decide, rfl⟩
  | 1 => injection h with h; subst h; exact ⟨by decide, rfl⟩
  | 2 => injection h with h; subst h; exact ⟨by decide, rfl⟩
  | 3 => injection h with h; subst h; exact ⟨by decide, rfl⟩
  | j + 4 => cases h
def fdl (K : Int) (i : Nat) : List Fd := (List.range i).map fun (j : Nat) => (4 + ((j : Int) + K / 8) % 3, 50 + 60 * ((K / 24 + (j : Int)) % 5), (K / 120 + (j : Int) * (j : Int)) % 4)
theorem fdl_len (K : Int) (i : Nat) : (fdl K i).length = i := by simp [fdl]
theorem fdl_C (K : Int) (i : Nat) : bdC (fdl K i) = fds K i := by
  induction i with
  | zero => rfl
  | succ i ih =>
    rw [fds_succ, ← ih]
    unfold fdl bdC
    rw [List.range_succ]
    simp [bdL, fdv]
theorem fdl_ok (K : Int) (i : Nat) : ∀ x ∈ fdl K i, okF x := by
  intro x hx
  simp only [fdl, List.mem_map, List.mem_range] at hx
  obtain ⟨j, hj, rfl⟩ := hx
  unfold okF
  simp only
  generalize (j : Int) * (j : Int) = jj
  omega
theorem fdl_FS {h : Nat} {K : Int} {i : Nat} {G : Heap} {f : Value} (hf : Feed h K i G f) : FS G f (fdl K i) := by
  rcases hf with ⟨rfl, rfl⟩ | ⟨_, b, rfl, hb, _⟩
  · exact .inl ⟨rfl, 0, rfl⟩
  · exact .inr ⟨b, 3, true, 41, by rw [fdl_len], by rw [fdl_C]; exact hb⟩
theorem FS.one {H : Heap} {v : Value} {l : List Fd} (h : FS H v l) : v.oneCell' = true ∧ v.cells.toList = [v] := by
  rcases h with ⟨rfl, e, rfl⟩ | ⟨i, e, ow, ty, rfl, _⟩ <;> exact ⟨rfl, rfl⟩
/-- A configuration of the statements may be. -/
theorem cfg_check (x : Cv) (h : CvOk x) (K : Int) (i : Nat) (hi : i ≤ 16) (H : Heap) (ho : PS H x.o l4) (hf : FS H x.f (fdl K i)) : ∃ F, D Tryd.prog hints 11 [.agg ⟨(cfOf x).L⟩] H = some (.nilIface, F) ∧ Ext H F := by
  have hk : (cfOf x).ok := ⟨ho.one.1, ho.one.2, hf.one.1, hf.one.2⟩
  refine check_ok (cfOf x) hk H ?_
  obtain ⟨F, e, y⟩ := amiss_tab (cfOf x) hk (bds_none x h) l4 l4_tab (0, 20000) (100000, 28000) rfl rfl (fdl K i) (by rw [fdl_len]; omega) (H ++ [some ⟨true, 26, (cfOf x).L⟩]) (ho.ext (Ext.more _ _)) (hf.ext (Ext.more _ _))
  have ha : amR (cfOf x) 0 100000 (fdl K i) = 0 := by
    unfold amR
    rw [if_neg (by decide), if_neg (by show ¬ ((100000 : Int) ≠ 100000); decide), eds_none x h]
    exact if_pos ⟨fdl_ok K i, by rw [fdl_len]; exact hi⟩
  simp only at e
  rw [ha] at e
  exact ⟨F, e, y⟩
theorem cvG_ok (n m k : Int) (h : Nat) (f : Value) : CvOk (cvG n m k h f) := by
  unfold cvG
  constructor <;> simp only <;> omega
def cz : Cf := ⟨0, 0, 0, 0, 0, 0, 0, 0, 0, 0, 0, 0, 0, 0, 0, 0, 0, 0, 0, 0, .slice none 0 0, 0, 0, 0, 0, 0, .slice none 0 0⟩
theorem cz_ok : cz.ok := ⟨rfl, rfl, rfl, rfl⟩
set_option maxRecDepth 100000 in
theorem first_f (H : Heap) (hE : EH all7 H) : ∃ X, D Tryd.prog hints 7 [] H = some (.bool true, H ++ X) := by
  obtain ⟨F, p, e1, y1, kp⟩ := check_at cz cz_ok 1 (by decide) H hE (amiss_bad cz cz_ok 0 (by decide) (by decide) _)
  have e2 := fun F => placed_f 106 1 (by decide) F
  obtain ⟨G1, hG1⟩ : ∃ G1, G1 = F ++ [some ⟨true, 35, [.int .i64 106, .bool true, .int .i64 1]⟩] := ⟨_, rfl⟩
  have y2 : Ext F G1 := ⟨_, hG1⟩
  obtain ⟨X3, e3⟩ := sameAt_f p 1 1 G1 (hE.ext (y1.trans y2)) (y2.live kp)
  rw [decide_eq_true rfl] at e3
  obtain ⟨G3, hG3⟩ : ∃ G3, G3 = G1 ++ X3 := ⟨_, rfl⟩
  rw [← hG3] at e3
  have y3 : Ext G1 G3 := ⟨_, hG3⟩
  have e4 := config0_f 0 G3 (by decide) (by decide)
  simp only [K] at e4
  rw [cfgL_eq] at e4
  obtain ⟨G4, hG4⟩ : ∃ G4, G4 = G3 ++ [some ⟨true, 26, (cfOf (cv0 0 G3.length)).L⟩, some ⟨true, 26, (cfOf (cv0 0 G3.length)).L⟩, ocvB] := ⟨_, rfl⟩
  rw [← hG4] at e4
  have y4 : Ext G3 G4 := ⟨_, hG4⟩
  have hoc : live G4 (G3.length + 2) = ocvB := by rw [hG4]; exact (live_app_add _ _ _).trans rfl
  have hcv : CvOk (cv0 0 G3.length) := by
    unfold cv0
    constructor <;> simp only <;> omega
  obtain ⟨F5, e5, y5⟩ := cfg_check (cv0 0 G3.length) hcv 0 0 (by omega) G4 (l4_PS hoc) (.inl ⟨rfl, 0, rfl⟩)
  have hz : Ext H F5 := (((y1.trans y2).trans y3).trans y4).trans y5
  have hzL : cz.L = [.int .i64 0, .int .i64 0, .int .i64 0, .int .i64 0, .int .i64 0, .int .i64 0, .int .i64 0, .int .i64 0, .int .i64 0, .int .i64 0, .int .i64 0, .int .i64 0, .int .i64 0, .int .i64 0, .int .i64 0, .int .i64 0, .int .i64 0, .int .i64 0, .int .i64 0, .int .i64 0, .slice none 0 0, .int .i64 0, .int .i64 0, .int .i64 0, .int .i64 0, .int .i64 0, .slice none 0 0] := rfl
  rw [hzL] at e1
  have : D Tryd.prog hints 7 [] H = some (.bool true, F5) := by
    generalize (cfOf (cv0 0 G3.length)).L = CL at *
    rw [D_eq p7 _ _ (Nat.le_of_ble_eq_true rfl)]
    simp (maxDischargeDepth := 8) only [r7, b7, c7_0, c7_1, e1, e2, ← hG1, e3, e4, e5, RUN, Ed, knd, kndR, resV, binInt, mnmxV, mnmx2, fillL, unV, lenV, extractV, partV, loadAt, Nat.reduceAdd, Nat.reduceBEq, Nat.reduceEqDiff, Nat.reduceLT, Nat.reduceLeDiff, Nat.reduceMul, Nat.reduceSub, reduceIte, Int.reduceEq, Int.reduceNe, Int.reduceLT, Int.reduceLE, Int.reduceAdd, Int.reduceSub, Int.reduceMul, Int.reduceNeg, Int.reduceMod, Int.reduceDiv, Int.reduceTMod, Int.reduceTDiv, Int.reduceToNat, okChain_i, okLoads_nil, okLoads_in, okLoads_eq]
  obtain ⟨X, hX⟩ := hz
  exact ⟨X, by rw [this, hX]⟩
set_option maxRecDepth 100000 in
theorem boot_f (c : Cf) (hk : c.ok) (h1 : 1 ≤ c.b ∧ c.b ≤ 200) (h2 : 1 ≤ c.s ∧ c.s ≤ 200) (H : Heap) : D Tryd.prog hints 15 [.agg ⟨c.L⟩] H = some (.int .i64 (c.b + c.s), H ++ [some ⟨true, 26, c.L⟩]) := by
  have w := wrap64 (c.b + c.s) (by omega) (by omega)
  obtain ⟨o1, o2, f1, f2⟩ := hk
  obtain ⟨d, b, s, p, h, cap, qmin, imax, trip, vmin, vdark, cmin, cmax, cgap, tmax, coil, ohm, sag, amp, drift, o, gen, bat, ext, eland, margin, f⟩ := c
  simp only at o1 o2 f1 f2 w
  rw [D_eq p15 _ _ (Nat.le_of_ble_eq_true rfl)]
  simp (maxDischargeDepth := 8) only [r15, b15, c15_0, c15_1, Cf.L, o1, o2, f1, f2, w, RUN, Ed, knd, kndR, resV, binInt, mnmxV, mnmx2, fillL, unV, lenV, extractV, partV, loadAt, Nat.reduceAdd, Nat.reduceBEq, Nat.reduceEqDiff, Nat.reduceLT, Nat.reduceLeDiff, Nat.reduceMul, Nat.reduceSub, reduceIte, Int.reduceEq, Int.reduceNe, Int.reduceLT, Int.reduceLE, Int.reduceAdd, Int.reduceSub, Int.reduceMul, Int.reduceNeg, Int.reduceMod, Int.reduceDiv, Int.reduceTMod, Int.reduceTDiv, Int.reduceToNat, okChain_i, okLoads_nil, okLoads_in, okLoads_eq]
def bndV (c : Cf) : Int := c.b + c.s + 6 * (c.b + c.s) + 6 * (c.d + 2)
set_option maxRecDepth 100000 in
theorem bound_f (c : Cf) (hk : c.ok) (h0 : 1 ≤ c.d ∧ c.d ≤ 200) (h1 : 1 ≤ c.b ∧ c.b ≤ 200) (h2 : 1 ≤ c.s ∧ c.s ≤ 200) (H : Heap) : ∃ X, D Tryd.prog hints 17 [.agg ⟨c.L⟩] H = some (.int .i64 (bndV c), H ++ X) := by
  have e1 := fun F => boot_f c hk h1 h2 F
  have w1 := wrap64 (c.b + c.s) (by omega) (by omega)
  have w2 := wrap64 (6 * (c.b + c.s)) (by omega) (by omega)
  have w3 := wrap64 (c.b + c.s + 6 * (c.b + c.s)) (by omega) (by omega)
  have w4 := wrap64 (c.d + 2) (by omega) (by omega)
  have w5 := wrap64 (6 * (c.d + 2)) (by omega) (by omega)
  have w6 := wrap64 (c.b + c.s + 6 * (c.b + c.s) + 6 * (c.d + 2)) (by omega) (by omega)
  obtain ⟨H1, hH1⟩ : ∃ H1, H1 = H ++ [some ⟨true, 26, c.L⟩] := ⟨_, rfl⟩
  have k1 : live H1 H.length = some ⟨true, 26, c.L⟩ := by rw [hH1]; exact (live_app_len _ _).trans rfl
  have i1 := live_ltG k1
  have k1' := fun Z => live_more0 k1 Z
  obtain ⟨o1, o2, f1, f2⟩ := hk
  unfold bndV
  have fin : ∀ {V : Value}, D Tryd.prog hints 17 [.agg ⟨c.L⟩] H = some (V, H1 ++ [some ⟨true, 26, c.L⟩]) → ∃ X, D Tryd.prog hints 17 [.agg ⟨c.L⟩] H = some (V, H ++ X) := fun h => ⟨_, by rw [h, hH1, List.append_assoc]⟩
  apply fin
  obtain ⟨d, b, s, p, h, cap, qmin, imax, trip, vmin, vdark, cmin, cmax, cgap, tmax, coil, ohm, sag, amp, drift, o, gen, bat, ext, eland, margin, f⟩ := c
  simp only at o1 o2 f1 f2 w1 w2 w3 w4 w5 w6
  simp only [Cf.L] at hH1 k1 k1' e1
  rw [D_eq p17 _ _ (Nat.le_of_ble_eq_true rfl)]
  simp (maxDischargeDepth := 8) only [r17, b17, c17_0, c17_1, Cf.L, o1, o2, f1, f2, ← hH1, k1, k1', i1, e1, w1, w2, w3, w4, w5, w6, fullOf_appG, fullOf_mapG, List.length_map, RUN, Ed, knd, kndR, resV, binInt, mnmxV, mnmx2, fillL, unV, lenV, extractV, partV, loadAt, Nat.reduceAdd, Nat.reduceBEq, Nat.reduceEqDiff, Nat.reduceLT, Nat.reduceLeDiff, Nat.reduceMul, Nat.reduceSub, reduceIte, Int.reduceEq, Int.reduceNe, Int.reduceLT, Int.reduceLE, Int.reduceAdd, Int.reduceSub, Int.reduceMul, Int.reduceNeg, Int.reduceMod, Int.reduceDiv, Int.reduceTMod, Int.reduceTDiv, Int.reduceToNat, okChain_i, okLoads_nil, okLoads_in, okLoads_eq]
end Go.Proofs.YtceildmghmigaaaDoor.Sim
