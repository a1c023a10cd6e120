/- The statements of chapter 17 (health). -/
import Derived.Test.YtbamnfladjkkcaaHea2
namespace Go.Proofs.Ytbamnfladjkkcaa.Sim
open Go
set_option linter.unusedSimpArgs false
set_option linter.unusedVariables false
theorem src_new (c : Cv) (H : Heap) (n : Int) : Src (H ++ [some ⟨true, 51, cfgL c⟩, F n 0 false, F n 0 false, F n 0 false, src c (H.length + 1) (H.length + 2) (H.length + 3) false false]) (H.length + 4) c (H.length + 1) (H.length + 2) (H.length + 3) n 0 false n 0 false n 0 false false false := by
  constructor <;> rw [live_app_add] <;> rfl
theorem cfgB (n : Int) (h : Nat) : max (min (cv0 n h).a1 1000) 1 = (cv0 n h).a1 ∧ 1 ≤ (cv0 n h).a1 ∧ (cv0 n h).a1 ≤ 3 := by
  simp only [cv0]; omega
theorem bad0 : badB 0 = false := by decide
def Keep (H H2 : Heap) : Prop := H.length ≤ H2.length ∧ ∀ i, i < H.length → live H2 i = live H i
theorem Keep.app (H X : Heap) : Keep H (H ++ X) := ⟨by simp, fun i hi => live_app _ _ _ hi⟩
theorem Keep.trans {A B C : Heap} (h : Keep A B) (g : Keep B C) : Keep A C := ⟨Nat.le_trans h.1 g.1, fun i hi => (g.2 i (Nat.lt_of_lt_of_le hi h.1)).trans (h.2 i hi)⟩
theorem first_f (H : Heap) : ∃ H2, K 28 [] H = some (.bool true, H2) ∧ Keep H H2 := by
  have e1 := config0_f 0 H (by omega) (by omega)
  have hB : max (min (cv0 0 H.length).a1 1000) 1 = 1 := rfl
  have e2 := hnew_f (cv0 0 H.length) (H ++ [some ⟨true, 51, cfgL (cv0 0 H.length)⟩, some ⟨true, 51, cfgL (cv0 0 H.length)⟩, ocvB])
  have hs := src_new (cv0 0 H.length) (H ++ [some ⟨true, 51, cfgL (cv0 0 H.length)⟩, some ⟨true, 51, cfgL (cv0 0 H.length)⟩, ocvB]) 1
  rw [hB] at e2
  simp only [K, List.append_assoc, List.cons_append, List.nil_append, List.length_append, List.length_cons, List.length_nil, Nat.zero_add, Nat.reduceAdd, Nat.add_assoc] at e1 e2 hs
  have e3 := usable_g _ _ _ _ _ _ _ _ _ _ _ _ _ _ hs.g hs.u hs.s
  obtain ⟨H', X, e4, hlen, hsrc, hkeep⟩ := hstep_f _ _ _ _ _ _ _ _ _ _ _ _ _ _ _ _ _ hs (by omega) (by omega) (by omega) (by omega) (by omega) (by omega) (by omega) (by omega) (by omega) 20000 true 0 false 0 true
  have hv : (fst 1 0 false (upIn 20000 true)).2 = true := by decide
  have hv2 : (fst 1 0 false (badB 0)).2 = false := by rw [bad0]; decide
  have hv3 : (fst 1 0 false (ovIn 0 false)).2 = false := by decide
  rw [hv, hv2, hv3] at e4
  simp only [K] at e4
  refine ⟨H' ++ X, ?_, ?_⟩
  · rw [K, D_eq p28 _ _ (Nat.le_of_ble_eq_true rfl)]
    simp (maxDischargeDepth := 8) only [r28, b28, c28_0, c28_1, c28_2, c28_3, c28_4, e1, e2, e3, e4, Es, Ec, Eb, Er, Ed, E_skip, E_exit, E_ret, andThen_n, andThen_x, andThen_r, condB_t, condB_f, blk_n, blk_r, blk_x, regDone_s, opThen_s, nextOps_e, gOp_t, gOp_f, runOps_nil, runOps_cons, guardOn_n, guardOn_s, isB_b, isB_u, put_s, put_n, upd_eq, upd_ne, frame0_e, ev_t, ev_c, ev_f, stepC_call, stepC_plain, live_app_add, live_app_len, live_cons_zero, live_cons_succ, live_app, live_set_eq, live_set_ne, set_app, set_app_add, set_app_len, RD_cons, RD_nil, gD_f, gD_p, gD_l, gD_o, nextPure_e, nextLoad_e, maskOf_nil, fullOf_nil, nowOf_n, nowOf_c, knd, kndR, s_mv, s_pick, pickV_t, pickV_f, s_new, s_box, okV_s, s_build, s_bslice, s_load, s_loadn, okH_s, s_store, s_nil, s_arith, s_same, s_un, convV_i, s_conv, s_fieldA, s_part, s_idxS, s_idxA, s_idxV, s_len, s_alen, s_mnmx, s_extract, s_iface, s_slice, s_append, cellO_s, loadV_p, cellsO_s, loadnV_p, putO_one, putO_n, storeV_p, notNil_p, fieldV_p, done_n, done_r, resVs_nil, resVs_cons, resV, tup_nil, tup_one, tup_two, idxS_s, idxA_s, arithV_i, binInt, mnmxV, mnmx2, one_bool, one_int, one_string, one_pointer, one_slice, one_iface, one_nilIface, cells_bool, cells_int, cells_string, cells_pointer, cells_slice, cells_iface, cells_nilIface, cells_agg, fillL, unV, sameV, eqV, lenV, List.set_set, andThen_ite, blk_ite, done_ite, extractV, partV, loadAt, loadThen_s, okLoad_nil, Option.bind_some, Option.map_some, List.map_cons, List.map_nil, List.getD_cons_zero, List.getD_cons_succ, List.getD_nil, List.length_cons, List.length_nil, List.length_append, List.length_set, List.getElem?_cons_zero, List.getElem?_cons_succ, List.set_cons_zero, List.set_cons_succ, List.take_succ_cons, List.take_zero, List.drop_succ_cons, List.drop_zero, List.foldl_cons, List.foldl_nil, List.all_cons, List.all_nil, List.append_assoc, List.cons_append, List.nil_append, List.append_nil, Nat.zero_add, Nat.add_zero, Nat.reduceAdd, Nat.reduceBEq, Nat.reduceEqDiff, Nat.reduceLT, Nat.reduceLeDiff, Nat.reduceMul, Nat.reduceSub, if_true, if_false, Bool.true_and, Bool.and_true, Bool.not_true, Bool.not_false, beq_self_eq_true, Bool.false_eq_true, reduceIte, and_self, and_true, true_and, decide_true, decide_false, Bool.and_self, Int.reduceEq, Int.reduceNe, Int.reduceLT, Int.reduceLE, Int.reduceAdd, Int.reduceSub, Int.reduceMul, Int.reduceNeg, Int.reduceMod, Int.reduceDiv, Int.reduceTMod, Int.reduceTDiv, Int.reduceToNat, Int.toNat_natCast, Int.toNat_zero, wrap64, other_t, other_f, quietThen_e, qNext_s, quietOf_cons, quietOf_two, quietOf_nil, quietOf_app, quietOf_self, chainThen_s, okChain_i, okLoads_nil, okLoads_in, okLoads_eq, mask_len, full_len, live_mask, live_full, fullOf_cons, okLoad_old, okLoad_after, okLoad_one, List.contains_cons, List.contains_nil, Bool.or_false, Bool.false_or, Bool.true_or, Bool.or_true, Bool.and_false, Bool.false_and, Nat.lt_add_right_iff_pos, Nat.add_lt_add_iff_left, Nat.lt_add_one, lt_more, Nat.add_assoc, ne_eq, not_false_eq_true, not_true_eq_false, beq_true, beq_false, Bool.or_self, Bool.not_eq_true, Bool.decide_eq_true, live_app_ge, set_app_ge, Nat.le_refl, Nat.le_add_right, Nat.sub_self, Nat.add_sub_cancel_left]
  · refine ⟨by simp [hlen]; omega, fun i hi => ?_⟩
    rw [hkeep i (by simp; omega) (by omega) (by omega) (by omega) (by omega)]
    exact live_app _ _ _ hi
end Go.Proofs.Ytbamnfladjkkcaa.Sim
