/- A step of the contactor of chapter 16: the walk through its Go text. -/
import Derived.Test.YtbamnfladjkkcaaConWords
namespace Go.Proofs.Ytbamnfladjkkcaa.Con
open Go Go.RowKit Go.Proofs.YtbamnfladjkkcaaW.PrintWords Go.Proofs.YtbamnfladjkkcaaW.PrintLast Go.Proofs.YtbamnfladjkkcaaW.PrintMore
set_option linter.unusedVariables false
set_option linter.unusedSimpArgs false
def nSince (c : CS) (cmd : Bool) : Int := if cmd = c.told then mn (c.since + 1) 1000 else 0
def nWrong0 (c : CS) (cmd : Bool) : Int := if cmd = c.told then c.wrong else 0
def nWrong (c : CS) (cmd : Bool) (v : Int) (fresh : Bool) : Int :=
  if fresh = true then (if (decide (v = 1) != cmd) = true ∧ c.d ≤ nSince c cmd then mn (nWrong0 c cmd + 1) 1000 else 0) else nWrong0 c cmd
def CS.step (c : CS) (cmd : Bool) (v : Int) (fresh : Bool) : CS :=
  ⟨c.d, c.b, cmd, nSince c cmd, nWrong c cmd v fresh, v, fresh, if c.b ≤ nWrong c cmd v fresh then c.jo || cmd else c.jo, if c.b ≤ nWrong c cmd v fresh then c.jn || !cmd else c.jn⟩
theorem step_jam (c : CS) (cmd : Bool) (v : Int) (fresh : Bool) (sn wn : Int) (h1 : nSince c cmd = sn) (h2 : nWrong c cmd v fresh = wn) (h : c.b ≤ wn) : c.step cmd v fresh = ⟨c.d, c.b, cmd, sn, wn, v, fresh, c.jo || cmd, c.jn || !cmd⟩ := by
  unfold CS.step; rw [h1, h2, if_pos h, if_pos h]
theorem step_not (c : CS) (cmd : Bool) (v : Int) (fresh : Bool) (sn wn : Int) (h1 : nSince c cmd = sn) (h2 : nWrong c cmd v fresh = wn) (h : ¬ c.b ≤ wn) : c.step cmd v fresh = ⟨c.d, c.b, cmd, sn, wn, v, fresh, c.jo, c.jn⟩ := by
  unfold CS.step; rw [h1, h2, if_neg h, if_neg h]
set_option maxHeartbeats 4000000 in
set_option maxRecDepth 100000 in
theorem step_c (g : Nat) (c : CS) (cmd : Bool) (v : Int) (fresh : Bool) (w0 w : World) (hI : Con w0 w g c) (hB : Below w0.heap.size w0 w) (hs0 : -1000 ≤ c.since) (hs1 : c.since ≤ 1000) (hw0 : 0 ≤ c.wrong) (hw1 : c.wrong ≤ 1000) :
    Calls Try.prog 19 #[.pointer (some ⟨g, 0, none⟩), .bool cmd, .agg #[.int .i64 v, .bool fresh]] w fun e w' => e = .returned (.tuple #[]) ∧ Con w0 w' g (c.step cmd v fresh) ∧ Below w0.heap.size w0 w' ∧ KeepBut w w' g none := by
  obtain ⟨d, b, told, since, wrong, v0, f0, jo, jn⟩ := c
  simp only at hs0 hs1 hw0 hw1
  have HI : Aside0 (IsS80 w0 w g d b told since wrong v0 f0 jo jn) := ⟨hI⟩
  have HB := Aside0.mk hB
  have HK := Aside0.mk (KeepBut.refl w g none)
  clear hI hB
  have hu := Try.underlying36
  have hlt := HI.out.lt
  have HLT := Aside0.mk hlt
  clear hlt
  have HI1 := Aside0.mk (HI.out.alloc (.cells #[.int .i64 v, .bool fresh] 36))
  have hb := HI1.out.1
  have h2 := cellS80_2 hb
  have h3 := cellS80_3 hb
  have h4 := cellS80_4 hb
  have f2 := blk_frozen hb 2
  have f3 := blk_frozen hb 3
  have f4 := blk_frozen hb 4
  clear hb
  go_enter Try.func19, Try.ntmps19
  go_upto_if 11 with (fail)
  go_cut [] (fun wc => Aside0 (IsS80 w0 wc g d b cmd (nSince ⟨d, b, told, since, wrong, v0, f0, jo, jn⟩ cmd) (nWrong0 ⟨d, b, told, since, wrong, v0, f0, jo, jn⟩ cmd) v0 f0 jo jn) ∧ Aside0 (wc.heap[w.heap.size]? = some (.cells #[.int .i64 v, .bool fresh] 36 (0, 0))) ∧ Aside0 (Below w0.heap.size w0 wc) ∧ Aside0 (KeepBut w wc g none))
  case first =>
    have hbs : Aside0 ((w.alloc (.cells #[.int .i64 v, .bool fresh] 36)).heap[w.heap.size]? = some (.cells #[.int .i64 v, .bool fresh] 36 (0, 0))) := ⟨by simpa using heap_alloc_new w _⟩
    have hbl : Aside0 (Below w0.heap.size w0 (w.alloc (.cells #[.int .i64 v, .bool fresh] 36))) := ⟨below_step HB.out (below_alloc (Below.refl _ _) _)⟩
    have hkp : Aside0 (KeepBut w (w.alloc (.cells #[.int .i64 v, .bool fresh] 36)) g none) := ⟨keep_alloc HK.out _⟩
    by_cases hct : cmd = told
    · subst hct
      have e2 : nWrong0 ⟨d, b, cmd, since, wrong, v0, f0, jo, jn⟩ cmd = wrong := if_pos rfl
      by_cases h1 : 1000 < since + 1
      · have e1 : nSince ⟨d, b, cmd, since, wrong, v0, f0, jo, jn⟩ cmd = 1000 := by
          have e3 : mn (since + 1) 1000 = 1000 := by unfold mn; omega
          exact (if_pos rfl).trans e3
        have E1 := Aside0.mk e1
        have E2 := Aside0.mk e2
        clear e1 e2
        cases cmd
        all_goals
          go_wp2
          go_meet
          case rel => exact ⟨⟨by rw [E1.out, E2.out]; exact HI1.out.set_3 _⟩, ⟨blk_far hbs.out (Nat.ne_of_gt HLT.out) _⟩, ⟨below_set hbl.out HI1.out.ge⟩, ⟨hkp.out.set_ _ _⟩⟩
      · have e1 : nSince ⟨d, b, cmd, since, wrong, v0, f0, jo, jn⟩ cmd = since + 1 := by
          have e3 : mn (since + 1) 1000 = since + 1 := by unfold mn; omega
          exact (if_pos rfl).trans e3
        have E1 := Aside0.mk e1
        have E2 := Aside0.mk e2
        clear e1 e2
        cases cmd
        all_goals
          go_wp2
          go_meet
          case rel => exact ⟨⟨by rw [E1.out, E2.out]; exact HI1.out.set_3 _⟩, ⟨blk_far hbs.out (Nat.ne_of_gt HLT.out) _⟩, ⟨below_set hbl.out HI1.out.ge⟩, ⟨hkp.out.set_ _ _⟩⟩
    · have E1 : Aside0 (nSince ⟨d, b, told, since, wrong, v0, f0, jo, jn⟩ cmd = 0) := ⟨if_neg hct⟩
      have E2 : Aside0 (nWrong0 ⟨d, b, told, since, wrong, v0, f0, jo, jn⟩ cmd = 0) := ⟨if_neg hct⟩
      cases cmd <;> cases told <;> first | (exact absurd rfl hct) | clear hct
      all_goals
        go_wp2
        go_meet
        case rel => exact ⟨⟨by rw [E1.out, E2.out]; exact ((HI1.out.set_2 _).set_3 _).set_4 _⟩, ⟨blk_far (blk_far (blk_far hbs.out (Nat.ne_of_gt HLT.out) _) (Nat.ne_of_gt HLT.out) _) (Nat.ne_of_gt HLT.out) _⟩, ⟨below_set (below_set (below_set hbl.out HI1.out.ge) HI1.out.ge) HI1.out.ge⟩, ⟨((hkp.out.set_ _ _).set_ _ _).set_ _ _⟩⟩
  case rest =>
    obtain ⟨HC, HS, HB2, HK2⟩ := hcut
    obtain ⟨sn, hsn⟩ : ∃ n, nSince ⟨d, b, told, since, wrong, v0, f0, jo, jn⟩ cmd = n := ⟨_, rfl⟩
    obtain ⟨wr, hwr⟩ : ∃ n, nWrong0 ⟨d, b, told, since, wrong, v0, f0, jo, jn⟩ cmd = n := ⟨_, rfl⟩
    rw [hsn, hwr] at HC
    have HSN := Aside0.mk hsn
    have HWR := Aside0.mk hwr
    have hr0 : 0 ≤ wr := by rw [← hwr]; unfold nWrong0; simp only; split <;> omega
    have hr1 : wr ≤ 1000 := by rw [← hwr]; unfold nWrong0; simp only; split <;> omega
    clear hsn hwr h2 h3 h4 f2 f3 f4
    have hb := HC.out.1
    have h0 := cellS80_0 hb
    have h1 := cellS80_1 hb
    have h3 := cellS80_3 hb
    have h4 := cellS80_4 hb
    have h5 := cellS80_5 hb
    have h6 := cellS80_6 hb
    have f4 := blk_frozen hb 4
    have f5 := blk_frozen hb 5
    have f6 := blk_frozen hb 6
    have k0 : wc.cell? ⟨w.heap.size, 0, none⟩ = some (.int .i64 v) := (blk_cell HS.out 0).trans rfl
    have k1 : wc.cell? ⟨w.heap.size, 1, none⟩ = some (.bool fresh) := (blk_cell HS.out 1).trans rfl
    have hne : w.heap.size ≠ g := Nat.ne_of_gt HLT.out
    clear hb
    go_upto_region 6 with (fail)
    have HC2 := Aside0.mk ((HC.out.set_5 v).set_6 fresh)
    have HB3 := Aside0.mk (below_set (below_set HB2.out HC.out.ge (j := 5) (v := .int .i64 v)) HC.out.ge (j := 6) (v := .bool fresh))
    have HK3 := Aside0.mk ((HK2.out.set_ 5 (.int .i64 v)).set_ 6 (.bool fresh))
    have k2 : ((wc.setCell ⟨g, 5, none⟩ (.int .i64 v)).setCell ⟨g, 6, none⟩ (.bool fresh)).heap[w.heap.size]? = some (.cells #[.int .i64 v, .bool fresh] 36 (0, 0)) := blk_far (blk_far HS.out hne _) hne _
    generalize ((wc.setCell ⟨g, 5, none⟩ (.int .i64 v)).setCell ⟨g, 6, none⟩ (.bool fresh)) = W at HC2 HB3 HK3 k2 ⊢
    clear h0 h1 h3 h4 h5 h6 f4 f5 f6 k0 k1 HI HB HK HI1 HC HS HB2 HK2
    have hb := HC2.out.1
    have h0 := cellS80_0 hb
    have h1 := cellS80_1 hb
    have h3 := cellS80_3 hb
    have h4 := cellS80_4 hb
    have f4 := blk_frozen hb 4
    have k0 : W.cell? ⟨w.heap.size, 0, none⟩ = some (.int .i64 v) := (blk_cell k2 0).trans rfl
    have k1 : W.cell? ⟨w.heap.size, 1, none⟩ = some (.bool fresh) := (blk_cell k2 1).trans rfl
    clear hb k2
    obtain ⟨wn, hwn⟩ : ∃ n, nWrong ⟨d, b, told, since, wrong, v0, f0, jo, jn⟩ cmd v fresh = n := ⟨_, rfl⟩
    have HWN := Aside0.mk hwn
    clear hwn
    cases fresh
    · have e1 : wn = wr := by rw [← HWN.out, ← HWR.out]; rfl
      subst e1
      go_wp2
      have hb9 := HC2.out.1
      have x1 := cellS80_1 hb9
      have x4 := cellS80_4 hb9
      clear hb9
      by_cases hbw : b ≤ wn
      · have hbw1 : decide (b ≤ wn) = true := decide_eq_true hbw
        have ES := Aside0.mk (step_jam ⟨d, b, told, since, wrong, v0, f0, jo, jn⟩ cmd v false sn wn HSN.out HWN.out hbw)
        clear hbw
        go_quiet (fail)
        go_wp2_with fail
        with_reducible refine (set_c g ⟨d, b, cmd, sn, wn, v, false, jo, jn⟩ cmd (!cmd) w0 _ ?s1 ?s2).mono ?_
        case s1 => exact IsS80.drewN HC2.out _
        case s2 => exact pw_below_drewN HB3.out _
        rintro e w9 ⟨rfl, hc9, hb9, hk9⟩
        have C9 := Aside0.mk hc9
        have B9 := Aside0.mk hb9
        have K9 := Aside0.mk hk9
        clear hc9 hb9 hk9
        go_wp2_with fail
        go_end0
        exact ⟨rfl, by rw [ES.out]; exact C9.out, B9.out, (keep_drewN HK3.out _).trans K9.out (.inl rfl)⟩
      · have hbw1 : decide (b ≤ wn) = false := decide_eq_false hbw
        have ES := Aside0.mk (step_not ⟨d, b, told, since, wrong, v0, f0, jo, jn⟩ cmd v false sn wn HSN.out HWN.out hbw)
        clear hbw
        go_quiet (fail)
        go_wp2_with fail
        go_end0
        exact ⟨rfl, by rw [ES.out]; exact IsS80.drewN HC2.out _, pw_below_drewN HB3.out _, keep_drewN HK3.out _⟩
    · have key : ∀ (nq : Nat) (x : Int), x = wn → Aside0 (IsS80 w0 ((W.drewN nq).setCell ⟨g, 4, none⟩ (.int .i64 x)) g d b cmd sn wn v true jo jn) ∧ Aside0 (Below w0.heap.size w0 ((W.drewN nq).setCell ⟨g, 4, none⟩ (.int .i64 x))) ∧ Aside0 (KeepBut w ((W.drewN nq).setCell ⟨g, 4, none⟩ (.int .i64 x)) g none) := by
        rintro nq x rfl
        exact ⟨⟨IsS80.set_4 (IsS80.drewN HC2.out _) _⟩, ⟨below_set (pw_below_drewN HB3.out _) (IsS80.ge HC2.out)⟩, ⟨(keep_drewN HK3.out _).set_ _ _⟩⟩
      by_cases hA : (decide (v = 1) != cmd) = true ∧ d ≤ sn
      · have e0 : wn = mn (wr + 1) 1000 := by
          rw [← HWN.out, ← HWR.out]
          unfold nWrong
          rw [if_pos rfl, if_pos ⟨hA.1, by rw [HSN.out]; exact hA.2⟩]
        obtain ⟨hA1, hA2⟩ := hA
        have hd1 : decide (d ≤ sn) = true := decide_eq_true hA2
        clear hA2
        by_cases hm : 1000 < wr + 1
        · have e1 : (1000 : Int) = wn := by rw [e0]; unfold mn; omega
          have EW := Aside0.mk e1
          clear e0 e1
          by_cases hv : v = 1
          · have hv1 : (v == 1) = true := beq_iff_eq.mpr hv
            have HV := Aside0.mk hv
            clear hv
            cases cmd
            · go_wp2
              go_quiet (fail)
              go_wp2
              obtain ⟨HC3, HB4, HK4⟩ := key nq (1000) EW.out
              generalize (W.drewN nq).setCell ⟨g, 4, none⟩ (.int .i64 (1000)) = W' at HC3 HB4 HK4 ⊢
              clear h0 h1 h3 h4 f4 k0 k1
              have hb9 := HC3.out.1
              have x1 := cellS80_1 hb9
              have x4 := cellS80_4 hb9
              clear hb9
              by_cases hbw : b ≤ wn
              · have hbw1 : decide (b ≤ wn) = true := decide_eq_true hbw
                have ES := Aside0.mk (step_jam ⟨d, b, told, since, wrong, v0, f0, jo, jn⟩ false v true sn wn HSN.out HWN.out hbw)
                clear hbw
                go_quiet (fail)
                go_wp2_with fail
                with_reducible refine (set_c g ⟨d, b, false, sn, wn, v, true, jo, jn⟩ false true w0 _ ?s1 ?s2).mono ?_
                case s1 => exact IsS80.drewN HC3.out _
                case s2 => exact pw_below_drewN HB4.out _
                rintro e w9 ⟨rfl, hc9, hb9, hk9⟩
                have C9 := Aside0.mk hc9
                have B9 := Aside0.mk hb9
                have K9 := Aside0.mk hk9
                clear hc9 hb9 hk9
                go_wp2_with fail
                go_end0
                exact ⟨rfl, by rw [ES.out]; exact C9.out, B9.out, (keep_drewN HK4.out _).trans K9.out (.inl rfl)⟩
              · have hbw1 : decide (b ≤ wn) = false := decide_eq_false hbw
                have ES := Aside0.mk (step_not ⟨d, b, told, since, wrong, v0, f0, jo, jn⟩ false v true sn wn HSN.out HWN.out hbw)
                clear hbw
                go_quiet (fail)
                go_wp2_with fail
                go_end0
                exact ⟨rfl, by rw [ES.out]; exact IsS80.drewN HC3.out _, pw_below_drewN HB4.out _, keep_drewN HK4.out _⟩
            · simp [HV.out] at hA1
          · have hv1 : (v == 1) = false := beq_eq_false_iff_ne.mpr hv
            have HV := Aside0.mk hv
            clear hv
            cases cmd
            · simp [HV.out] at hA1
            · go_wp2
              go_quiet (fail)
              go_wp2
              obtain ⟨HC3, HB4, HK4⟩ := key nq (1000) EW.out
              generalize (W.drewN nq).setCell ⟨g, 4, none⟩ (.int .i64 (1000)) = W' at HC3 HB4 HK4 ⊢
              clear h0 h1 h3 h4 f4 k0 k1
              have hb9 := HC3.out.1
              have x1 := cellS80_1 hb9
              have x4 := cellS80_4 hb9
              clear hb9
              by_cases hbw : b ≤ wn
              · have hbw1 : decide (b ≤ wn) = true := decide_eq_true hbw
                have ES := Aside0.mk (step_jam ⟨d, b, told, since, wrong, v0, f0, jo, jn⟩ true v true sn wn HSN.out HWN.out hbw)
                clear hbw
                go_quiet (fail)
                go_wp2_with fail
                with_reducible refine (set_c g ⟨d, b, true, sn, wn, v, true, jo, jn⟩ true false w0 _ ?s1 ?s2).mono ?_
                case s1 => exact IsS80.drewN HC3.out _
                case s2 => exact pw_below_drewN HB4.out _
                rintro e w9 ⟨rfl, hc9, hb9, hk9⟩
                have C9 := Aside0.mk hc9
                have B9 := Aside0.mk hb9
                have K9 := Aside0.mk hk9
                clear hc9 hb9 hk9
                go_wp2_with fail
                go_end0
                exact ⟨rfl, by rw [ES.out]; exact C9.out, B9.out, (keep_drewN HK4.out _).trans K9.out (.inl rfl)⟩
              · have hbw1 : decide (b ≤ wn) = false := decide_eq_false hbw
                have ES := Aside0.mk (step_not ⟨d, b, told, since, wrong, v0, f0, jo, jn⟩ true v true sn wn HSN.out HWN.out hbw)
                clear hbw
                go_quiet (fail)
                go_wp2_with fail
                go_end0
                exact ⟨rfl, by rw [ES.out]; exact IsS80.drewN HC3.out _, pw_below_drewN HB4.out _, keep_drewN HK4.out _⟩
        · have e1 : wr + 1 = wn := by rw [e0]; unfold mn; omega
          have EW := Aside0.mk e1
          clear e0 e1
          by_cases hv : v = 1
          · have hv1 : (v == 1) = true := beq_iff_eq.mpr hv
            have HV := Aside0.mk hv
            clear hv
            cases cmd
            · go_wp2
              go_quiet (fail)
              go_wp2
              obtain ⟨HC3, HB4, HK4⟩ := key nq (wr + 1) EW.out
              generalize (W.drewN nq).setCell ⟨g, 4, none⟩ (.int .i64 (wr + 1)) = W' at HC3 HB4 HK4 ⊢
              clear h0 h1 h3 h4 f4 k0 k1
              have hb9 := HC3.out.1
              have x1 := cellS80_1 hb9
              have x4 := cellS80_4 hb9
              clear hb9
              by_cases hbw : b ≤ wn
              · have hbw1 : decide (b ≤ wn) = true := decide_eq_true hbw
                have ES := Aside0.mk (step_jam ⟨d, b, told, since, wrong, v0, f0, jo, jn⟩ false v true sn wn HSN.out HWN.out hbw)
                clear hbw
                go_quiet (fail)
                go_wp2_with fail
                with_reducible refine (set_c g ⟨d, b, false, sn, wn, v, true, jo, jn⟩ false true w0 _ ?s1 ?s2).mono ?_
                case s1 => exact IsS80.drewN HC3.out _
                case s2 => exact pw_below_drewN HB4.out _
                rintro e w9 ⟨rfl, hc9, hb9, hk9⟩
                have C9 := Aside0.mk hc9
                have B9 := Aside0.mk hb9
                have K9 := Aside0.mk hk9
                clear hc9 hb9 hk9
                go_wp2_with fail
                go_end0
                exact ⟨rfl, by rw [ES.out]; exact C9.out, B9.out, (keep_drewN HK4.out _).trans K9.out (.inl rfl)⟩
              · have hbw1 : decide (b ≤ wn) = false := decide_eq_false hbw
                have ES := Aside0.mk (step_not ⟨d, b, told, since, wrong, v0, f0, jo, jn⟩ false v true sn wn HSN.out HWN.out hbw)
                clear hbw
                go_quiet (fail)
                go_wp2_with fail
                go_end0
                exact ⟨rfl, by rw [ES.out]; exact IsS80.drewN HC3.out _, pw_below_drewN HB4.out _, keep_drewN HK4.out _⟩
            · simp [HV.out] at hA1
          · have hv1 : (v == 1) = false := beq_eq_false_iff_ne.mpr hv
            have HV := Aside0.mk hv
            clear hv
            cases cmd
            · simp [HV.out] at hA1
            · go_wp2
              go_quiet (fail)
              go_wp2
              obtain ⟨HC3, HB4, HK4⟩ := key nq (wr + 1) EW.out
              generalize (W.drewN nq).setCell ⟨g, 4, none⟩ (.int .i64 (wr + 1)) = W' at HC3 HB4 HK4 ⊢
              clear h0 h1 h3 h4 f4 k0 k1
              have hb9 := HC3.out.1
              have x1 := cellS80_1 hb9
              have x4 := cellS80_4 hb9
              clear hb9
              by_cases hbw : b ≤ wn
              · have hbw1 : decide (b ≤ wn) = true := decide_eq_true hbw
                have ES := Aside0.mk (step_jam ⟨d, b, told, since, wrong, v0, f0, jo, jn⟩ true v true sn wn HSN.out HWN.out hbw)
                clear hbw
                go_quiet (fail)
                go_wp2_with fail
                with_reducible refine (set_c g ⟨d, b, true, sn, wn, v, true, jo, jn⟩ true false w0 _ ?s1 ?s2).mono ?_
                case s1 => exact IsS80.drewN HC3.out _
                case s2 => exact pw_below_drewN HB4.out _
                rintro e w9 ⟨rfl, hc9, hb9, hk9⟩
                have C9 := Aside0.mk hc9
                have B9 := Aside0.mk hb9
                have K9 := Aside0.mk hk9
                clear hc9 hb9 hk9
                go_wp2_with fail
                go_end0
                exact ⟨rfl, by rw [ES.out]; exact C9.out, B9.out, (keep_drewN HK4.out _).trans K9.out (.inl rfl)⟩
              · have hbw1 : decide (b ≤ wn) = false := decide_eq_false hbw
                have ES := Aside0.mk (step_not ⟨d, b, told, since, wrong, v0, f0, jo, jn⟩ true v true sn wn HSN.out HWN.out hbw)
                clear hbw
                go_quiet (fail)
                go_wp2_with fail
                go_end0
                exact ⟨rfl, by rw [ES.out]; exact IsS80.drewN HC3.out _, pw_below_drewN HB4.out _, keep_drewN HK4.out _⟩
      · have e1 : (0 : Int) = wn := by
          rw [← HWN.out]
          unfold nWrong
          rw [if_pos rfl, if_neg (by rw [HSN.out]; exact hA)]
        have EW := Aside0.mk e1
        clear e1
        by_cases hv : v = 1
        · have hv1 : (v == 1) = true := beq_iff_eq.mpr hv
          have HV := Aside0.mk hv
          clear hv
          cases cmd
          · have hd1 : decide (d ≤ sn) = false := decide_eq_false (fun hd => hA ⟨by simp [HV.out], hd⟩)
            go_wp2
            go_quiet (fail)
            go_wp2
            obtain ⟨HC3, HB4, HK4⟩ := key nq (0) EW.out
            generalize (W.drewN nq).setCell ⟨g, 4, none⟩ (.int .i64 (0)) = W' at HC3 HB4 HK4 ⊢
            clear h0 h1 h3 h4 f4 k0 k1
            have hb9 := HC3.out.1
            have x1 := cellS80_1 hb9
            have x4 := cellS80_4 hb9
            clear hb9
            by_cases hbw : b ≤ wn
            · have hbw1 : decide (b ≤ wn) = true := decide_eq_true hbw
              have ES := Aside0.mk (step_jam ⟨d, b, told, since, wrong, v0, f0, jo, jn⟩ false v true sn wn HSN.out HWN.out hbw)
              clear hbw
              go_quiet (fail)
              go_wp2_with fail
              with_reducible refine (set_c g ⟨d, b, false, sn, wn, v, true, jo, jn⟩ false true w0 _ ?s1 ?s2).mono ?_
              case s1 => exact IsS80.drewN HC3.out _
              case s2 => exact pw_below_drewN HB4.out _
              rintro e w9 ⟨rfl, hc9, hb9, hk9⟩
              have C9 := Aside0.mk hc9
              have B9 := Aside0.mk hb9
              have K9 := Aside0.mk hk9
              clear hc9 hb9 hk9
              go_wp2_with fail
              go_end0
              exact ⟨rfl, by rw [ES.out]; exact C9.out, B9.out, (keep_drewN HK4.out _).trans K9.out (.inl rfl)⟩
            · have hbw1 : decide (b ≤ wn) = false := decide_eq_false hbw
              have ES := Aside0.mk (step_not ⟨d, b, told, since, wrong, v0, f0, jo, jn⟩ false v true sn wn HSN.out HWN.out hbw)
              clear hbw
              go_quiet (fail)
              go_wp2_with fail
              go_end0
              exact ⟨rfl, by rw [ES.out]; exact IsS80.drewN HC3.out _, pw_below_drewN HB4.out _, keep_drewN HK4.out _⟩
          · go_wp2
            go_quiet (fail)
            go_wp2
            obtain ⟨HC3, HB4, HK4⟩ := key nq (0) EW.out
            generalize (W.drewN nq).setCell ⟨g, 4, none⟩ (.int .i64 (0)) = W' at HC3 HB4 HK4 ⊢
            clear h0 h1 h3 h4 f4 k0 k1
            have hb9 := HC3.out.1
            have x1 := cellS80_1 hb9
            have x4 := cellS80_4 hb9
            clear hb9
            by_cases hbw : b ≤ wn
            · have hbw1 : decide (b ≤ wn) = true := decide_eq_true hbw
              have ES := Aside0.mk (step_jam ⟨d, b, told, since, wrong, v0, f0, jo, jn⟩ true v true sn wn HSN.out HWN.out hbw)
              clear hbw
              go_quiet (fail)
              go_wp2_with fail
              with_reducible refine (set_c g ⟨d, b, true, sn, wn, v, true, jo, jn⟩ true false w0 _ ?s1 ?s2).mono ?_
              case s1 => exact IsS80.drewN HC3.out _
              case s2 => exact pw_below_drewN HB4.out _
              rintro e w9 ⟨rfl, hc9, hb9, hk9⟩
              have C9 := Aside0.mk hc9
              have B9 := Aside0.mk hb9
              have K9 := Aside0.mk hk9
              clear hc9 hb9 hk9
              go_wp2_with fail
              go_end0
              exact ⟨rfl, by rw [ES.out]; exact C9.out, B9.out, (keep_drewN HK4.out _).trans K9.out (.inl rfl)⟩
            · have hbw1 : decide (b ≤ wn) = false := decide_eq_false hbw
              have ES := Aside0.mk (step_not ⟨d, b, told, since, wrong, v0, f0, jo, jn⟩ true v true sn wn HSN.out HWN.out hbw)
              clear hbw
              go_quiet (fail)
              go_wp2_with fail
              go_end0
              exact ⟨rfl, by rw [ES.out]; exact IsS80.drewN HC3.out _, pw_below_drewN HB4.out _, keep_drewN HK4.out _⟩
        · have hv1 : (v == 1) = false := beq_eq_false_iff_ne.mpr hv
          have HV := Aside0.mk hv
          clear hv
          cases cmd
          · go_wp2
            go_quiet (fail)
            go_wp2
            obtain ⟨HC3, HB4, HK4⟩ := key nq (0) EW.out
            generalize (W.drewN nq).setCell ⟨g, 4, none⟩ (.int .i64 (0)) = W' at HC3 HB4 HK4 ⊢
            clear h0 h1 h3 h4 f4 k0 k1
            have hb9 := HC3.out.1
            have x1 := cellS80_1 hb9
            have x4 := cellS80_4 hb9
            clear hb9
            by_cases hbw : b ≤ wn
            · have hbw1 : decide (b ≤ wn) = true := decide_eq_true hbw
              have ES := Aside0.mk (step_jam ⟨d, b, told, since, wrong, v0, f0, jo, jn⟩ false v true sn wn HSN.out HWN.out hbw)
              clear hbw
              go_quiet (fail)
              go_wp2_with fail
              with_reducible refine (set_c g ⟨d, b, false, sn, wn, v, true, jo, jn⟩ false true w0 _ ?s1 ?s2).mono ?_
              case s1 => exact IsS80.drewN HC3.out _
              case s2 => exact pw_below_drewN HB4.out _
              rintro e w9 ⟨rfl, hc9, hb9, hk9⟩
              have C9 := Aside0.mk hc9
              have B9 := Aside0.mk hb9
              have K9 := Aside0.mk hk9
              clear hc9 hb9 hk9
              go_wp2_with fail
              go_end0
              exact ⟨rfl, by rw [ES.out]; exact C9.out, B9.out, (keep_drewN HK4.out _).trans K9.out (.inl rfl)⟩
            · have hbw1 : decide (b ≤ wn) = false := decide_eq_false hbw
              have ES := Aside0.mk (step_not ⟨d, b, told, since, wrong, v0, f0, jo, jn⟩ false v true sn wn HSN.out HWN.out hbw)
              clear hbw
              go_quiet (fail)
              go_wp2_with fail
              go_end0
              exact ⟨rfl, by rw [ES.out]; exact IsS80.drewN HC3.out _, pw_below_drewN HB4.out _, keep_drewN HK4.out _⟩
          · have hd1 : decide (d ≤ sn) = false := decide_eq_false (fun hd => hA ⟨by simp [HV.out], hd⟩)
            go_wp2
            go_quiet (fail)
            go_wp2
            obtain ⟨HC3, HB4, HK4⟩ := key nq (0) EW.out
            generalize (W.drewN nq).setCell ⟨g, 4, none⟩ (.int .i64 (0)) = W' at HC3 HB4 HK4 ⊢
            clear h0 h1 h3 h4 f4 k0 k1
            have hb9 := HC3.out.1
            have x1 := cellS80_1 hb9
            have x4 := cellS80_4 hb9
            clear hb9
            by_cases hbw : b ≤ wn
            · have hbw1 : decide (b ≤ wn) = true := decide_eq_true hbw
              have ES := Aside0.mk (step_jam ⟨d, b, told, since, wrong, v0, f0, jo, jn⟩ true v true sn wn HSN.out HWN.out hbw)
              clear hbw
              go_quiet (fail)
              go_wp2_with fail
              with_reducible refine (set_c g ⟨d, b, true, sn, wn, v, true, jo, jn⟩ true false w0 _ ?s1 ?s2).mono ?_
              case s1 => exact IsS80.drewN HC3.out _
              case s2 => exact pw_below_drewN HB4.out _
              rintro e w9 ⟨rfl, hc9, hb9, hk9⟩
              have C9 := Aside0.mk hc9
              have B9 := Aside0.mk hb9
              have K9 := Aside0.mk hk9
              clear hc9 hb9 hk9
              go_wp2_with fail
              go_end0
              exact ⟨rfl, by rw [ES.out]; exact C9.out, B9.out, (keep_drewN HK4.out _).trans K9.out (.inl rfl)⟩
            · have hbw1 : decide (b ≤ wn) = false := decide_eq_false hbw
              have ES := Aside0.mk (step_not ⟨d, b, told, since, wrong, v0, f0, jo, jn⟩ true v true sn wn HSN.out HWN.out hbw)
              clear hbw
              go_quiet (fail)
              go_wp2_with fail
              go_end0
              exact ⟨rfl, by rw [ES.out]; exact IsS80.drewN HC3.out _, pw_below_drewN HB4.out _, keep_drewN HK4.out _⟩
end Go.Proofs.Ytbamnfladjkkcaa.Con
