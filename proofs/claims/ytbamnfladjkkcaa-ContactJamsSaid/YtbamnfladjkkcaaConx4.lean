/- What single functions of the program come to, each with the proof that its Go text does so; turned to this claim by a program of this session. -/
import Derived.Test.YtbamnfladjkkcaaConx0
import Derived.Test.YtbamnfladjkkcaaConx1
import Derived.Test.YtbamnfladjkkcaaConx2
namespace Go.Proofs.Ytbamnfladjkkcaa.Con
open Go.RowKit Go.Proofs.YtbamnfladjkkcaaW.PrintWords Go.Proofs.YtbamnfladjkkcaaW.PrintLast Go.Proofs.YtbamnfladjkkcaaW.PrintMore
attribute [local go_sem] max2_int min2_int max_two min_two max_three min_three max_four min_four   -- for this text's walks alone
set_option linter.unusedVariables false
set_option linter.unusedSimpArgs false

/-! ### contact_Contact_Jam: function 22 -/
def contact_Contact_Jam.f (s0_0 : Int) (s0_1 : Int) (s0_2 : Bool) (s0_3 : Int) (s0_4 : Int) (s0_5 : Int) (s0_6 : Bool) (s0_7 : Bool) (s0_8 : Bool) : Option (Bool × Bool × Int × Int × Bool × Int × Int × Int × Bool × Bool × Bool) := some (s0_7, s0_8, s0_0, s0_1, s0_2, s0_3, s0_4, s0_5, s0_6, s0_7, s0_8)
set_option maxHeartbeats 8000000 in
set_option maxRecDepth 100000 in
theorem contact_Contact_Jam.calls (g : Nat) (s0_0 : Int) (s0_1 : Int) (s0_2 : Bool) (s0_3 : Int) (s0_4 : Int) (s0_5 : Int) (s0_6 : Bool) (s0_7 : Bool) (s0_8 : Bool) (r1 : Bool) (r2 : Bool) (r3 : Int) (r4 : Int) (r5 : Bool) (r6 : Int) (r7 : Int) (r8 : Int) (r9 : Bool) (r10 : Bool) (r11 : Bool) (w0 w : World) (hI : IsS80 w0 w g s0_0 s0_1 s0_2 s0_3 s0_4 s0_5 s0_6 s0_7 s0_8) (hB : Below w0.heap.size w0 w) (h : contact_Contact_Jam.f s0_0 s0_1 s0_2 s0_3 s0_4 s0_5 s0_6 s0_7 s0_8 = some (r1, r2, r3, r4, r5, r6, r7, r8, r9, r10, r11)) :
    Calls Try.prog 22 #[.pointer (some ⟨g, 0, none⟩)] w fun e w' => e = .returned (.tuple #[.bool r1, .bool r2]) ∧ IsS80 w0 w' g r3 r4 r5 r6 r7 r8 r9 r10 r11 ∧ Below w0.heap.size w0 w' ∧ KeepBut w w' g none := by
  have HI0 := Aside0.mk hI
  have HK := Aside0.mk (KeepBut.refl w g none)
  have HL := Aside0.mk hB.size
  clear hI
  have HW0 := Aside0.mk hB.size
  have HB := Aside0.mk hB
  clear hB
  have H : (some (s0_7, s0_8, s0_0, s0_1, s0_2, s0_3, s0_4, s0_5, s0_6, s0_7, s0_8)) = some (r1, r2, r3, r4, r5, r6, r7, r8, r9, r10, r11) := h
  clear h
  simp only [Option.some.injEq, Prod.mk.injEq] at H
  obtain ⟨rfl, rfl, rfl, rfl, rfl, rfl, rfl, rfl, rfl, rfl, rfl⟩ := H
  obtain ⟨HGz2, hgz2⟩ := HI0.out
  have hcz2_0 := cellS80_0 HGz2
  have hcz2_1 := cellS80_1 HGz2
  have hcz2_2 := cellS80_2 HGz2
  have hcz2_3 := cellS80_3 HGz2
  have hcz2_4 := cellS80_4 HGz2
  have hcz2_5 := cellS80_5 HGz2
  have hcz2_6 := cellS80_6 HGz2
  have hcz2_7 := cellS80_7 HGz2
  have hcz2_8 := cellS80_8 HGz2
  have hfz2_0 := blk_frozen HGz2 0
  have hfz2_1 := blk_frozen HGz2 1
  have hfz2_2 := blk_frozen HGz2 2
  have hfz2_3 := blk_frozen HGz2 3
  have hfz2_4 := blk_frozen HGz2 4
  have hfz2_5 := blk_frozen HGz2 5
  have hfz2_6 := blk_frozen HGz2 6
  have hfz2_7 := blk_frozen HGz2 7
  have hfz2_8 := blk_frozen HGz2 8
  clear HGz2 hgz2
  go_enter Try.func22, Try.ntmps22
  go_wp2
  repeat (go_quiet (fail); try go_wp2)
  go_ret2
  exact ⟨by first | rfl | (simp [errW_none, errW_some] <;> rfl) | (simp [*, errW_none, errW_some] <;> rfl), by repeat (first | (with_reducible first | exact HI0.out | apply IsS80.alloc | apply IsS80.drewN | apply IsS80.drew | apply IsS80.set_0 | apply IsS80.set_1 | apply IsS80.set_2 | apply IsS80.set_3 | apply IsS80.set_4 | apply IsS80.set_5 | apply IsS80.set_6 | apply IsS80.set_7 | apply IsS80.set_8) | exact HI0.out), by repeat (first | (with_reducible first | exact HB.out | apply below_alloc | apply pw_below_drewN | apply below_drew1 | refine below_set ?_ (IsS80.ge HI0.out)) | exact HB.out), by repeat (first | (with_reducible first | exact HK.out | apply KeepBut.set_ | apply keep_drewN | apply keep_drew | apply keep_alloc) | exact HK.out)⟩

/-! ### dynamoref15_Contact_Open: function 24 -/
def dynamoref15_Contact_Open.f (s0_0 : Int) (s0_1 : Int) (s0_2 : Bool) (s0_3 : Int) (s0_4 : Int) (s0_5 : Bool) (s0_6 : Bool) (s0_7 : Bool) (s0_8 : Bool) (s0_9 : Bool) : Option (Bool × Int × Int × Bool × Int × Int × Bool × Bool × Bool × Bool × Bool) := if s0_5 = true then (if s0_2 = true then (some (false, s0_0, s0_1, s0_2, s0_3, s0_4, s0_5, s0_6, s0_7, s0_8, s0_9)) else (if s0_3 ≥ s0_0 then (if s0_6 = true then (some (!s0_7, s0_0, s0_1, s0_2, s0_3, s0_4, s0_5, s0_6, s0_7, s0_8, s0_9)) else (some (false, s0_0, s0_1, s0_2, s0_3, s0_4, s0_5, s0_6, s0_7, s0_8, s0_9))) else (some (false, s0_0, s0_1, s0_2, s0_3, s0_4, s0_5, s0_6, s0_7, s0_8, s0_9)))) else (some (false, s0_0, s0_1, s0_2, s0_3, s0_4, s0_5, s0_6, s0_7, s0_8, s0_9))
set_option maxHeartbeats 8000000 in
set_option maxRecDepth 100000 in
theorem dynamoref15_Contact_Open.calls (g : Nat) (s0_0 : Int) (s0_1 : Int) (s0_2 : Bool) (s0_3 : Int) (s0_4 : Int) (s0_5 : Bool) (s0_6 : Bool) (s0_7 : Bool) (s0_8 : Bool) (s0_9 : Bool) (r1 : Bool) (r2 : Int) (r3 : Int) (r4 : Bool) (r5 : Int) (r6 : Int) (r7 : Bool) (r8 : Bool) (r9 : Bool) (r10 : Bool) (r11 : Bool) (w0 w : World) (hI : IsS31 w0 w g s0_0 s0_1 s0_2 s0_3 s0_4 s0_5 s0_6 s0_7 s0_8 s0_9) (hB : Below w0.heap.size w0 w) (h : dynamoref15_Contact_Open.f s0_0 s0_1 s0_2 s0_3 s0_4 s0_5 s0_6 s0_7 s0_8 s0_9 = some (r1, r2, r3, r4, r5, r6, r7, r8, r9, r10, r11)) :
    Calls Try.prog 24 #[.pointer (some ⟨g, 0, none⟩)] w fun e w' => e = .returned (.bool r1) ∧ IsS31 w0 w' g r2 r3 r4 r5 r6 r7 r8 r9 r10 r11 ∧ Below w0.heap.size w0 w' ∧ KeepBut w w' g none := by
  have HI0 := Aside0.mk hI
  have HK := Aside0.mk (KeepBut.refl w g none)
  have HL := Aside0.mk hB.size
  clear hI
  have HW0 := Aside0.mk hB.size
  have HB := Aside0.mk hB
  clear hB
  have H : (if s0_5 = true then (if s0_2 = true then (some (false, s0_0, s0_1, s0_2, s0_3, s0_4, s0_5, s0_6, s0_7, s0_8, s0_9)) else (if s0_3 ≥ s0_0 then (if s0_6 = true then (some (!s0_7, s0_0, s0_1, s0_2, s0_3, s0_4, s0_5, s0_6, s0_7, s0_8, s0_9)) else (some (false, s0_0, s0_1, s0_2, s0_3, s0_4, s0_5, s0_6, s0_7, s0_8, s0_9))) else (some (false, s0_0, s0_1, s0_2, s0_3, s0_4, s0_5, s0_6, s0_7, s0_8, s0_9)))) else (some (false, s0_0, s0_1, s0_2, s0_3, s0_4, s0_5, s0_6, s0_7, s0_8, s0_9))) = some (r1, r2, r3, r4, r5, r6, r7, r8, r9, r10, r11) := h
  clear h
  by_cases c2 : s0_5 = true
  · subst c2
    have H1 : (if s0_2 = true then (some (false, s0_0, s0_1, s0_2, s0_3, s0_4, true, s0_6, s0_7, s0_8, s0_9)) else (if s0_3 ≥ s0_0 then (if s0_6 = true then (some (!s0_7, s0_0, s0_1, s0_2, s0_3, s0_4, true, s0_6, s0_7, s0_8, s0_9)) else (some (false, s0_0, s0_1, s0_2, s0_3, s0_4, true, s0_6, s0_7, s0_8, s0_9))) else (some (false, s0_0, s0_1, s0_2, s0_3, s0_4, true, s0_6, s0_7, s0_8, s0_9)))) = some (r1, r2, r3, r4, r5, r6, r7, r8, r9, r10, r11) := by rw [if_pos rfl] at H; exact H
    clear H
    have H := H1
    clear H1
    by_cases c3 : s0_2 = true
    · subst c3
      have H1 : (some (false, s0_0, s0_1, true, s0_3, s0_4, true, s0_6, s0_7, s0_8, s0_9)) = some (r1, r2, r3, r4, r5, r6, r7, r8, r9, r10, r11) := by rw [if_pos rfl] at H; exact H
      clear H
      have H := H1
      clear H1
      simp only [Option.some.injEq, Prod.mk.injEq] at H
      obtain ⟨rfl, rfl, rfl, rfl, rfl, rfl, rfl, rfl, rfl, rfl, rfl⟩ := H
      obtain ⟨HGz4, hgz4⟩ := HI0.out
      have hcz4_0 := cellS31_0 HGz4
      have hcz4_1 := cellS31_1 HGz4
      have hcz4_2 := cellS31_2 HGz4
      have hcz4_3 := cellS31_3 HGz4
      have hcz4_4 := cellS31_4 HGz4
      have hcz4_5 := cellS31_5 HGz4
      have hcz4_6 := cellS31_6 HGz4
      have hcz4_7 := cellS31_7 HGz4
      have hcz4_8 := cellS31_8 HGz4
      have hcz4_9 := cellS31_9 HGz4
      have hfz4_0 := blk_frozen HGz4 0
      have hfz4_1 := blk_frozen HGz4 1
      have hfz4_2 := blk_frozen HGz4 2
      have hfz4_3 := blk_frozen HGz4 3
      have hfz4_4 := blk_frozen HGz4 4
      have hfz4_5 := blk_frozen HGz4 5
      have hfz4_6 := blk_frozen HGz4 6
      have hfz4_7 := blk_frozen HGz4 7
      have hfz4_8 := blk_frozen HGz4 8
      have hfz4_9 := blk_frozen HGz4 9
      clear HGz4 hgz4
      go_enter Try.func24, Try.ntmps24
      go_wp2
      repeat (go_quiet (fail); try go_wp2)
      go_ret
      exact ⟨by first | rfl | (simp [errW_none, errW_some] <;> rfl) | (simp [*, errW_none, errW_some] <;> rfl), by repeat (first | (with_reducible first | exact HI0.out | apply IsS31.alloc | apply IsS31.drewN | apply IsS31.drew | apply IsS31.set_0 | apply IsS31.set_1 | apply IsS31.set_2 | apply IsS31.set_3 | apply IsS31.set_4 | apply IsS31.set_5 | apply IsS31.set_6 | apply IsS31.set_7 | apply IsS31.set_8 | apply IsS31.set_9) | exact HI0.out), by repeat (first | (with_reducible first | exact HB.out | apply below_alloc | apply pw_below_drewN | apply below_drew1 | refine below_set ?_ (IsS31.ge HI0.out)) | exact HB.out), by repeat (first | (with_reducible first | exact HK.out | apply KeepBut.set_ | apply keep_drewN | apply keep_drew | apply keep_alloc) | exact HK.out)⟩
    · replace c3 := Bool.eq_false_iff.mpr c3
      subst c3
      have H1 : (if s0_3 ≥ s0_0 then (if s0_6 = true then (some (!s0_7, s0_0, s0_1, false, s0_3, s0_4, true, s0_6, s0_7, s0_8, s0_9)) else (some (false, s0_0, s0_1, false, s0_3, s0_4, true, s0_6, s0_7, s0_8, s0_9))) else (some (false, s0_0, s0_1, false, s0_3, s0_4, true, s0_6, s0_7, s0_8, s0_9))) = some (r1, r2, r3, r4, r5, r6, r7, r8, r9, r10, r11) := by rw [if_neg (show ¬ (false = true) by decide)] at H; exact H
      clear H
      have H := H1
      clear H1
      by_cases c5 : s0_3 ≥ s0_0
      · rw [if_pos c5] at H
        have c5b0 : decide (s0_0 ≤ s0_3) = true := decide_eq_true c5
        clear c5
        by_cases c6 : s0_6 = true
        · subst c6
          have H1 : (some (!s0_7, s0_0, s0_1, false, s0_3, s0_4, true, true, s0_7, s0_8, s0_9)) = some (r1, r2, r3, r4, r5, r6, r7, r8, r9, r10, r11) := by rw [if_pos rfl] at H; exact H
          clear H
          have H := H1
          clear H1
          simp only [Option.some.injEq, Prod.mk.injEq] at H
          obtain ⟨rfl, rfl, rfl, rfl, rfl, rfl, rfl, rfl, rfl, rfl, rfl⟩ := H
          obtain ⟨HGz7, hgz7⟩ := HI0.out
          have hcz7_0 := cellS31_0 HGz7
          have hcz7_1 := cellS31_1 HGz7
          have hcz7_2 := cellS31_2 HGz7
          have hcz7_3 := cellS31_3 HGz7
          have hcz7_4 := cellS31_4 HGz7
          have hcz7_5 := cellS31_5 HGz7
          have hcz7_6 := cellS31_6 HGz7
          have hcz7_7 := cellS31_7 HGz7
          have hcz7_8 := cellS31_8 HGz7
          have hcz7_9 := cellS31_9 HGz7
          have hfz7_0 := blk_frozen HGz7 0
          have hfz7_1 := blk_frozen HGz7 1
          have hfz7_2 := blk_frozen HGz7 2
          have hfz7_3 := blk_frozen HGz7 3
          have hfz7_4 := blk_frozen HGz7 4
          have hfz7_5 := blk_frozen HGz7 5
          have hfz7_6 := blk_frozen HGz7 6
          have hfz7_7 := blk_frozen HGz7 7
          have hfz7_8 := blk_frozen HGz7 8
          have hfz7_9 := blk_frozen HGz7 9
          clear HGz7 hgz7
          go_enter Try.func24, Try.ntmps24
          go_wp2
          repeat (go_quiet (fail); try go_wp2)
          go_ret
          exact ⟨by first | rfl | (simp [errW_none, errW_some] <;> rfl) | (simp [*, errW_none, errW_some] <;> rfl), by repeat (first | (with_reducible first | exact HI0.out | apply IsS31.alloc | apply IsS31.drewN | apply IsS31.drew | apply IsS31.set_0 | apply IsS31.set_1 | apply IsS31.set_2 | apply IsS31.set_3 | apply IsS31.set_4 | apply IsS31.set_5 | apply IsS31.set_6 | apply IsS31.set_7 | apply IsS31.set_8 | apply IsS31.set_9) | exact HI0.out), by repeat (first | (with_reducible first | exact HB.out | apply below_alloc | apply pw_below_drewN | apply below_drew1 | refine below_set ?_ (IsS31.ge HI0.out)) | exact HB.out), by repeat (first | (with_reducible first | exact HK.out | apply KeepBut.set_ | apply keep_drewN | apply keep_drew | apply keep_alloc) | exact HK.out)⟩
        · replace c6 := Bool.eq_false_iff.mpr c6
          subst c6
          have H1 : (some (false, s0_0, s0_1, false, s0_3, s0_4, true, false, s0_7, s0_8, s0_9)) = some (r1, r2, r3, r4, r5, r6, r7, r8, r9, r10, r11) := by rw [if_neg (show ¬ (false = true) by decide)] at H; exact H
          clear H
          have H := H1
          clear H1
          simp only [Option.some.injEq, Prod.mk.injEq] at H
          obtain ⟨rfl, rfl, rfl, rfl, rfl, rfl, rfl, rfl, rfl, rfl, rfl⟩ := H
          obtain ⟨HGz8, hgz8⟩ := HI0.out
          have hcz8_0 := cellS31_0 HGz8
          have hcz8_1 := cellS31_1 HGz8
          have hcz8_2 := cellS31_2 HGz8
          have hcz8_3 := cellS31_3 HGz8
          have hcz8_4 := cellS31_4 HGz8
          have hcz8_5 := cellS31_5 HGz8
          have hcz8_6 := cellS31_6 HGz8
          have hcz8_7 := cellS31_7 HGz8
          have hcz8_8 := cellS31_8 HGz8
          have hcz8_9 := cellS31_9 HGz8
          have hfz8_0 := blk_frozen HGz8 0
          have hfz8_1 := blk_frozen HGz8 1
          have hfz8_2 := blk_frozen HGz8 2
          have hfz8_3 := blk_frozen HGz8 3
          have hfz8_4 := blk_frozen HGz8 4
          have hfz8_5 := blk_frozen HGz8 5
          have hfz8_6 := blk_frozen HGz8 6
          have hfz8_7 := blk_frozen HGz8 7
          have hfz8_8 := blk_frozen HGz8 8
          have hfz8_9 := blk_frozen HGz8 9
          clear HGz8 hgz8
          go_enter Try.func24, Try.ntmps24
          go_wp2
          repeat (go_quiet (fail); try go_wp2)
          go_ret
          exact ⟨by first | rfl | (simp [errW_none, errW_some] <;> rfl) | (simp [*, errW_none, errW_some] <;> rfl), by repeat (first | (with_reducible first | exact HI0.out | apply IsS31.alloc | apply IsS31.drewN | apply IsS31.drew | apply IsS31.set_0 | apply IsS31.set_1 | apply IsS31.set_2 | apply IsS31.set_3 | apply IsS31.set_4 | apply IsS31.set_5 | apply IsS31.set_6 | apply IsS31.set_7 | apply IsS31.set_8 | apply IsS31.set_9) | exact HI0.out), by repeat (first | (with_reducible first | exact HB.out | apply below_alloc | apply pw_below_drewN | apply below_drew1 | refine below_set ?_ (IsS31.ge HI0.out)) | exact HB.out), by repeat (first | (with_reducible first | exact HK.out | apply KeepBut.set_ | apply keep_drewN | apply keep_drew | apply keep_alloc) | exact HK.out)⟩
      · rw [if_neg c5] at H
        have c5b0 : decide (s0_0 ≤ s0_3) = false := decide_eq_false c5
        clear c5
        simp only [Option.some.injEq, Prod.mk.injEq] at H
        obtain ⟨rfl, rfl, rfl, rfl, rfl, rfl, rfl, rfl, rfl, rfl, rfl⟩ := H
        obtain ⟨HGz9, hgz9⟩ := HI0.out
        have hcz9_0 := cellS31_0 HGz9
        have hcz9_1 := cellS31_1 HGz9
        have hcz9_2 := cellS31_2 HGz9
        have hcz9_3 := cellS31_3 HGz9
        have hcz9_4 := cellS31_4 HGz9
        have hcz9_5 := cellS31_5 HGz9
        have hcz9_6 := cellS31_6 HGz9
        have hcz9_7 := cellS31_7 HGz9
        have hcz9_8 := cellS31_8 HGz9
        have hcz9_9 := cellS31_9 HGz9
        have hfz9_0 := blk_frozen HGz9 0
        have hfz9_1 := blk_frozen HGz9 1
        have hfz9_2 := blk_frozen HGz9 2
        have hfz9_3 := blk_frozen HGz9 3
        have hfz9_4 := blk_frozen HGz9 4
        have hfz9_5 := blk_frozen HGz9 5
        have hfz9_6 := blk_frozen HGz9 6
        have hfz9_7 := blk_frozen HGz9 7
        have hfz9_8 := blk_frozen HGz9 8
        have hfz9_9 := blk_frozen HGz9 9
        clear HGz9 hgz9
        go_enter Try.func24, Try.ntmps24
        go_wp2
        repeat (go_quiet (fail); try go_wp2)
        go_ret
        exact ⟨by first | rfl | (simp [errW_none, errW_some] <;> rfl) | (simp [*, errW_none, errW_some] <;> rfl), by repeat (first | (with_reducible first | exact HI0.out | apply IsS31.alloc | apply IsS31.drewN | apply IsS31.drew | apply IsS31.set_0 | apply IsS31.set_1 | apply IsS31.set_2 | apply IsS31.set_3 | apply IsS31.set_4 | apply IsS31.set_5 | apply IsS31.set_6 | apply IsS31.set_7 | apply IsS31.set_8 | apply IsS31.set_9) | exact HI0.out), by repeat (first | (with_reducible first | exact HB.out | apply below_alloc | apply pw_below_drewN | apply below_drew1 | refine below_set ?_ (IsS31.ge HI0.out)) | exact HB.out), by repeat (first | (with_reducible first | exact HK.out | apply KeepBut.set_ | apply keep_drewN | apply keep_drew | apply keep_alloc) | exact HK.out)⟩
  · replace c2 := Bool.eq_false_iff.mpr c2
    subst c2
    have H1 : (some (false, s0_0, s0_1, s0_2, s0_3, s0_4, false, s0_6, s0_7, s0_8, s0_9)) = some (r1, r2, r3, r4, r5, r6, r7, r8, r9, r10, r11) := by rw [if_neg (show ¬ (false = true) by decide)] at H; exact H
    clear H
    have H := H1
    clear H1
    simp only [Option.some.injEq, Prod.mk.injEq] at H
    obtain ⟨rfl, rfl, rfl, rfl, rfl, rfl, rfl, rfl, rfl, rfl, rfl⟩ := H
    obtain ⟨HGz10, hgz10⟩ := HI0.out
    have hcz10_0 := cellS31_0 HGz10
    have hcz10_1 := cellS31_1 HGz10
    have hcz10_2 := cellS31_2 HGz10
    have hcz10_3 := cellS31_3 HGz10
    have hcz10_4 := cellS31_4 HGz10
    have hcz10_5 := cellS31_5 HGz10
    have hcz10_6 := cellS31_6 HGz10
    have hcz10_7 := cellS31_7 HGz10
    have hcz10_8 := cellS31_8 HGz10
    have hcz10_9 := cellS31_9 HGz10
    have hfz10_0 := blk_frozen HGz10 0
    have hfz10_1 := blk_frozen HGz10 1
    have hfz10_2 := blk_frozen HGz10 2
    have hfz10_3 := blk_frozen HGz10 3
    have hfz10_4 := blk_frozen HGz10 4
    have hfz10_5 := blk_frozen HGz10 5
    have hfz10_6 := blk_frozen HGz10 6
    have hfz10_7 := blk_frozen HGz10 7
    have hfz10_8 := blk_frozen HGz10 8
    have hfz10_9 := blk_frozen HGz10 9
    clear HGz10 hgz10
    go_enter Try.func24, Try.ntmps24
    go_wp2
    repeat (go_quiet (fail); try go_wp2)
    go_ret
    exact ⟨by first | rfl | (simp [errW_none, errW_some] <;> rfl) | (simp [*, errW_none, errW_some] <;> rfl), by repeat (first | (with_reducible first | exact HI0.out | apply IsS31.alloc | apply IsS31.drewN | apply IsS31.drew | apply IsS31.set_0 | apply IsS31.set_1 | apply IsS31.set_2 | apply IsS31.set_3 | apply IsS31.set_4 | apply IsS31.set_5 | apply IsS31.set_6 | apply IsS31.set_7 | apply IsS31.set_8 | apply IsS31.set_9) | exact HI0.out), by repeat (first | (with_reducible first | exact HB.out | apply below_alloc | apply pw_below_drewN | apply below_drew1 | refine below_set ?_ (IsS31.ge HI0.out)) | exact HB.out), by repeat (first | (with_reducible first | exact HK.out | apply KeepBut.set_ | apply keep_drewN | apply keep_drew | apply keep_alloc) | exact HK.out)⟩

end Go.Proofs.Ytbamnfladjkkcaa.Con
