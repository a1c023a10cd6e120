/- One that does not follow is told to be jammed behind its time and so many looks, for good: the walk through the law's Go text, for all arguments. -/
import Derived.Test.YtbamnfladjkkcaaConJams
import Derived.Test.YtbamnfladjkkcaaRowWords
namespace Go.Proofs.Ytbamnfladjkkcaa.Con
open Go Go.RowKit Go.Proofs.YtbamnfladjkkcaaW.PrintWords Go.Proofs.YtbamnfladjkkcaaW.PrintLast Go.Proofs.YtbamnfladjkkcaaW.PrintMore
set_option linter.unusedVariables false
set_option linter.unusedSimpArgs false
set_option maxHeartbeats 16000000 in
set_option maxRecDepth 100000 in
theorem jams_t (a b gap : Int) (w : World) (_ : (Lit.int .i64 a).wf = true) (_ : (Lit.int .i64 b).wf = true) (_ : (Lit.int .i64 gap).wf = true) :
    Calls Try.prog 5 #[.int .i64 a, .int .i64 b, .bool true, .int .i64 gap] w fun e w' => e = .returned (.bool true) ∧ Below w.heap.size w w' := by
  have HB := Aside0.mk (Below.refl w.heap.size w)
  have hu := Try.underlying36
  go_enter Try.func5, Try.ntmps5
  go_wp2_with fail
  refine (first_c _).mono ?_
  rintro e w1 ⟨rfl, hb⟩
  have B1 := Aside0.mk hb
  clear hb
  go_wp2_with fail
  obtain ⟨i, hi0, hi1, hcc⟩ := number_c a 20 w1 (by decide) (by decide)
  refine hcc.mono ?_
  clear hcc
  rintro e w1' ⟨rfl, rfl⟩
  go_wp2_with fail
  obtain ⟨m, hm0, hm1, hcc⟩ := number_c b 20 w1 (by decide) (by decide)
  refine hcc.mono ?_
  clear hcc
  rintro e w1' ⟨rfl, rfl⟩
  go_wp2_with fail
  obtain ⟨j, hj0, hj1, hcc⟩ := number_c gap 3 w1 (by decide) (by decide)
  refine hcc.mono ?_
  clear hcc
  rintro e w1' ⟨rfl, rfl⟩
  have HG := Aside0.mk (show j + 1 = 1 ∨ j + 1 = 2 ∨ j + 1 = 3 by omega)
  go_wp2_with fail
  with_reducible refine (newk_c (i + 1) (m + 1) w _ B1.out).mono ?_
  rintro e w2 ⟨g, rfl, hcc, hb, _, _⟩
  have C2 := Aside0.mk hcc
  have B2 := Aside0.mk hb
  clear hcc hb B1
  have F2 := Aside0.mk (JamAt.new (i + 1) (m + 1) (j + 1) true HG.out (by omega) (by omega) (by omega) (by omega))
  generalize CS.new (i + 1) (m + 1) = c2 at C2 F2
  go_wp2_with fail
  have A2 : (w2.alloc (.cells #[.int .i64 0, .bool false] 36)).heap[w2.heap.size]? = some (.cells #[.int .i64 0, .bool false] 36 (0, 0)) := by simpa using heap_alloc_new w2 _
  have B3 : Aside0 (Below w.heap.size w (w2.alloc (.cells #[.int .i64 0, .bool false] 36))) := ⟨below_step B2.out (below_alloc (Below.refl _ _) _)⟩
  have C3 : Aside0 (Con w (w2.alloc (.cells #[.int .i64 0, .bool false] 36)) g c2) := ⟨IsS80.alloc C2.out _⟩
  have S3 : Aside0 ((w2.alloc (.cells #[.int .i64 0, .bool false] 36)).heap[w2.heap.size]? = some (.cells #[.int .i64 0, .bool false] 36 (0, 0))) := ⟨A2⟩
  have G3 : Aside0 (w2.heap.size ≠ g ∧ w.heap.size ≤ w2.heap.size) := ⟨⟨Nat.ne_of_gt C2.out.lt, B2.out.size⟩⟩
  clear A2
  generalize w2.alloc (.cells #[.int .i64 0, .bool false] 36) = w3 at B3 C3 S3 ⊢
  generalize w2.heap.size = h at S3 G3 ⊢
  go_loopw [12, 13, 14, 15] (fun n v _ _ wr => ∃ (k : Nat) (c : CS) (fr : Bool), k ≤ 200 ∧ v = .int .i64 k ∧ n = .int .i64 0 ∧ Aside0 (JamAt (i + 1) (m + 1) (j + 1) true k c) ∧ Aside0 (Con w wr g c) ∧ Aside0 (wr.heap[h]? = some (.cells #[.int .i64 0, .bool fr] 36 (0, 0))) ∧ Aside0 (Below w.heap.size w wr)) (fun _ v _ _ _ => 200 - (intOf v).toNat)
  case atStart => exact ⟨0, c2, false, by omega, rfl, rfl, F2, C3, S3, B3⟩
  case round =>
    obtain ⟨k, cc, fr, hk, rfl, rfl, HF, HC, S4, HBr⟩ := hrel
    by_cases hlt : k < 200
    · have hlt1 : decide ((k : Int) < 200) = true := decide_eq_true (by omega)
      have hg0 : (j + 1 == 0) = false := beq_eq_false_iff_ne.mpr (by omega)
      have y0 : wr.cell? ⟨h, 0, none⟩ = some (.int .i64 0) := (blk_cell S4.out 0).trans rfl
      have y1 : wr.cell? ⟨h, 1, none⟩ = some (.bool fr) := (blk_cell S4.out 1).trans rfl
      have y2 : wr.frozen? ⟨h, 1, none⟩ = false := blk_frozen S4.out 1
      obtain ⟨fx, hfx⟩ : ∃ fx : Bool, fx = ((k : Int) % (j + 1) == 0) := ⟨_, rfl⟩
      have hfx2 : Aside0 (fx = decide ((k : Int) % (j + 1) = 0)) := ⟨hfx⟩
      have hfx3 := hfx.symm
      clear hfx
      have S5 : Aside0 ((wr.setCell ⟨h, 1, none⟩ (.bool fx)).heap[h]? = some (.cells #[.int .i64 0, .bool fx] 36 (0, 0))) := ⟨blk_set S4.out 1 (.bool fx)⟩
      have z0 : (wr.setCell ⟨h, 1, none⟩ (.bool fx)).cell? ⟨h, 0, none⟩ = some (.int .i64 0) := (blk_cell S5.out 0).trans rfl
      have z1 : (wr.setCell ⟨h, 1, none⟩ (.bool fx)).cell? ⟨h, 1, none⟩ = some (.bool fx) := (blk_cell S5.out 1).trans rfl
      have C5 : Aside0 (Con w (wr.setCell ⟨h, 1, none⟩ (.bool fx)) g cc) := ⟨IsS80.far HC.out G3.out.1.symm _⟩
      have B5 : Aside0 (Below w.heap.size w (wr.setCell ⟨h, 1, none⟩ (.bool fx))) := ⟨below_set HBr.out G3.out.2⟩
      go_wp2_with fail
      with_reducible refine (stepk_c g cc true 0 fx w _ C5.out B5.out HF.out.ok).mono ?_
      rintro e w4 ⟨rfl, hc4, hb4, hk4⟩
      have C6 := Aside0.mk hc4
      have B6 := Aside0.mk hb4
      have S6 := Aside0.mk (hk4.blk S5.out G3.out.1 (by simp))
      clear hc4 hb4 hk4 C5 B5 S5 y0 y1 y2 z0 z1
      by_cases hn : cntF (j + 1) (i + 1 + s0 true) ((k : Int) + 1) < m + 1
      · have F6 : Aside0 (JamAt (i + 1) (m + 1) (j + 1) true (k + 1) (cc.step true 0 fx)) := ⟨HF.out.next HG.out (by omega) (by omega) (by omega) fx hfx2.out hn⟩
        clear hn hfx2 hfx3 S4 HC HBr
        generalize cc.step true 0 fx = c6 at C6 F6
        go_wp2_with fail
        with_reducible refine (jam_c g c6 w _ C6.out B6.out).mono ?_
        rintro e w8 ⟨rfl, hc4, hb4, hk4⟩
        rw [F6.out.jo, F6.out.jn]
        have C8 := Aside0.mk hc4
        have B8 := Aside0.mk hb4
        have S8 := Aside0.mk (hk4.blk S6.out G3.out.1 (by simp))
        clear hc4 hb4 hk4 C6 B6 S6
        go_wp2_with fail
        go_roundw
        case rel => exact ⟨k + 1, c6, fx, by omega, by go_num, rfl, F6, C8, S8, B8⟩
        case measure => simp [intOf]; omega
      · have F6 : Aside0 (JamDone (i + 1) (m + 1) true (cc.step true 0 fx)) := ⟨HF.out.done HG.out (by omega) (by omega) (by omega) fx hfx2.out hn⟩
        have hs0 : s0 true = 0 := rfl
        have hfound := cnt_found (j + 1) (i + 1 + s0 true) k (m + 1) HG.out (by rw [hs0]; omega) (by omega) (by omega) HF.out.lt (by omega)
        rw [hs0] at hfound
        clear hn hfx2 hfx3 S4 HC HBr hs0
        generalize cc.step true 0 fx = c6 at C6 F6
        have hJ : Aside0 (c6.jo = true ∧ c6.jn = false) := ⟨F6.out.jo, F6.out.jn⟩
        have HX : Aside0 ((k : Int) = firstF (j + 1) (i + 1 + 0) + (m + 1 - 1) * (j + 1)) := ⟨hfound⟩
        clear hfound
        go_wp2_with fail
        with_reducible refine (jam_c g c6 w _ C6.out B6.out).mono ?_
        rintro e w8 ⟨rfl, hc4, hb4, hk4⟩
        rw [hJ.out.1, hJ.out.2]
        have C8 := Aside0.mk hc4
        have B8 := Aside0.mk hb4
        have S8 := Aside0.mk (hk4.blk S6.out G3.out.1 (by simp))
        have x0 : w8.cell? ⟨h, 0, none⟩ = some (.int .i64 0) := (blk_cell S8.out 0).trans rfl
        have L1 : (c6.step false 1 true).jo = true := (F6.out.last (by omega) (by omega)).1
        have L2 : (c6.step false 1 true).jn = false := (F6.out.last (by omega) (by omega)).2
        have O6 := Aside0.mk F6.out.ok
        have HL := Aside0.mk (And.intro L1 L2)
        clear hc4 hb4 hk4 C6 B6 S6 L1 L2 F6 HF
        obtain rfl | rfl | rfl : j = 0 ∨ j = 1 ∨ j = 2 := by omega
        all_goals
          go_wp2_with fail
          with_reducible refine (stepk_c g c6 false 1 true w _ C8.out B8.out O6.out).mono ?_
          rintro e w9 ⟨rfl, hc4, hb4, hk4⟩
          have C9 := Aside0.mk hc4
          have B9 := Aside0.mk hb4
          clear hc4 hb4 hk4 C8 B8 S8
          go_wp2_with fail
          with_reducible refine (jam_c g _ w _ C9.out B9.out).mono ?_
          rintro e w10 ⟨rfl, hc4, hb4, hk4⟩
          rw [HL.out.1, HL.out.2]
          clear hc4 hk4 C9 B9
          have BB := Aside0.mk hb4
          clear hb4
          have H1 := HX.out
          unfold firstF at H1
          go_wp2_with fail
          go_ret
          exact ⟨rfl, BB.out⟩
    · obtain rfl : k = 200 := by omega
      exact absurd HF.out.lt (cnt_late (j + 1) _ _ HG.out (by unfold s0; split <;> omega) (by unfold s0; split <;> omega) (by omega))
set_option maxHeartbeats 16000000 in
set_option maxRecDepth 100000 in
theorem jams_f (a b gap : Int) (w : World) (_ : (Lit.int .i64 a).wf = true) (_ : (Lit.int .i64 b).wf = true) (_ : (Lit.int .i64 gap).wf = true) :
    Calls Try.prog 5 #[.int .i64 a, .int .i64 b, .bool false, .int .i64 gap] w fun e w' => e = .returned (.bool true) ∧ Below w.heap.size w w' := by
  have HB := Aside0.mk (Below.refl w.heap.size w)
  have hu := Try.underlying36
  go_enter Try.func5, Try.ntmps5
  go_wp2_with fail
  refine (first_c _).mono ?_
  rintro e w1 ⟨rfl, hb⟩
  have B1 := Aside0.mk hb
  clear hb
  go_wp2_with fail
  obtain ⟨i, hi0, hi1, hcc⟩ := number_c a 20 w1 (by decide) (by decide)
  refine hcc.mono ?_
  clear hcc
  rintro e w1' ⟨rfl, rfl⟩
  go_wp2_with fail
  obtain ⟨m, hm0, hm1, hcc⟩ := number_c b 20 w1 (by decide) (by decide)
  refine hcc.mono ?_
  clear hcc
  rintro e w1' ⟨rfl, rfl⟩
  go_wp2_with fail
  obtain ⟨j, hj0, hj1, hcc⟩ := number_c gap 3 w1 (by decide) (by decide)
  refine hcc.mono ?_
  clear hcc
  rintro e w1' ⟨rfl, rfl⟩
  have HG := Aside0.mk (show j + 1 = 1 ∨ j + 1 = 2 ∨ j + 1 = 3 by omega)
  go_wp2_with fail
  with_reducible refine (newk_c (i + 1) (m + 1) w _ B1.out).mono ?_
  rintro e w2 ⟨g, rfl, hcc, hb, _, _⟩
  have C2 := Aside0.mk hcc
  have B2 := Aside0.mk hb
  clear hcc hb B1
  have F2 := Aside0.mk (JamAt.new (i + 1) (m + 1) (j + 1) false HG.out (by omega) (by omega) (by omega) (by omega))
  generalize CS.new (i + 1) (m + 1) = c2 at C2 F2
  go_wp2_with fail
  have A2 : (w2.alloc (.cells #[.int .i64 1, .bool false] 36)).heap[w2.heap.size]? = some (.cells #[.int .i64 1, .bool false] 36 (0, 0)) := by simpa using heap_alloc_new w2 _
  have B3 : Aside0 (Below w.heap.size w (w2.alloc (.cells #[.int .i64 1, .bool false] 36))) := ⟨below_step B2.out (below_alloc (Below.refl _ _) _)⟩
  have C3 : Aside0 (Con w (w2.alloc (.cells #[.int .i64 1, .bool false] 36)) g c2) := ⟨IsS80.alloc C2.out _⟩
  have S3 : Aside0 ((w2.alloc (.cells #[.int .i64 1, .bool false] 36)).heap[w2.heap.size]? = some (.cells #[.int .i64 1, .bool false] 36 (0, 0))) := ⟨A2⟩
  have G3 : Aside0 (w2.heap.size ≠ g ∧ w.heap.size ≤ w2.heap.size) := ⟨⟨Nat.ne_of_gt C2.out.lt, B2.out.size⟩⟩
  clear A2
  generalize w2.alloc (.cells #[.int .i64 1, .bool false] 36) = w3 at B3 C3 S3 ⊢
  generalize w2.heap.size = h at S3 G3 ⊢
  go_loopw [12, 13, 14, 15] (fun n v _ _ wr => ∃ (k : Nat) (c : CS) (fr : Bool), k ≤ 200 ∧ v = .int .i64 k ∧ n = .int .i64 0 ∧ Aside0 (JamAt (i + 1) (m + 1) (j + 1) false k c) ∧ Aside0 (Con w wr g c) ∧ Aside0 (wr.heap[h]? = some (.cells #[.int .i64 1, .bool fr] 36 (0, 0))) ∧ Aside0 (Below w.heap.size w wr)) (fun _ v _ _ _ => 200 - (intOf v).toNat)
  case atStart => exact ⟨0, c2, false, by omega, rfl, rfl, F2, C3, S3, B3⟩
  case round =>
    obtain ⟨k, cc, fr, hk, rfl, rfl, HF, HC, S4, HBr⟩ := hrel
    by_cases hlt : k < 200
    · have hlt1 : decide ((k : Int) < 200) = true := decide_eq_true (by omega)
      have hg0 : (j + 1 == 0) = false := beq_eq_false_iff_ne.mpr (by omega)
      have y0 : wr.cell? ⟨h, 0, none⟩ = some (.int .i64 1) := (blk_cell S4.out 0).trans rfl
      have y1 : wr.cell? ⟨h, 1, none⟩ = some (.bool fr) := (blk_cell S4.out 1).trans rfl
      have y2 : wr.frozen? ⟨h, 1, none⟩ = false := blk_frozen S4.out 1
      obtain ⟨fx, hfx⟩ : ∃ fx : Bool, fx = ((k : Int) % (j + 1) == 0) := ⟨_, rfl⟩
      have hfx2 : Aside0 (fx = decide ((k : Int) % (j + 1) = 0)) := ⟨hfx⟩
      have hfx3 := hfx.symm
      clear hfx
      have S5 : Aside0 ((wr.setCell ⟨h, 1, none⟩ (.bool fx)).heap[h]? = some (.cells #[.int .i64 1, .bool fx] 36 (0, 0))) := ⟨blk_set S4.out 1 (.bool fx)⟩
      have z0 : (wr.setCell ⟨h, 1, none⟩ (.bool fx)).cell? ⟨h, 0, none⟩ = some (.int .i64 1) := (blk_cell S5.out 0).trans rfl
      have z1 : (wr.setCell ⟨h, 1, none⟩ (.bool fx)).cell? ⟨h, 1, none⟩ = some (.bool fx) := (blk_cell S5.out 1).trans rfl
      have C5 : Aside0 (Con w (wr.setCell ⟨h, 1, none⟩ (.bool fx)) g cc) := ⟨IsS80.far HC.out G3.out.1.symm _⟩
      have B5 : Aside0 (Below w.heap.size w (wr.setCell ⟨h, 1, none⟩ (.bool fx))) := ⟨below_set HBr.out G3.out.2⟩
      go_wp2_with fail
      with_reducible refine (stepk_c g cc false 1 fx w _ C5.out B5.out HF.out.ok).mono ?_
      rintro e w4 ⟨rfl, hc4, hb4, hk4⟩
      have C6 := Aside0.mk hc4
      have B6 := Aside0.mk hb4
      have S6 := Aside0.mk (hk4.blk S5.out G3.out.1 (by simp))
      clear hc4 hb4 hk4 C5 B5 S5 y0 y1 y2 z0 z1
      by_cases hn : cntF (j + 1) (i + 1 + s0 false) ((k : Int) + 1) < m + 1
      · have F6 : Aside0 (JamAt (i + 1) (m + 1) (j + 1) false (k + 1) (cc.step false 1 fx)) := ⟨HF.out.next HG.out (by omega) (by omega) (by omega) fx hfx2.out hn⟩
        clear hn hfx2 hfx3 S4 HC HBr
        generalize cc.step false 1 fx = c6 at C6 F6
        go_wp2_with fail
        with_reducible refine (jam_c g c6 w _ C6.out B6.out).mono ?_
        rintro e w8 ⟨rfl, hc4, hb4, hk4⟩
        rw [F6.out.jo, F6.out.jn]
        have C8 := Aside0.mk hc4
        have B8 := Aside0.mk hb4
        have S8 := Aside0.mk (hk4.blk S6.out G3.out.1 (by simp))
        clear hc4 hb4 hk4 C6 B6 S6
        go_wp2_with fail
        go_roundw
        case rel => exact ⟨k + 1, c6, fx, by omega, by go_num, rfl, F6, C8, S8, B8⟩
        case measure => simp [intOf]; omega
      · have F6 : Aside0 (JamDone (i + 1) (m + 1) false (cc.step false 1 fx)) := ⟨HF.out.done HG.out (by omega) (by omega) (by omega) fx hfx2.out hn⟩
        have hs0 : s0 false = 1 := rfl
        have hfound := cnt_found (j + 1) (i + 1 + s0 false) k (m + 1) HG.out (by rw [hs0]; omega) (by omega) (by omega) HF.out.lt (by omega)
        rw [hs0] at hfound
        clear hn hfx2 hfx3 S4 HC HBr hs0
        generalize cc.step false 1 fx = c6 at C6 F6
        have hJ : Aside0 (c6.jo = false ∧ c6.jn = true) := ⟨F6.out.jo, F6.out.jn⟩
        have HX : Aside0 ((k : Int) = firstF (j + 1) (i + 1 + 1) + (m + 1 - 1) * (j + 1)) := ⟨hfound⟩
        clear hfound
        go_wp2_with fail
        with_reducible refine (jam_c g c6 w _ C6.out B6.out).mono ?_
        rintro e w8 ⟨rfl, hc4, hb4, hk4⟩
        rw [hJ.out.1, hJ.out.2]
        have C8 := Aside0.mk hc4
        have B8 := Aside0.mk hb4
        have S8 := Aside0.mk (hk4.blk S6.out G3.out.1 (by simp))
        have x0 : w8.cell? ⟨h, 0, none⟩ = some (.int .i64 1) := (blk_cell S8.out 0).trans rfl
        have L1 : (c6.step true 0 true).jo = false := (F6.out.last (by omega) (by omega)).1
        have L2 : (c6.step true 0 true).jn = true := (F6.out.last (by omega) (by omega)).2
        have O6 := Aside0.mk F6.out.ok
        have HL := Aside0.mk (And.intro L1 L2)
        clear hc4 hb4 hk4 C6 B6 S6 L1 L2 F6 HF
        obtain rfl | rfl | rfl : j = 0 ∨ j = 1 ∨ j = 2 := by omega
        all_goals
          go_wp2_with fail
          with_reducible refine (stepk_c g c6 true 0 true w _ C8.out B8.out O6.out).mono ?_
          rintro e w9 ⟨rfl, hc4, hb4, hk4⟩
          have C9 := Aside0.mk hc4
          have B9 := Aside0.mk hb4
          clear hc4 hb4 hk4 C8 B8 S8
          go_wp2_with fail
          with_reducible refine (jam_c g _ w _ C9.out B9.out).mono ?_
          rintro e w10 ⟨rfl, hc4, hb4, hk4⟩
          rw [HL.out.1, HL.out.2]
          clear hc4 hk4 C9 B9
          have BB := Aside0.mk hb4
          clear hb4
          have H1 := HX.out
          unfold firstF at H1
          go_wp2_with fail
          go_ret
          exact ⟨rfl, BB.out⟩
    · obtain rfl : k = 200 := by omega
      exact absurd HF.out.lt (cnt_late (j + 1) _ _ HG.out (by unfold s0; split <;> omega) (by unfold s0; split <;> omega) (by omega))
theorem jams_calls (a b : Int) (dir : Bool) (gap : Int) (w : World) (h1 : (Lit.int .i64 a).wf = true) (h2 : (Lit.int .i64 b).wf = true) (h3 : (Lit.int .i64 gap).wf = true) :
    Calls Try.prog 5 #[.int .i64 a, .int .i64 b, .bool dir, .int .i64 gap] w fun e w' => e = .returned (.bool true) ∧ Below w.heap.size w w' := by
  cases dir
  · exact jams_f a b gap w h1 h2 h3
  · exact jams_t a b gap w h1 h2 h3
end Go.Proofs.Ytbamnfladjkkcaa.Con
