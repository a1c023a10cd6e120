/- What is set to be jammed is, for good, whatever is told and seen: the walk through the law's Go text, for all slices of Bools that can be read. -/
import Derived.Test.YtbamnfladjkkcaaConLaws
import Derived.Test.YtbamnfladjkkcaaRowWords
import Derived.Deep.RegionHeld3
namespace Go.Proofs.Ytbamnfladjkkcaa.Con
open Go Go.RowKit Go.Proofs.YtbamnfladjkkcaaW.PrintWords Go.Proofs.YtbamnfladjkkcaaW.PrintLast Go.Proofs.YtbamnfladjkkcaaW.PrintMore
set_option linter.unusedVariables false
set_option linter.unusedSimpArgs false
/-- Jammed as it was set, and never more than so many wrong looks. -/
structure Sits (a b : Bool) (k : Nat) (c : CS) : Prop where
  ok : c.Ok
  b1 : c.b = 1000
  w : c.wrong ≤ (k : Int)
  jo : c.jo = a
  jn : c.jn = b
theorem Sits.step {a b : Bool} {k : Nat} {c : CS} (h : Sits a b k c) (hk : k < 900) (cmd : Bool) (v : Int) : Sits a b (k + 1) (c.step cmd v true) := by
  have hw0 : nWrong0 c cmd ≤ (k : Int) := by unfold nWrong0; split; exact h.w; omega
  have hw : nWrong c cmd v true ≤ ((k + 1 : Nat) : Int) := by
    unfold nWrong
    rw [if_pos rfl]
    split
    · unfold mn; split <;> omega
    · omega
  have hn : ¬ c.b ≤ nWrong c cmd v true := by rw [h.b1]; omega
  exact ⟨h.ok.step cmd v true, h.b1, hw, by show (if c.b ≤ nWrong c cmd v true then c.jo || cmd else c.jo) = a; rw [if_neg hn, h.jo], by show (if c.b ≤ nWrong c cmd v true then c.jn || !cmd else c.jn) = b; rw [if_neg hn, h.jn]⟩
theorem setk_c (g : Nat) (c : CS) (o n : Bool) (w0 w : World) (hI : Con w0 w g c) (hB : Below w0.heap.size w0 w) :
    Calls Try.prog 18 #[.pointer (some ⟨g, 0, none⟩), .bool o, .bool n] w fun e w' => e = .returned (.tuple #[]) ∧ Con w0 w' g { c with jo := c.jo || o, jn := c.jn || n } ∧ Below w0.heap.size w0 w' ∧ KeepBut w w' g none := set_c g c o n w0 w hI hB
set_option maxHeartbeats 4000000 in
set_option maxRecDepth 100000 in
theorem sets_calls (a b : Bool) (A : Option Addr) (c : Nat) (l : List Bool) (B : Option Addr) (d : Nat) (q : List Bool) (w : World) (hr : RowW.RdB w A l) (hc : l.length ≤ c) (hm : c ≤ maxLen) (hq : RowW.RdB w B q) (hd : q.length ≤ d) (hm2 : d ≤ maxLen) :
    Calls Try.prog 8 #[.bool a, .bool b, .slice A l.length c, .slice B q.length d] w fun e w' => e = .returned (.bool true) ∧ Below w.heap.size w w' := by
  have HR := Aside0.mk hr
  have HQ := Aside0.mk hq
  have HB := Aside0.mk (Below.refl w.heap.size w)
  have hu := Try.underlying36
  clear hr hq
  by_cases hl : l.length > 50
  · have hl1 : decide (50 < (l.length : Int)) = true := decide_eq_true (by omega)
    have hl2 : decide (50 < l.length) = true := decide_eq_true (by omega)
    go_enter Try.func8, Try.ntmps8
    go_wp2_with fail
    refine (first_c _).mono ?_
    rintro e w1 ⟨rfl, hb⟩
    have B1 := Aside0.mk hb
    clear hb
    go_wp2_with fail
    go_ret
    exact ⟨rfl, B1.out⟩
  · have hl1 : decide (50 < (l.length : Int)) = false := decide_eq_false (by omega)
    have hl2 : decide (50 < l.length) = false := decide_eq_false (by omega)
    by_cases hql : q.length < l.length
    · have hq1 : decide ((q.length : Int) < (l.length : Int)) = true := decide_eq_true (by omega)
      have hq2 : decide (q.length < l.length) = true := decide_eq_true (by omega)
      go_enter Try.func8, Try.ntmps8
      go_wp2_with fail
      refine (first_c _).mono ?_
      rintro e w1 ⟨rfl, hb⟩
      have B1 := Aside0.mk hb
      clear hb
      go_wp2_with fail
      go_ret
      exact ⟨rfl, B1.out⟩
    · have hq1 : decide ((q.length : Int) < (l.length : Int)) = false := decide_eq_false (by omega)
      have hq2 : decide (q.length < l.length) = false := decide_eq_false (by omega)
      go_enter Try.func8, Try.ntmps8
      go_wp2_with fail
      refine (first_c _).mono ?_
      rintro e w1 ⟨rfl, hb⟩
      have B1 := Aside0.mk hb
      clear hb
      go_wp2_with fail
      with_reducible refine (newk_c 3 1000 w _ B1.out).mono ?_
      rintro e w2 ⟨g, rfl, hcc, hb, _, _⟩
      have C2 := Aside0.mk hcc
      have B2 := Aside0.mk hb
      clear hcc hb B1
      go_wp2_with fail
      with_reducible refine (setk_c g (CS.new 3 1000) a b w _ C2.out B2.out).mono ?_
      rintro e w3 ⟨rfl, hcc, hb, _⟩
      have D3 : Aside0 (Sits a b 0 { CS.new 3 1000 with jo := (CS.new 3 1000).jo || a, jn := (CS.new 3 1000).jn || b }) := ⟨⟨⟨show (-2 : Int) ≤ -2 by decide, show (-2 : Int) ≤ 1000 by decide, show (0 : Int) ≤ 0 by decide, show (0 : Int) ≤ 1000 by decide⟩, rfl, show (0 : Int) ≤ ((0 : Nat) : Int) by decide, Bool.false_or a, Bool.false_or b⟩⟩
      generalize ({ CS.new 3 1000 with jo := (CS.new 3 1000).jo || a, jn := (CS.new 3 1000).jn || b } : CS) = c3 at hcc D3
      have C3 := Aside0.mk hcc
      have B3 := Aside0.mk hb
      clear hcc hb C2 B2
      go_wp2_with fail
      go_loopw [11, 12, 13, 14] (fun v _ _ _ wr => ∃ (k : Nat) (c : CS), k ≤ l.length ∧ v = .int .i64 k ∧ Aside0 (Sits a b k c) ∧ Aside0 (Con w wr g c) ∧ Aside0 (Below w.heap.size w wr)) (fun v _ _ _ _ => l.length - (intOf v).toNat)
      case atStart => exact ⟨0, c3, Nat.zero_le _, rfl, D3, C3, B3⟩
      case round =>
        obtain ⟨k, cc, hk, rfl, HD, HC, HBr⟩ := hrel
        by_cases hlt : k < l.length
        · have hlt1 : decide ((k : Int) < (l.length : Int)) = true := decide_eq_true (by omega)
          obtain ⟨ad, e, hx⟩ := HR.out k hlt
          cases e
          generalize hX : l.getD k false = x at hx
          clear hX
          have HX := Aside0.mk hx
          clear hx
          obtain ⟨bd, e, hy⟩ := HQ.out k (by omega)
          cases e
          generalize hY : q.getD k false = y at hy
          clear hY
          have HY := Aside0.mk hy
          clear hy
          have hkq : decide ((k : Int) < (q.length : Int)) = true := decide_eq_true (by omega)
          cases y
          · have B5 : Aside0 (Below w.heap.size w (wr.alloc (.cells #[.int .i64 0, .bool true] 36)).drew) := ⟨below_drew (below_step HBr.out (below_alloc (Below.refl _ _) _))⟩
            have C5 : Aside0 (Con w (wr.alloc (.cells #[.int .i64 0, .bool true] 36)).drew g cc) := ⟨IsS80.alloc HC.out _⟩
            have S5 : Aside0 ((wr.alloc (.cells #[.int .i64 0, .bool true] 36)).drew.heap[wr.heap.size]? = some (.cells #[.int .i64 0, .bool true] 36 (0, 0))) := ⟨show (wr.alloc (.cells #[.int .i64 0, .bool true] 36)).heap[wr.heap.size]? = some (.cells #[.int .i64 0, .bool true] 36 (0, 0)) from by simpa using heap_alloc_new wr _⟩
            have G5 : Aside0 (wr.heap.size ≠ g) := ⟨Nat.ne_of_gt HC.out.lt⟩
            have hz := (HBr.out.cell (World.block_lt_of_cell? w _ HY.out)).trans HY.out
            have hz2 := ((below_step HBr.out (below_alloc (Below.refl _ _) (.cells #[.int .i64 0, .bool true] 36))).cell (World.block_lt_of_cell? w _ HY.out)).trans HY.out
            go_wp2_with fail
            clear hz hz2
            have hx1 := (B5.out.cell (World.block_lt_of_cell? w _ HX.out)).trans HX.out
            have y0 : (wr.alloc (.cells #[.int .i64 0, .bool true] 36)).drew.cell? ⟨wr.heap.size, 0, none⟩ = some (.int .i64 0) := (blk_cell S5.out 0).trans rfl
            have y1 : (wr.alloc (.cells #[.int .i64 0, .bool true] 36)).drew.cell? ⟨wr.heap.size, 1, none⟩ = some (.bool true) := (blk_cell S5.out 1).trans rfl
            go_region_held3 (fun w' => w'.cell? (ad.add k) = some (.bool x) ∧ w'.cell? ⟨wr.heap.size, 0, none⟩ = some (.int .i64 0) ∧ w'.cell? ⟨wr.heap.size, 1, none⟩ = some (.bool true))
              (first | assumption | exact ⟨by assumption, by assumption, by assumption⟩ | go_keep)
              (first
                | (go_at_call 19
                   (with_reducible refine (stepk_c g cc x 0 true w _ C5.out B5.out HD.out.ok).mono ?_)
                   rintro e w4 ⟨rfl, hc4, hb4, hk4⟩
                   have C6 := Aside0.mk hc4
                   have B6 := Aside0.mk hb4
                   have S6 := Aside0.mk (hk4.blk S5.out G5.out (by simp))
                   clear hc4 hb4 hk4
                   have z1 := (B6.out.cell (World.block_lt_of_cell? w _ HX.out)).trans HX.out
                   have z2 : w4.cell? ⟨wr.heap.size, 0, none⟩ = some (.int .i64 0) := (blk_cell S6.out 0).trans rfl
                   have z3 : w4.cell? ⟨wr.heap.size, 1, none⟩ = some (.bool true) := (blk_cell S6.out 1).trans rfl))
            have D6 := Aside0.mk (HD.out.step (by omega) x 0)
            generalize cc.step x 0 true = c6 at C6 D6
            go_wp2_with fail
            with_reducible refine (jam_c g c6 w _ C6.out B6.out).mono ?_
            rintro e w7 ⟨rfl, hc4, hb4, _⟩
            rw [D6.out.jo, D6.out.jn]
            have C7 := Aside0.mk hc4
            have B7 := Aside0.mk hb4
            clear hc4 hb4
            go_wp2_with fail
            go_roundw
            case rel => exact ⟨k + 1, c6, by omega, by go_num, D6, C7, B7⟩
            case measure => simp [intOf]; omega
          · have B5 : Aside0 (Below w.heap.size w (wr.alloc (.cells #[.int .i64 1, .bool true] 36)).drew) := ⟨below_drew (below_step HBr.out (below_alloc (Below.refl _ _) _))⟩
            have C5 : Aside0 (Con w (wr.alloc (.cells #[.int .i64 1, .bool true] 36)).drew g cc) := ⟨IsS80.alloc HC.out _⟩
            have S5 : Aside0 ((wr.alloc (.cells #[.int .i64 1, .bool true] 36)).drew.heap[wr.heap.size]? = some (.cells #[.int .i64 1, .bool true] 36 (0, 0))) := ⟨show (wr.alloc (.cells #[.int .i64 1, .bool true] 36)).heap[wr.heap.size]? = some (.cells #[.int .i64 1, .bool true] 36 (0, 0)) from by simpa using heap_alloc_new wr _⟩
            have G5 : Aside0 (wr.heap.size ≠ g) := ⟨Nat.ne_of_gt HC.out.lt⟩
            have hz := (HBr.out.cell (World.block_lt_of_cell? w _ HY.out)).trans HY.out
            have hz2 := ((below_step HBr.out (below_alloc (Below.refl _ _) (.cells #[.int .i64 0, .bool true] 36))).cell (World.block_lt_of_cell? w _ HY.out)).trans HY.out
            go_wp2_with fail
            clear hz hz2
            have hx1 := (B5.out.cell (World.block_lt_of_cell? w _ HX.out)).trans HX.out
            have y0 : (wr.alloc (.cells #[.int .i64 1, .bool true] 36)).drew.cell? ⟨wr.heap.size, 0, none⟩ = some (.int .i64 1) := (blk_cell S5.out 0).trans rfl
            have y1 : (wr.alloc (.cells #[.int .i64 1, .bool true] 36)).drew.cell? ⟨wr.heap.size, 1, none⟩ = some (.bool true) := (blk_cell S5.out 1).trans rfl
            go_region_held3 (fun w' => w'.cell? (ad.add k) = some (.bool x) ∧ w'.cell? ⟨wr.heap.size, 0, none⟩ = some (.int .i64 1) ∧ w'.cell? ⟨wr.heap.size, 1, none⟩ = some (.bool true))
              (first | assumption | exact ⟨by assumption, by assumption, by assumption⟩ | go_keep)
              (first
                | (go_at_call 19
                   (with_reducible refine (stepk_c g cc x 1 true w _ C5.out B5.out HD.out.ok).mono ?_)
                   rintro e w4 ⟨rfl, hc4, hb4, hk4⟩
                   have C6 := Aside0.mk hc4
                   have B6 := Aside0.mk hb4
                   have S6 := Aside0.mk (hk4.blk S5.out G5.out (by simp))
                   clear hc4 hb4 hk4
                   have z1 := (B6.out.cell (World.block_lt_of_cell? w _ HX.out)).trans HX.out
                   have z2 : w4.cell? ⟨wr.heap.size, 0, none⟩ = some (.int .i64 1) := (blk_cell S6.out 0).trans rfl
                   have z3 : w4.cell? ⟨wr.heap.size, 1, none⟩ = some (.bool true) := (blk_cell S6.out 1).trans rfl))
            have D6 := Aside0.mk (HD.out.step (by omega) x 1)
            generalize cc.step x 1 true = c6 at C6 D6
            go_wp2_with fail
            with_reducible refine (jam_c g c6 w _ C6.out B6.out).mono ?_
            rintro e w7 ⟨rfl, hc4, hb4, _⟩
            rw [D6.out.jo, D6.out.jn]
            have C7 := Aside0.mk hc4
            have B7 := Aside0.mk hb4
            clear hc4 hb4
            go_wp2_with fail
            go_roundw
            case rel => exact ⟨k + 1, c6, by omega, by go_num, D6, C7, B7⟩
            case measure => simp [intOf]; omega
        · go_wp2_with fail
          with_reducible refine (setk_c g cc false true w _ HC.out HBr.out).mono ?_
          rintro e w8 ⟨rfl, hc8, hb8, _⟩
          have C8 := Aside0.mk hc8
          have B8 := Aside0.mk hb8
          clear hc8 hb8
          go_wp2_with fail
          with_reducible refine (jam_c g _ w _ C8.out B8.out).mono ?_
          rintro e w9 ⟨rfl, hc9, hb9, _⟩
          have B9 := Aside0.mk hb9
          clear hc9 hb9
          have j1 : (({ cc with jo := cc.jo || false, jn := cc.jn || true } : CS).jo) = a := by show (cc.jo || false) = a; rw [Bool.or_false, HD.out.jo]
          have j2 : (({ cc with jo := cc.jo || false, jn := cc.jn || true } : CS).jn) = true := Bool.or_true _
          rw [j1, j2]
          clear j1 j2
          cases a
          all_goals
            go_wp2_with fail
            go_ret
            exact ⟨by first | rfl | simp, B9.out⟩
end Go.Proofs.Ytbamnfladjkkcaa.Con
