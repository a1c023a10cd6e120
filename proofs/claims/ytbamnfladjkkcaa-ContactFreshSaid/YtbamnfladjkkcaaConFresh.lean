/- Nothing is proved by what did not come: without a fresh look a contactor is neither proved open nor closed, nor jammed: the walk through the law's Go text, for every slice of Bools that can be read. -/
import Derived.Test.YtbamnfladjkkcaaConLaws
import Derived.Test.YtbamnfladjkkcaaRowWords
import Derived.Deep.RegionHeld3
namespace Go.Proofs.Ytbamnfladjkkcaa.Con
open Go Go.RowKit Go.Proofs.YtbamnfladjkkcaaW.PrintWords Go.Proofs.YtbamnfladjkkcaaW.PrintLast Go.Proofs.YtbamnfladjkkcaaW.PrintMore
set_option linter.unusedVariables false
set_option linter.unusedSimpArgs false
/-- No fresh look ever came. -/
structure Dull (c : CS) : Prop where
  ok : c.Ok
  b1 : 1 ≤ c.b
  f : c.fresh = false
  w : c.wrong = 0
  jo : c.jo = false
  jn : c.jn = false
theorem Dull.new (d b : Int) : Dull (CS.new d b) := ⟨CS.new_ok d b, clamp_lo b, rfl, rfl, rfl, rfl⟩
theorem Dull.step {c : CS} (h : Dull c) (cmd : Bool) (v : Int) : Dull (c.step cmd v false) := by
  have hw : nWrong c cmd v false = 0 := by
    unfold nWrong nWrong0
    rw [if_neg (by decide), h.w]
    split <;> rfl
  have hb := h.b1
  exact ⟨h.ok.step cmd v false, hb, rfl, hw, by show (if c.b ≤ nWrong c cmd v false then c.jo || cmd else c.jo) = false; rw [hw, if_neg (by omega), h.jo], by show (if c.b ≤ nWrong c cmd v false then c.jn || !cmd else c.jn) = false; rw [hw, if_neg (by omega), h.jn]⟩
theorem Dull.open_ {c : CS} (h : Dull c) : c.isOpen = false := by unfold CS.isOpen; rw [h.f]; simp
theorem Dull.closed {c : CS} (h : Dull c) : c.isClosed = false := by unfold CS.isClosed; rw [h.f]; rfl
set_option maxHeartbeats 4000000 in
set_option maxRecDepth 100000 in
theorem fresh_calls (a b : Int) (A : Option Addr) (c : Nat) (l : List Bool) (s : Bool) (w : World) (_ : (Lit.int .i64 a).wf = true) (_ : (Lit.int .i64 b).wf = true) (hr : RowW.RdB w A l) (hc : l.length ≤ c) (hm : c ≤ maxLen) :
    Calls Try.prog 6 #[.int .i64 a, .int .i64 b, .slice A l.length c, .bool s] w fun e w' => e = .returned (.bool true) ∧ Below w.heap.size w w' := by
  have HR := Aside0.mk hr
  have HB := Aside0.mk (Below.refl w.heap.size w)
  clear hr
  by_cases hl : l.length > 100
  · have hl1 : decide (100 < (l.length : Int)) = true := decide_eq_true (by omega)
    have hl2 : decide (100 < l.length) = true := decide_eq_true (by omega)
    go_enter Try.func6, Try.ntmps6
    go_wp2_with fail
    refine (first_c _).mono ?_
    rintro e w1 ⟨rfl, hb⟩
    have B1 := Aside0.mk hb
    clear hb
    go_wp2_with fail
    go_ret
    exact ⟨rfl, B1.out⟩
  · have hl1 : decide (100 < (l.length : Int)) = false := decide_eq_false (by omega)
    have hl2 : decide (100 < l.length) = false := decide_eq_false (by omega)
    have hu := Try.underlying36
    cases s
    · go_enter Try.func6, Try.ntmps6
      go_wp2_with fail
      refine (first_c _).mono ?_
      rintro e w1 ⟨rfl, hb⟩
      have B1 := Aside0.mk hb
      clear hb
      go_wp2_with fail
      with_reducible refine (newk_c a b w _ B1.out).mono ?_
      rintro e w2 ⟨g, rfl, hcc, hb, _, _⟩
      have C2 := Aside0.mk hcc
      have B2 := Aside0.mk hb
      clear hcc hb B1
      have D2 := Aside0.mk (Dull.new a b)
      generalize CS.new a b = k0 at C2 D2
      go_wp2_with fail
      have B3 : Aside0 (Below w.heap.size w (w2.alloc (.cells #[.int .i64 0, .bool false] 36))) := ⟨below_step B2.out (below_alloc (Below.refl _ _) _)⟩
      have C3 : Aside0 (Con w (w2.alloc (.cells #[.int .i64 0, .bool false] 36)) g k0) := ⟨IsS80.alloc C2.out _⟩
      have S3 : Aside0 ((w2.alloc (.cells #[.int .i64 0, .bool false] 36)).heap[w2.heap.size]? = some (.cells #[.int .i64 0, .bool false] 36 (0, 0))) := ⟨by simpa using heap_alloc_new w2 _⟩
      have G3 : Aside0 (w2.heap.size ≠ g) := ⟨Nat.ne_of_gt C2.out.lt⟩
      generalize w2.alloc (.cells #[.int .i64 0, .bool false] 36) = w3 at B3 C3 S3 ⊢
      generalize w2.heap.size = h at S3 G3 ⊢
      go_loopw [12, 13, 14] (fun v _ _ wr => ∃ (k : Nat) (c : CS), k ≤ l.length ∧ v = .int .i64 k ∧ Aside0 (Dull c) ∧ Aside0 (Con w wr g c) ∧ Aside0 (wr.heap[h]? = some (.cells #[.int .i64 0, .bool false] 36 (0, 0))) ∧ Aside0 (Below w.heap.size w wr)) (fun v _ _ _ => l.length - (intOf v).toNat)
      case atStart => exact ⟨0, k0, Nat.zero_le _, rfl, D2, C3, S3, B3⟩
      case round =>
        obtain ⟨k, cc, hk, rfl, HD, HC, HS, HBr⟩ := hrel
        by_cases hlt : k < l.length
        · have hlt1 : decide ((k : Int) < (l.length : Int)) = true := decide_eq_true (by omega)
          obtain ⟨ad, e, hx⟩ := HR.out k hlt
          cases e
          generalize hX : l.getD k false = x at hx
          clear hX
          have HX := Aside0.mk hx
          clear hx
          have hx1 := (HBr.out.cell (World.block_lt_of_cell? w _ HX.out)).trans HX.out
          have y0 : wr.cell? ⟨h, 0, none⟩ = some (.int .i64 0) := (blk_cell HS.out 0).trans rfl
          have y1 : wr.cell? ⟨h, 1, none⟩ = some (.bool false) := (blk_cell HS.out 1).trans rfl
          have HC0 : Aside0 (Con w wr.drew g cc) := ⟨HC.out⟩
          have HB0 : Aside0 (Below w.heap.size w wr.drew) := ⟨below_drew HBr.out⟩
          have HS0 : Aside0 (wr.drew.heap[h]? = some (.cells #[.int .i64 0, .bool false] 36 (0, 0))) := ⟨HS.out⟩
          go_wp2_with fail
          go_region_held3 (fun w' => w'.cell? (ad.add k) = some (.bool x) ∧ w'.cell? ⟨h, 0, none⟩ = some (.int .i64 0) ∧ w'.cell? ⟨h, 1, none⟩ = some (.bool false))
            (first | assumption | exact ⟨by assumption, by assumption, by assumption⟩ | go_keep)
            (first
              | (go_at_call 19
                 (with_reducible refine (stepk_c g cc x 0 false w _ HC0.out HB0.out HD.out.ok).mono ?_)
                 rintro e w4 ⟨rfl, hc4, hb4, hk4⟩
                 have C4 := Aside0.mk hc4
                 have B4 := Aside0.mk hb4
                 have S4 := Aside0.mk (hk4.blk HS0.out G3.out (by simp))
                 clear hc4 hb4 hk4
                 have z1 := (B4.out.cell (World.block_lt_of_cell? w _ HX.out)).trans HX.out
                 have z2 : w4.cell? ⟨h, 0, none⟩ = some (.int .i64 0) := (blk_cell S4.out 0).trans rfl
                 have z3 : w4.cell? ⟨h, 1, none⟩ = some (.bool false) := (blk_cell S4.out 1).trans rfl))
          have D4 := Aside0.mk (HD.out.step x 0)
          generalize cc.step x 0 false = c4 at C4 D4
          go_wp2_with fail
          with_reducible refine (jam_c g c4 w _ C4.out B4.out).mono ?_
          rintro e w5 ⟨rfl, hc5, hb5, hk5⟩
          rw [D4.out.jo, D4.out.jn]
          have C5 := Aside0.mk hc5
          have B5 := Aside0.mk hb5
          have S5 := Aside0.mk (hk5.blk S4.out G3.out (by simp))
          clear hc5 hb5 hk5
          go_wp2_with fail
          with_reducible refine (open_c g c4 w _ C5.out B5.out).mono ?_
          rintro e w6 ⟨rfl, hc5, hb5, hk5⟩
          rw [D4.out.open_]
          have C6 := Aside0.mk hc5
          have B6 := Aside0.mk hb5
          have S6 := Aside0.mk (hk5.blk S5.out G3.out (by simp))
          clear hc5 hb5 hk5
          go_wp2_with fail
          with_reducible refine (closed_c g c4 w _ C6.out B6.out).mono ?_
          rintro e w7 ⟨rfl, hc5, hb5, hk5⟩
          rw [D4.out.closed]
          have C7 := Aside0.mk hc5
          have B7 := Aside0.mk hb5
          have S7 := Aside0.mk (hk5.blk S6.out G3.out (by simp))
          clear hc5 hb5 hk5
          go_wp2_with fail
          go_roundw
          case rel => exact ⟨k + 1, c4, by omega, by go_num, D4, C7, S7, B7⟩
          case measure => simp [intOf]; omega
        · go_wp2_with fail
          go_ret
          exact ⟨rfl, HBr.out⟩
    · go_enter Try.func6, Try.ntmps6
      go_wp2_with fail
      refine (first_c _).mono ?_
      rintro e w1 ⟨rfl, hb⟩
      have B1 := Aside0.mk hb
      clear hb
      go_wp2_with fail
      with_reducible refine (newk_c a b w _ B1.out).mono ?_
      rintro e w2 ⟨g, rfl, hcc, hb, _, _⟩
      have C2 := Aside0.mk hcc
      have B2 := Aside0.mk hb
      clear hcc hb B1
      have D2 := Aside0.mk (Dull.new a b)
      generalize CS.new a b = k0 at C2 D2
      go_wp2_with fail
      have B3 : Aside0 (Below w.heap.size w (w2.alloc (.cells #[.int .i64 1, .bool false] 36))) := ⟨below_step B2.out (below_alloc (Below.refl _ _) _)⟩
      have C3 : Aside0 (Con w (w2.alloc (.cells #[.int .i64 1, .bool false] 36)) g k0) := ⟨IsS80.alloc C2.out _⟩
      have S3 : Aside0 ((w2.alloc (.cells #[.int .i64 1, .bool false] 36)).heap[w2.heap.size]? = some (.cells #[.int .i64 1, .bool false] 36 (0, 0))) := ⟨by simpa using heap_alloc_new w2 _⟩
      have G3 : Aside0 (w2.heap.size ≠ g) := ⟨Nat.ne_of_gt C2.out.lt⟩
      generalize w2.alloc (.cells #[.int .i64 1, .bool false] 36) = w3 at B3 C3 S3 ⊢
      generalize w2.heap.size = h at S3 G3 ⊢
      go_loopw [12, 13, 14] (fun v _ _ wr => ∃ (k : Nat) (c : CS), k ≤ l.length ∧ v = .int .i64 k ∧ Aside0 (Dull c) ∧ Aside0 (Con w wr g c) ∧ Aside0 (wr.heap[h]? = some (.cells #[.int .i64 1, .bool false] 36 (0, 0))) ∧ Aside0 (Below w.heap.size w wr)) (fun v _ _ _ => l.length - (intOf v).toNat)
      case atStart => exact ⟨0, k0, Nat.zero_le _, rfl, D2, C3, S3, B3⟩
      case round =>
        obtain ⟨k, cc, hk, rfl, HD, HC, HS, HBr⟩ := hrel
        by_cases hlt : k < l.length
        · have hlt1 : decide ((k : Int) < (l.length : Int)) = true := decide_eq_true (by omega)
          obtain ⟨ad, e, hx⟩ := HR.out k hlt
          cases e
          generalize hX : l.getD k false = x at hx
          clear hX
          have HX := Aside0.mk hx
          clear hx
          have hx1 := (HBr.out.cell (World.block_lt_of_cell? w _ HX.out)).trans HX.out
          have y0 : wr.cell? ⟨h, 0, none⟩ = some (.int .i64 1) := (blk_cell HS.out 0).trans rfl
          have y1 : wr.cell? ⟨h, 1, none⟩ = some (.bool false) := (blk_cell HS.out 1).trans rfl
          have HC0 : Aside0 (Con w wr.drew g cc) := ⟨HC.out⟩
          have HB0 : Aside0 (Below w.heap.size w wr.drew) := ⟨below_drew HBr.out⟩
          have HS0 : Aside0 (wr.drew.heap[h]? = some (.cells #[.int .i64 1, .bool false] 36 (0, 0))) := ⟨HS.out⟩
          go_wp2_with fail
          go_region_held3 (fun w' => w'.cell? (ad.add k) = some (.bool x) ∧ w'.cell? ⟨h, 0, none⟩ = some (.int .i64 1) ∧ w'.cell? ⟨h, 1, none⟩ = some (.bool false))
            (first | assumption | exact ⟨by assumption, by assumption, by assumption⟩ | go_keep)
            (first
              | (go_at_call 19
                 (with_reducible refine (stepk_c g cc x 1 false w _ HC0.out HB0.out HD.out.ok).mono ?_)
                 rintro e w4 ⟨rfl, hc4, hb4, hk4⟩
                 have C4 := Aside0.mk hc4
                 have B4 := Aside0.mk hb4
                 have S4 := Aside0.mk (hk4.blk HS0.out G3.out (by simp))
                 clear hc4 hb4 hk4
                 have z1 := (B4.out.cell (World.block_lt_of_cell? w _ HX.out)).trans HX.out
                 have z2 : w4.cell? ⟨h, 0, none⟩ = some (.int .i64 1) := (blk_cell S4.out 0).trans rfl
                 have z3 : w4.cell? ⟨h, 1, none⟩ = some (.bool false) := (blk_cell S4.out 1).trans rfl))
          have D4 := Aside0.mk (HD.out.step x 1)
          generalize cc.step x 1 false = c4 at C4 D4
          go_wp2_with fail
          with_reducible refine (jam_c g c4 w _ C4.out B4.out).mono ?_
          rintro e w5 ⟨rfl, hc5, hb5, hk5⟩
          rw [D4.out.jo, D4.out.jn]
          have C5 := Aside0.mk hc5
          have B5 := Aside0.mk hb5
          have S5 := Aside0.mk (hk5.blk S4.out G3.out (by simp))
          clear hc5 hb5 hk5
          go_wp2_with fail
          with_reducible refine (open_c g c4 w _ C5.out B5.out).mono ?_
          rintro e w6 ⟨rfl, hc5, hb5, hk5⟩
          rw [D4.out.open_]
          have C6 := Aside0.mk hc5
          have B6 := Aside0.mk hb5
          have S6 := Aside0.mk (hk5.blk S5.out G3.out (by simp))
          clear hc5 hb5 hk5
          go_wp2_with fail
          with_reducible refine (closed_c g c4 w _ C6.out B6.out).mono ?_
          rintro e w7 ⟨rfl, hc5, hb5, hk5⟩
          rw [D4.out.closed]
          have C7 := Aside0.mk hc5
          have B7 := Aside0.mk hb5
          have S7 := Aside0.mk (hk5.blk S6.out G3.out (by simp))
          clear hc5 hb5 hk5
          go_wp2_with fail
          go_roundw
          case rel => exact ⟨k + 1, c4, by omega, by go_num, D4, C7, S7, B7⟩
          case measure => simp [intOf]; omega
        · go_wp2_with fail
          go_ret
          exact ⟨rfl, HBr.out⟩
end Go.Proofs.Ytbamnfladjkkcaa.Con
