/- What the laws of chapter 16 lean on: the contactor's answers, its bounds, the chapter's examples. -/
import Derived.Test.YtbamnfladjkkcaaConStep
namespace Go.Proofs.Ytbamnfladjkkcaa.Con
open Go Go.RowKit Go.Proofs.YtbamnfladjkkcaaW.PrintWords Go.Proofs.YtbamnfladjkkcaaW.PrintLast Go.Proofs.YtbamnfladjkkcaaW.PrintMore
set_option linter.unusedVariables false
set_option linter.unusedSimpArgs false
def CS.isOpen (c : CS) : Bool := !c.told && (decide (c.d ≤ c.since) && (c.fresh && (c.v == 0)))
def CS.isClosed (c : CS) : Bool := c.fresh && (c.v == 1)
theorem open_c (g : Nat) (c : CS) (w0 w : World) (hI : Con w0 w g c) (hB : Below w0.heap.size w0 w) :
    Calls Try.prog 23 #[.pointer (some ⟨g, 0, none⟩)] w fun e w' => e = .returned (.bool c.isOpen) ∧ Con w0 w' g c ∧ Below w0.heap.size w0 w' ∧ KeepBut w w' g none :=
  contact_Contact_Open.calls g c.d c.b c.told c.since c.wrong c.v c.fresh c.jo c.jn _ _ _ _ _ _ _ _ _ _ w0 w hI hB (by
    unfold contact_Contact_Open.f CS.isOpen
    cases c.told
    · rw [if_neg (by decide)]
      by_cases h : c.d ≤ c.since
      · rw [if_pos (by omega), decide_eq_true h]
        cases c.fresh
        · rw [if_neg (by decide)]; rfl
        · rw [if_pos rfl]; rfl
      · rw [if_neg (by omega), decide_eq_false h]; rfl
    · rw [if_pos rfl]; rfl)
theorem closed_c (g : Nat) (c : CS) (w0 w : World) (hI : Con w0 w g c) (hB : Below w0.heap.size w0 w) :
    Calls Try.prog 25 #[.pointer (some ⟨g, 0, none⟩)] w fun e w' => e = .returned (.bool c.isClosed) ∧ Con w0 w' g c ∧ Below w0.heap.size w0 w' ∧ KeepBut w w' g none :=
  contact_Contact_Closed.calls g c.d c.b c.told c.since c.wrong c.v c.fresh c.jo c.jn _ _ _ _ _ _ _ _ _ _ w0 w hI hB (by
    unfold contact_Contact_Closed.f CS.isClosed
    cases c.fresh
    · rw [if_neg (by decide)]; rfl
    · rw [if_pos rfl]; rfl)
theorem jam_c (g : Nat) (c : CS) (w0 w : World) (hI : Con w0 w g c) (hB : Below w0.heap.size w0 w) :
    Calls Try.prog 22 #[.pointer (some ⟨g, 0, none⟩)] w fun e w' => e = .returned (.tuple #[.bool c.jo, .bool c.jn]) ∧ Con w0 w' g c ∧ Below w0.heap.size w0 w' ∧ KeepBut w w' g none :=
  contact_Contact_Jam.calls g c.d c.b c.told c.since c.wrong c.v c.fresh c.jo c.jn _ _ _ _ _ _ _ _ _ _ _ w0 w hI hB rfl
/-- The counts stay within their bounds. -/
structure CS.Ok (c : CS) : Prop where
  s0 : -2 ≤ c.since
  s1 : c.since ≤ 1000
  w0 : 0 ≤ c.wrong
  w1 : c.wrong ≤ 1000
theorem CS.Ok.step {c : CS} (h : c.Ok) (cmd : Bool) (v : Int) (fresh : Bool) : (c.step cmd v fresh).Ok := by
  obtain ⟨h1, h2, h3, h4⟩ := h
  have a1 : -2 ≤ nSince c cmd ∧ nSince c cmd ≤ 1000 := by unfold nSince mn; split <;> (try split) <;> omega
  have a2 : 0 ≤ nWrong0 c cmd ∧ nWrong0 c cmd ≤ 1000 := by unfold nWrong0; split <;> omega
  have a3 : 0 ≤ nWrong c cmd v fresh ∧ nWrong c cmd v fresh ≤ 1000 := by
    unfold nWrong
    split
    · split
      · unfold mn; split <;> omega
      · omega
    · exact a2
  exact ⟨a1.1, a1.2, a3.1, a3.2⟩
theorem stepk_c (g : Nat) (c : CS) (cmd : Bool) (v : Int) (fresh : Bool) (w0 w : World) (hI : Con w0 w g c) (hB : Below w0.heap.size w0 w) (h : c.Ok) :
    Calls Try.prog 19 #[.pointer (some ⟨g, 0, none⟩), .bool cmd, .agg #[.int .i64 v, .bool fresh]] w fun e w' => e = .returned (.tuple #[]) ∧ Con w0 w' g (c.step cmd v fresh) ∧ Below w0.heap.size w0 w' ∧ KeepBut w w' g none :=
  step_c g c cmd v fresh w0 w hI hB (by have := h.s0; omega) h.s1 h.w0 h.w1
/-- A new contactor. -/
def CS.new (d b : Int) : CS := ⟨mx (mn d 1000) 1, mx (mn b 1000) 1, false, -2, 0, 0, false, false, false⟩
theorem CS.new_ok (d b : Int) : (CS.new d b).Ok := ⟨show (-2 : Int) ≤ -2 by decide, show (-2 : Int) ≤ 1000 by decide, show (0 : Int) ≤ 0 by decide, show (0 : Int) ≤ 1000 by decide⟩
theorem newk_c (d b : Int) (w0 w : World) (hB : Below w0.heap.size w0 w) : Calls Try.prog 16 #[.int .i64 d, .int .i64 b] w fun e w' => ∃ g : Nat, e = .returned (.pointer (some ⟨g, 0, none⟩)) ∧ Con w0 w' g (CS.new d b) ∧ Below w0.heap.size w0 w' ∧ Below w.heap.size w w' ∧ w.heap.size ≤ g := new_c d b w0 w hB
theorem clamp_lo (n : Int) : 1 ≤ mx (mn n 1000) 1 := by unfold mx mn; omega
theorem clamp_hi (n : Int) : mx (mn n 1000) 1 ≤ 1000 := by unfold mx mn; omega
theorem clamp_id (n : Int) (h : 1 ≤ n) (h2 : n ≤ 1000) : mx (mn n 1000) 1 = n := by unfold mx mn; omega
def CS.c1 : CS := ⟨1, 1, false, -1, 0, 0, true, false, false⟩
def CS.c2 : CS := ⟨1, 1, false, 0, 0, 0, true, false, false⟩
def CS.c3 : CS := ⟨1, 1, false, 1, 0, 0, true, false, false⟩
theorem e1 : (CS.new 1 1).step false 0 true = CS.c1 := by rfl
theorem e2 : CS.c1.step false 0 true = CS.c2 := by rfl
theorem e3 : CS.c2.step false 0 true = CS.c3 := by rfl
theorem first_c (w : World) : Calls Try.prog 15 #[] w fun e w' => e = .returned (.bool true) ∧ Below w.heap.size w w' := by
  have HB := Aside0.mk (Below.refl w.heap.size w)
  go_enter Try.func15, Try.ntmps15
  go_wp2_with fail
  with_reducible refine (newk_c 1 1 w _ HB.out).mono ?_
  rintro e w1 ⟨g, rfl, hc, hb, _, _⟩
  have C1 := Aside0.mk hc
  have B1 := Aside0.mk hb
  clear hc hb
  go_wp2_with fail
  with_reducible refine (open_c g _ w _ C1.out B1.out).mono ?_
  rintro e w2 ⟨rfl, hc, hb, _⟩
  have C2 := Aside0.mk hc
  have B2 := Aside0.mk hb
  clear hc hb C1 B1
  have o1 : (CS.new 1 1).isOpen = false := by rfl
  rw [o1]
  go_wp2_with fail
  with_reducible refine (stepk_c g _ false 0 true w _ C2.out B2.out (CS.new_ok 1 1)).mono ?_
  rintro e w3 ⟨rfl, hc, hb, _⟩
  rw [e1] at hc
  have C3 := Aside0.mk hc
  have B3 := Aside0.mk hb
  clear hc hb C2 B2
  go_wp2_with fail
  with_reducible refine (stepk_c g _ false 0 true w _ C3.out B3.out ⟨by decide, by decide, by decide, by decide⟩).mono ?_
  rintro e w4 ⟨rfl, hc, hb, _⟩
  rw [e2] at hc
  have C4 := Aside0.mk hc
  have B4 := Aside0.mk hb
  clear hc hb C3 B3
  go_wp2_with fail
  with_reducible refine (open_c g _ w _ C4.out B4.out).mono ?_
  rintro e w5 ⟨rfl, hc, hb, _⟩
  have C5 := Aside0.mk hc
  have B5 := Aside0.mk hb
  clear hc hb C4 B4
  have o2 : CS.c2.isOpen = false := by rfl
  rw [o2]
  go_wp2_with fail
  with_reducible refine (stepk_c g _ false 0 true w _ C5.out B5.out ⟨by decide, by decide, by decide, by decide⟩).mono ?_
  rintro e w6 ⟨rfl, hc, hb, _⟩
  rw [e3] at hc
  have C6 := Aside0.mk hc
  have B6 := Aside0.mk hb
  clear hc hb C5 B5
  go_wp2_with fail
  with_reducible refine (open_c g _ w _ C6.out B6.out).mono ?_
  rintro e w7 ⟨rfl, hc, hb, _⟩
  have C7 := Aside0.mk hc
  have B7 := Aside0.mk hb
  clear hc hb C6 B6
  have o3 : CS.c3.isOpen = true := by rfl
  rw [o3]
  go_wp2_with fail
  with_reducible refine (closed_c g _ w _ C7.out B7.out).mono ?_
  rintro e w8 ⟨rfl, hc, hb, _⟩
  have B8 := Aside0.mk hb
  clear hc hb C7 B7
  have o4 : CS.c3.isClosed = false := by rfl
  rw [o4]
  go_wp2_with fail
  go_ret
  exact ⟨rfl, B8.out⟩
end Go.Proofs.Ytbamnfladjkkcaa.Con
