/- The contactor of chapter 16 as plain values: what a step leaves of it, and the contracts of its functions. -/
import Derived.Test.YtbamnfladjkkcaaConx1
import Derived.Test.YtbamnfladjkkcaaConx2
import Derived.Test.YtbamnfladjkkcaaConx4
import Derived.Test.YtbamnfladjkkcaaConx5
import Derived.RegionTactic
import Derived.BigRegion
import Derived.ChangeAlike
namespace Go.Proofs.Ytbamnfladjkkcaa.Con
open Go Go.RowKit Go.Proofs.YtbamnfladjkkcaaW.PrintWords Go.Proofs.YtbamnfladjkkcaaW.PrintLast Go.Proofs.YtbamnfladjkkcaaW.PrintMore
set_option linter.unusedVariables false
set_option linter.unusedSimpArgs false
structure CS where
  d : Int
  b : Int
  told : Bool
  since : Int
  wrong : Int
  v : Int
  fresh : Bool
  jo : Bool
  jn : Bool
def Con (w0 W : World) (g : Nat) (c : CS) : Prop := IsS80 w0 W g c.d c.b c.told c.since c.wrong c.v c.fresh c.jo c.jn
theorem Con.lt {w0 W : World} {g : Nat} {c : CS} (h : Con w0 W g c) : g < W.heap.size := IsS80.lt h
theorem cut_c (n : Int) (w : World) : Calls Try.prog 47 #[.int .i64 n] w fun e w' => e = .returned (.int .i64 (mx (mn n 1000) 1)) ∧ w = w' := by
  by_cases h1 : 1000 < n
  · have e1 : mx (mn n 1000) 1 = 1000 := by unfold mx mn; omega
    rw [e1]
    clear e1
    go_enter Try.func47, Try.ntmps47
    go_wp2
    go_ret
    exact ⟨rfl, rfl⟩
  · by_cases h2 : n < 1
    · have e1 : mx (mn n 1000) 1 = 1 := by unfold mx mn; omega
      rw [e1]
      clear e1
      go_enter Try.func47, Try.ntmps47
      go_wp2
      go_ret
      exact ⟨rfl, rfl⟩
    · have e1 : mx (mn n 1000) 1 = n := by unfold mx mn; omega
      rw [e1]
      clear e1
      go_enter Try.func47, Try.ntmps47
      go_wp2
      go_ret
      exact ⟨rfl, rfl⟩
theorem new_c (d b : Int) (w0 w : World) (hB : Below w0.heap.size w0 w) : Calls Try.prog 16 #[.int .i64 d, .int .i64 b] w fun e w' => ∃ g : Nat, e = .returned (.pointer (some ⟨g, 0, none⟩)) ∧ Con w0 w' g ⟨mx (mn d 1000) 1, mx (mn b 1000) 1, false, -2, 0, 0, false, false, false⟩ ∧ Below w0.heap.size w0 w' ∧ Below w.heap.size w w' ∧ w.heap.size ≤ g := by
  have HB := Aside0.mk hB
  clear hB
  go_enter Try.func16, Try.ntmps16
  go_wp2_with fail
  refine (cut_c d _).mono ?_
  rintro e w1 ⟨rfl, rfl⟩
  go_wp2_with fail
  refine (cut_c b _).mono ?_
  rintro e w1 ⟨rfl, rfl⟩
  go_wp2_with fail
  go_ret
  exact ⟨_, rfl, ⟨by simpa using heap_alloc_new w _, HB.out.size⟩, below_step HB.out (below_alloc (Below.refl _ _) _), below_alloc (Below.refl _ _) _, Nat.le_refl _⟩
set_option maxHeartbeats 4000000 in
theorem set_c (g : Nat) (c : CS) (o n : Bool) (w0 w : World) (hI : Con w0 w g c) (hB : Below w0.heap.size w0 w) :
    Calls Try.prog 18 #[.pointer (some ⟨g, 0, none⟩), .bool o, .bool n] w fun e w' => e = .returned (.tuple #[]) ∧ Con w0 w' g { c with jo := c.jo || o, jn := c.jn || n } ∧ Below w0.heap.size w0 w' ∧ KeepBut w w' g none := by
  obtain ⟨d, b, told, since, wrong, v, fresh, jo, jn⟩ := c
  have HI : Aside0 (IsS80 w0 w g d b told since wrong v fresh jo jn) := ⟨hI⟩
  have HB := Aside0.mk hB
  have HK := Aside0.mk (KeepBut.refl w g none)
  have hb := HI.out.1
  have h6 := cellS80_6 hb
  have h7 := cellS80_7 hb
  have h8 := cellS80_8 hb
  have f7 := blk_frozen hb 7
  have f8 := blk_frozen hb 8
  clear hI hB hb
  cases jo <;> cases jn
  all_goals
    go_enter Try.func18, Try.ntmps18
    go_region
    all_goals
      go_end0
      exact ⟨rfl, IsS80.drew (IsS80.set_8 (IsS80.set_7 HI.out _) _), below_drew (below_set (below_set HB.out (IsS80.ge HI.out)) (IsS80.ge HI.out)), keep_drew ((HK.out.set_ _ _).set_ _ _)⟩
end Go.Proofs.Ytbamnfladjkkcaa.Con
