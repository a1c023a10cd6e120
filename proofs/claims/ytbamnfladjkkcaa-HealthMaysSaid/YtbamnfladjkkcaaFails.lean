/- HealthFails: the run of the machine. -/
import Derived.Test.YtbamnfladjkkcaaHea4
import Derived.Below
import GoSem.Claim
namespace Go.Proofs.Ytbamnfladjkkcaa.Sim
open Go Go.RowKit
theorem wf64 {a : Int} (h : (Lit.int .i64 a).wf = true) : -9223372036854775808 ≤ a ∧ a ≤ 9223372036854775807 := by
  simp only [Lit.wf, Bool.and_eq_true, decide_eq_true_eq] at h
  exact h
theorem fails_calls (a0 a1 : Int) (a2 : Bool) (w : World) (h0 : (Lit.int .i64 a0).wf = true) (h1 : (Lit.int .i64 a1).wf = true) :
    Calls Try.prog 9 #[.int .i64 a0, .int .i64 a1, .bool a2] w fun e w' => e = .returned (.bool true) ∧ Below w.heap.size w w' := by
  obtain ⟨H', h⟩ := fails a0 a1 a2 (wf64 h0).1 (wf64 h0).2 (wf64 h1).1 (wf64 h1).2
  exact end_of mixed h (φ := fun _ => none) (fun lim => Rel.nil lim w) (fun i b hb => by simp at hb) (.cons (.int _ _) (.cons (.int _ _) (.cons (.bool _) .nil)))
end Go.Proofs.Ytbamnfladjkkcaa.Sim
