/-
  No cell of these rows narrows 'for every input' (looked for: loops, veiled, ifaces, maps, wideKeys, modest, calm, conditions, laid).
  DERIVED. THE GIVEN ROWS OF THIS SEAT. 12 by the template 'for every input the law returns true; each argument reads behind the call as it read before'; 0 by the template 'total and deterministic' (their statements: YtbamnfladjkkcaaTotals.lean).
  GIVEN WITH THE SEED: the statements are not yours to turn. If you find one false, say at which input.
  Laid BY PROGRAM, IN A SANDBOX (cutbox-rows.mjs): the forced cells as the released guide's own fill.sh prints them over the translation 43c963b13cf3b65f… (all of the seat's roots in one cut). By AI agents, Wed Nov 11 2026. No macro, syntax, notation, axiom, sorry.
-/
import Derived.Test.YtbamnfladjkkcaaChecked
import GoSem.Claim
import GoSem.ClaimJoined
import GoSem.ClaimMapViews
import Derived.JoinedTies
import Derived.KernelRfl
namespace Go.Proofs.Ytbamnfladjkkcaa
/- THE CELL 'sum', in the pinned program and in every row, IS THE sha256 OF THE DUMP (.gsa) THAT YtbamnfladjkkcaaProg.lean LOADS. Nothing in Lean hashes anything: it is a label: what it is worth is what the hold of that sum in a sandbox is worth. -/
noncomputable def Try.pinned : Pinned := { name := "ytbamnfladjkkcaa", sum := "43c963b13cf3b65f4edd849315d54be59b79b7be60f9270ea7cb970fe1207567", checked := Try.checked }
namespace Rows
def none {H : Type} : Left H := { results := [], args := [] }

/-- 'dynamolaw16.ContactPlays': WHATEVER THE INPUT: true; the input reads as it did. -/
def contactPlaysSpec : ChangeSpec := { name := "contactPlays", fn := fun _ => fun
  | [d1, d2, d3, d4] => { results := [.lit (.bool true)], args := [d1, d2, d3, d4] }
  | _ => none }
def contactPlaysRow : OpenClaim := { program := "ytbamnfladjkkcaa", sum := "43c963b13cf3b65f4edd849315d54be59b79b7be60f9270ea7cb970fe1207567", func := "dynamo/dynamolaw16.ContactPlays", spec := "contactPlays", apart := false }
def ContactPlaysSaid : Prop := contactPlaysRow.holds Try.pinned (OpenSpec.ofChange contactPlaysSpec)

/-- ITS FALSE NEIGHBOUR: 'it returns false'. Refute it at one input. -/
def contactPlaysWrong : ChangeSpec := { name := "contactPlays", fn := fun _ => fun
  | [d1, d2, d3, d4] => { results := [.lit (.bool false)], args := [d1, d2, d3, d4] }
  | _ => none }
def ContactPlaysWrongFalsely : Prop := contactPlaysRow.holds Try.pinned (OpenSpec.ofChange contactPlaysWrong)

/-- 'dynamolaw16.ContactProves': WHATEVER THE INPUT: true; the input reads as it did. -/
def contactProvesSpec : ChangeSpec := { name := "contactProves", fn := fun _ => fun
  | [d1, d2, d3, d4, d5] => { results := [.lit (.bool true)], args := [d1, d2, d3, d4, d5] }
  | _ => none }
def contactProvesRow : OpenClaim := { program := "ytbamnfladjkkcaa", sum := "43c963b13cf3b65f4edd849315d54be59b79b7be60f9270ea7cb970fe1207567", func := "dynamo/dynamolaw16.ContactProves", spec := "contactProves", apart := false }
def ContactProvesSaid : Prop := contactProvesRow.holds Try.pinned (OpenSpec.ofChange contactProvesSpec)

/-- ITS FALSE NEIGHBOUR: 'it returns false'. Refute it at one input. -/
def contactProvesWrong : ChangeSpec := { name := "contactProves", fn := fun _ => fun
  | [d1, d2, d3, d4, d5] => { results := [.lit (.bool false)], args := [d1, d2, d3, d4, d5] }
  | _ => none }
def ContactProvesWrongFalsely : Prop := contactProvesRow.holds Try.pinned (OpenSpec.ofChange contactProvesWrong)

/-- 'dynamolaw16.ContactJams': WHATEVER THE INPUT: true; the input reads as it did. -/
def contactJamsSpec : ChangeSpec := { name := "contactJams", fn := fun _ => fun
  | [d1, d2, d3, d4] => { results := [.lit (.bool true)], args := [d1, d2, d3, d4] }
  | _ => none }
def contactJamsRow : OpenClaim := { program := "ytbamnfladjkkcaa", sum := "43c963b13cf3b65f4edd849315d54be59b79b7be60f9270ea7cb970fe1207567", func := "dynamo/dynamolaw16.ContactJams", spec := "contactJams", apart := false }
def ContactJamsSaid : Prop := contactJamsRow.holds Try.pinned (OpenSpec.ofChange contactJamsSpec)

/-- ITS FALSE NEIGHBOUR: 'it returns false'. Refute it at one input. -/
def contactJamsWrong : ChangeSpec := { name := "contactJams", fn := fun _ => fun
  | [d1, d2, d3, d4] => { results := [.lit (.bool false)], args := [d1, d2, d3, d4] }
  | _ => none }
def ContactJamsWrongFalsely : Prop := contactJamsRow.holds Try.pinned (OpenSpec.ofChange contactJamsWrong)

/-- 'dynamolaw16.ContactFresh': WHATEVER THE INPUT: true; the input reads as it did. -/
def contactFreshSpec : ChangeSpec := { name := "contactFresh", fn := fun _ => fun
  | [d1, d2, d3, d4] => { results := [.lit (.bool true)], args := [d1, d2, d3, d4] }
  | _ => none }
def contactFreshRow : OpenClaim := { program := "ytbamnfladjkkcaa", sum := "43c963b13cf3b65f4edd849315d54be59b79b7be60f9270ea7cb970fe1207567", func := "dynamo/dynamolaw16.ContactFresh", spec := "contactFresh", apart := false }
def ContactFreshSaid : Prop := contactFreshRow.holds Try.pinned (OpenSpec.ofChange contactFreshSpec)

/-- ITS FALSE NEIGHBOUR: 'it returns false'. Refute it at one input. -/
def contactFreshWrong : ChangeSpec := { name := "contactFresh", fn := fun _ => fun
  | [d1, d2, d3, d4] => { results := [.lit (.bool false)], args := [d1, d2, d3, d4] }
  | _ => none }
def ContactFreshWrongFalsely : Prop := contactFreshRow.holds Try.pinned (OpenSpec.ofChange contactFreshWrong)

/-- 'dynamolaw16.ContactOpens': WHATEVER THE INPUT: true; the input reads as it did. -/
def contactOpensSpec : ChangeSpec := { name := "contactOpens", fn := fun _ => fun
  | [d1, d2] => { results := [.lit (.bool true)], args := [d1, d2] }
  | _ => none }
def contactOpensRow : OpenClaim := { program := "ytbamnfladjkkcaa", sum := "43c963b13cf3b65f4edd849315d54be59b79b7be60f9270ea7cb970fe1207567", func := "dynamo/dynamolaw16.ContactOpens", spec := "contactOpens", apart := false }
def ContactOpensSaid : Prop := contactOpensRow.holds Try.pinned (OpenSpec.ofChange contactOpensSpec)

/-- ITS FALSE NEIGHBOUR: 'it returns false'. Refute it at one input. -/
def contactOpensWrong : ChangeSpec := { name := "contactOpens", fn := fun _ => fun
  | [d1, d2] => { results := [.lit (.bool false)], args := [d1, d2] }
  | _ => none }
def ContactOpensWrongFalsely : Prop := contactOpensRow.holds Try.pinned (OpenSpec.ofChange contactOpensWrong)

/-- 'dynamolaw16.ContactSets': WHATEVER THE INPUT: true; the input reads as it did. -/
def contactSetsSpec : ChangeSpec := { name := "contactSets", fn := fun _ => fun
  | [d1, d2, d3, d4] => { results := [.lit (.bool true)], args := [d1, d2, d3, d4] }
  | _ => none }
def contactSetsRow : OpenClaim := { program := "ytbamnfladjkkcaa", sum := "43c963b13cf3b65f4edd849315d54be59b79b7be60f9270ea7cb970fe1207567", func := "dynamo/dynamolaw16.ContactSets", spec := "contactSets", apart := false }
def ContactSetsSaid : Prop := contactSetsRow.holds Try.pinned (OpenSpec.ofChange contactSetsSpec)

/-- ITS FALSE NEIGHBOUR: 'it returns false'. Refute it at one input. -/
def contactSetsWrong : ChangeSpec := { name := "contactSets", fn := fun _ => fun
  | [d1, d2, d3, d4] => { results := [.lit (.bool false)], args := [d1, d2, d3, d4] }
  | _ => none }
def ContactSetsWrongFalsely : Prop := contactSetsRow.holds Try.pinned (OpenSpec.ofChange contactSetsWrong)

/-- 'dynamolaw17.HealthFails': WHATEVER THE INPUT: true; the input reads as it did. -/
def healthFailsSpec : ChangeSpec := { name := "healthFails", fn := fun _ => fun
  | [d1, d2, d3] => { results := [.lit (.bool true)], args := [d1, d2, d3] }
  | _ => none }
def healthFailsRow : OpenClaim := { program := "ytbamnfladjkkcaa", sum := "43c963b13cf3b65f4edd849315d54be59b79b7be60f9270ea7cb970fe1207567", func := "dynamo/dynamolaw17.HealthFails", spec := "healthFails", apart := false }
def HealthFailsSaid : Prop := healthFailsRow.holds Try.pinned (OpenSpec.ofChange healthFailsSpec)

/-- ITS FALSE NEIGHBOUR: 'it returns false'. Refute it at one input. -/
def healthFailsWrong : ChangeSpec := { name := "healthFails", fn := fun _ => fun
  | [d1, d2, d3] => { results := [.lit (.bool false)], args := [d1, d2, d3] }
  | _ => none }
def HealthFailsWrongFalsely : Prop := healthFailsRow.holds Try.pinned (OpenSpec.ofChange healthFailsWrong)

/-- 'dynamolaw17.HealthUps': WHATEVER THE INPUT: true; the input reads as it did. -/
def healthUpsSpec : ChangeSpec := { name := "healthUps", fn := fun _ => fun
  | [d1, d2, d3, d4] => { results := [.lit (.bool true)], args := [d1, d2, d3, d4] }
  | _ => none }
def healthUpsRow : OpenClaim := { program := "ytbamnfladjkkcaa", sum := "43c963b13cf3b65f4edd849315d54be59b79b7be60f9270ea7cb970fe1207567", func := "dynamo/dynamolaw17.HealthUps", spec := "healthUps", apart := false }
def HealthUpsSaid : Prop := healthUpsRow.holds Try.pinned (OpenSpec.ofChange healthUpsSpec)

/-- ITS FALSE NEIGHBOUR: 'it returns false'. Refute it at one input. -/
def healthUpsWrong : ChangeSpec := { name := "healthUps", fn := fun _ => fun
  | [d1, d2, d3, d4] => { results := [.lit (.bool false)], args := [d1, d2, d3, d4] }
  | _ => none }
def HealthUpsWrongFalsely : Prop := healthUpsRow.holds Try.pinned (OpenSpec.ofChange healthUpsWrong)

/-- 'dynamolaw17.HealthMays': WHATEVER THE INPUT: true; the input reads as it did. -/
def healthMaysSpec : ChangeSpec := { name := "healthMays", fn := fun _ => fun
  | [d1, d2] => { results := [.lit (.bool true)], args := [d1, d2] }
  | _ => none }
def healthMaysRow : OpenClaim := { program := "ytbamnfladjkkcaa", sum := "43c963b13cf3b65f4edd849315d54be59b79b7be60f9270ea7cb970fe1207567", func := "dynamo/dynamolaw17.HealthMays", spec := "healthMays", apart := false }
def HealthMaysSaid : Prop := healthMaysRow.holds Try.pinned (OpenSpec.ofChange healthMaysSpec)

/-- ITS FALSE NEIGHBOUR: 'it returns false'. Refute it at one input. -/
def healthMaysWrong : ChangeSpec := { name := "healthMays", fn := fun _ => fun
  | [d1, d2] => { results := [.lit (.bool false)], args := [d1, d2] }
  | _ => none }
def HealthMaysWrongFalsely : Prop := healthMaysRow.holds Try.pinned (OpenSpec.ofChange healthMaysWrong)

/-- 'dynamolaw4.VoteSays': WHATEVER THE INPUT: true; the input reads as it did. -/
def voteSaysSpec : ChangeSpec := { name := "voteSays", fn := fun _ => fun
  | [d1, d2, d3, d4, d5] => { results := [.lit (.bool true)], args := [d1, d2, d3, d4, d5] }
  | _ => none }
def voteSaysRow : OpenClaim := { program := "ytbamnfladjkkcaa", sum := "43c963b13cf3b65f4edd849315d54be59b79b7be60f9270ea7cb970fe1207567", func := "dynamo/dynamolaw4.VoteSays", spec := "voteSays", apart := false }
def VoteSaysSaid : Prop := voteSaysRow.holds Try.pinned (OpenSpec.ofChange voteSaysSpec)

/-- ITS FALSE NEIGHBOUR: 'it returns false'. Refute it at one input. -/
def voteSaysWrong : ChangeSpec := { name := "voteSays", fn := fun _ => fun
  | [d1, d2, d3, d4, d5] => { results := [.lit (.bool false)], args := [d1, d2, d3, d4, d5] }
  | _ => none }
def VoteSaysWrongFalsely : Prop := voteSaysRow.holds Try.pinned (OpenSpec.ofChange voteSaysWrong)

/-- 'dynamolaw4.VoteHolds': WHATEVER THE INPUT: true; the input reads as it did. -/
def voteHoldsSpec : ChangeSpec := { name := "voteHolds", fn := fun _ => fun
  | [d1, d2, d3, d4, d5] => { results := [.lit (.bool true)], args := [d1, d2, d3, d4, d5] }
  | _ => none }
def voteHoldsRow : OpenClaim := { program := "ytbamnfladjkkcaa", sum := "43c963b13cf3b65f4edd849315d54be59b79b7be60f9270ea7cb970fe1207567", func := "dynamo/dynamolaw4.VoteHolds", spec := "voteHolds", apart := false }
def VoteHoldsSaid : Prop := voteHoldsRow.holds Try.pinned (OpenSpec.ofChange voteHoldsSpec)

/-- ITS FALSE NEIGHBOUR: 'it returns false'. Refute it at one input. -/
def voteHoldsWrong : ChangeSpec := { name := "voteHolds", fn := fun _ => fun
  | [d1, d2, d3, d4, d5] => { results := [.lit (.bool false)], args := [d1, d2, d3, d4, d5] }
  | _ => none }
def VoteHoldsWrongFalsely : Prop := voteHoldsRow.holds Try.pinned (OpenSpec.ofChange voteHoldsWrong)

/-- 'dynamolaw4.VoteCovers': WHATEVER THE INPUT: true; the input reads as it did. -/
def voteCoversSpec : ChangeSpec := { name := "voteCovers", fn := fun _ => fun
  | [d1, d2] => { results := [.lit (.bool true)], args := [d1, d2] }
  | _ => none }
def voteCoversRow : OpenClaim := { program := "ytbamnfladjkkcaa", sum := "43c963b13cf3b65f4edd849315d54be59b79b7be60f9270ea7cb970fe1207567", func := "dynamo/dynamolaw4.VoteCovers", spec := "voteCovers", apart := false }
def VoteCoversSaid : Prop := voteCoversRow.holds Try.pinned (OpenSpec.ofChange voteCoversSpec)

/-- ITS FALSE NEIGHBOUR: 'it returns false'. Refute it at one input. -/
def voteCoversWrong : ChangeSpec := { name := "voteCovers", fn := fun _ => fun
  | [d1, d2] => { results := [.lit (.bool false)], args := [d1, d2] }
  | _ => none }
def VoteCoversWrongFalsely : Prop := voteCoversRow.holds Try.pinned (OpenSpec.ofChange voteCoversWrong)

/- THE SECOND FORM. 'bulk': how many values and letters a reading holds, each counted each time it is reached (what is shared counts as often as it is met; a slice's spare places count too). A statement '..UptoSaid' is the law's where the arguments, and the package variables that the reading takes, are together of bulk at most 1048576: NARROWER than '..Said'. Prove '..Said' where nothing that the law and all that it calls make is longer than what came in: it says more and counts as full. Else prove '..UptoSaid'. A law counts once. -/
mutual
def uptoBulk {H : Type} : DataW H → Nat
  | .lit (.string bytes) => bytes.length + 1
  | .lit _ => 1
  | .nil => 1
  | .ptr d => uptoBulk d + 1
  | .slice elems spare => uptoBulkAll elems + uptoBulkAll spare + 1
  | .agg parts => uptoBulkAll parts + 1
  | .iface _ d => uptoBulk d + 1
  | .map entries => uptoBulkEntries entries + 1
  | .held _ => 1
def uptoBulkAll {H : Type} : List (DataW H) → Nat
  | [] => 0
  | d :: r => uptoBulk d + uptoBulkAll r
def uptoBulkEntries {H : Type} : List (Lit × DataW H) → Nat
  | [] => 0
  | x :: r => uptoBulkEntry x + uptoBulkEntries r
def uptoBulkEntry {H : Type} : Lit × DataW H → Nat
  | (.string bytes, d) => bytes.length + uptoBulk d + 1
  | (_, d) => uptoBulk d + 1
 end
def uptoSmall : (H : Type) → List (DataW H) → Bool := fun _ ds => decide (uptoBulkAll ds ≤ 1048576)
def OpenSpec.upto (s : _root_.Go.ChangeSpec) : _root_.Go.OpenSpec := { _root_.Go.OpenSpec.ofChange s with cond := some uptoSmall }

/-- 'dynamolaw16.ContactPlays', WHERE WHAT IT READS IS OF BULK AT MOST 1048576: true; the input reads as it did. -/
def contactPlaysUptoRow : OpenClaim := { program := "ytbamnfladjkkcaa", sum := "43c963b13cf3b65f4edd849315d54be59b79b7be60f9270ea7cb970fe1207567", func := "dynamo/dynamolaw16.ContactPlays", spec := "contactPlays", apart := false, narrowed := true }
def ContactPlaysUptoSaid : Prop := contactPlaysUptoRow.holds Try.pinned (OpenSpec.upto contactPlaysSpec)

/-- 'dynamolaw16.ContactProves', WHERE WHAT IT READS IS OF BULK AT MOST 1048576: true; the input reads as it did. -/
def contactProvesUptoRow : OpenClaim := { program := "ytbamnfladjkkcaa", sum := "43c963b13cf3b65f4edd849315d54be59b79b7be60f9270ea7cb970fe1207567", func := "dynamo/dynamolaw16.ContactProves", spec := "contactProves", apart := false, narrowed := true }
def ContactProvesUptoSaid : Prop := contactProvesUptoRow.holds Try.pinned (OpenSpec.upto contactProvesSpec)

/-- 'dynamolaw16.ContactJams', WHERE WHAT IT READS IS OF BULK AT MOST 1048576: true; the input reads as it did. -/
def contactJamsUptoRow : OpenClaim := { program := "ytbamnfladjkkcaa", sum := "43c963b13cf3b65f4edd849315d54be59b79b7be60f9270ea7cb970fe1207567", func := "dynamo/dynamolaw16.ContactJams", spec := "contactJams", apart := false, narrowed := true }
def ContactJamsUptoSaid : Prop := contactJamsUptoRow.holds Try.pinned (OpenSpec.upto contactJamsSpec)

/-- 'dynamolaw16.ContactFresh', WHERE WHAT IT READS IS OF BULK AT MOST 1048576: true; the input reads as it did. -/
def contactFreshUptoRow : OpenClaim := { program := "ytbamnfladjkkcaa", sum := "43c963b13cf3b65f4edd849315d54be59b79b7be60f9270ea7cb970fe1207567", func := "dynamo/dynamolaw16.ContactFresh", spec := "contactFresh", apart := false, narrowed := true }
def ContactFreshUptoSaid : Prop := contactFreshUptoRow.holds Try.pinned (OpenSpec.upto contactFreshSpec)

/-- 'dynamolaw16.ContactOpens', WHERE WHAT IT READS IS OF BULK AT MOST 1048576: true; the input reads as it did. -/
def contactOpensUptoRow : OpenClaim := { program := "ytbamnfladjkkcaa", sum := "43c963b13cf3b65f4edd849315d54be59b79b7be60f9270ea7cb970fe1207567", func := "dynamo/dynamolaw16.ContactOpens", spec := "contactOpens", apart := false, narrowed := true }
def ContactOpensUptoSaid : Prop := contactOpensUptoRow.holds Try.pinned (OpenSpec.upto contactOpensSpec)

/-- 'dynamolaw16.ContactSets', WHERE WHAT IT READS IS OF BULK AT MOST 1048576: true; the input reads as it did. -/
def contactSetsUptoRow : OpenClaim := { program := "ytbamnfladjkkcaa", sum := "43c963b13cf3b65f4edd849315d54be59b79b7be60f9270ea7cb970fe1207567", func := "dynamo/dynamolaw16.ContactSets", spec := "contactSets", apart := false, narrowed := true }
def ContactSetsUptoSaid : Prop := contactSetsUptoRow.holds Try.pinned (OpenSpec.upto contactSetsSpec)

/-- 'dynamolaw17.HealthFails', WHERE WHAT IT READS IS OF BULK AT MOST 1048576: true; the input reads as it did. -/
def healthFailsUptoRow : OpenClaim := { program := "ytbamnfladjkkcaa", sum := "43c963b13cf3b65f4edd849315d54be59b79b7be60f9270ea7cb970fe1207567", func := "dynamo/dynamolaw17.HealthFails", spec := "healthFails", apart := false, narrowed := true }
def HealthFailsUptoSaid : Prop := healthFailsUptoRow.holds Try.pinned (OpenSpec.upto healthFailsSpec)

/-- 'dynamolaw17.HealthUps', WHERE WHAT IT READS IS OF BULK AT MOST 1048576: true; the input reads as it did. -/
def healthUpsUptoRow : OpenClaim := { program := "ytbamnfladjkkcaa", sum := "43c963b13cf3b65f4edd849315d54be59b79b7be60f9270ea7cb970fe1207567", func := "dynamo/dynamolaw17.HealthUps", spec := "healthUps", apart := false, narrowed := true }
def HealthUpsUptoSaid : Prop := healthUpsUptoRow.holds Try.pinned (OpenSpec.upto healthUpsSpec)

/-- 'dynamolaw17.HealthMays', WHERE WHAT IT READS IS OF BULK AT MOST 1048576: true; the input reads as it did. -/
def healthMaysUptoRow : OpenClaim := { program := "ytbamnfladjkkcaa", sum := "43c963b13cf3b65f4edd849315d54be59b79b7be60f9270ea7cb970fe1207567", func := "dynamo/dynamolaw17.HealthMays", spec := "healthMays", apart := false, narrowed := true }
def HealthMaysUptoSaid : Prop := healthMaysUptoRow.holds Try.pinned (OpenSpec.upto healthMaysSpec)

/-- 'dynamolaw4.VoteSays', WHERE WHAT IT READS IS OF BULK AT MOST 1048576: true; the input reads as it did. -/
def voteSaysUptoRow : OpenClaim := { program := "ytbamnfladjkkcaa", sum := "43c963b13cf3b65f4edd849315d54be59b79b7be60f9270ea7cb970fe1207567", func := "dynamo/dynamolaw4.VoteSays", spec := "voteSays", apart := false, narrowed := true }
def VoteSaysUptoSaid : Prop := voteSaysUptoRow.holds Try.pinned (OpenSpec.upto voteSaysSpec)

/-- 'dynamolaw4.VoteHolds', WHERE WHAT IT READS IS OF BULK AT MOST 1048576: true; the input reads as it did. -/
def voteHoldsUptoRow : OpenClaim := { program := "ytbamnfladjkkcaa", sum := "43c963b13cf3b65f4edd849315d54be59b79b7be60f9270ea7cb970fe1207567", func := "dynamo/dynamolaw4.VoteHolds", spec := "voteHolds", apart := false, narrowed := true }
def VoteHoldsUptoSaid : Prop := voteHoldsUptoRow.holds Try.pinned (OpenSpec.upto voteHoldsSpec)

/-- 'dynamolaw4.VoteCovers', WHERE WHAT IT READS IS OF BULK AT MOST 1048576: true; the input reads as it did. -/
def voteCoversUptoRow : OpenClaim := { program := "ytbamnfladjkkcaa", sum := "43c963b13cf3b65f4edd849315d54be59b79b7be60f9270ea7cb970fe1207567", func := "dynamo/dynamolaw4.VoteCovers", spec := "voteCovers", apart := false, narrowed := true }
def VoteCoversUptoSaid : Prop := voteCoversUptoRow.holds Try.pinned (OpenSpec.upto voteCoversSpec)

end Rows
end Go.Proofs.Ytbamnfladjkkcaa
