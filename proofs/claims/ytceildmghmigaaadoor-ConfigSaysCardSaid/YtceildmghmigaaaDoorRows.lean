/-
  NARROWER THAN 'FOR EVERY INPUT', by the rows' own cells (each row's printed sentence says how): ConfigOne: laid · ConfigParts: laid · ConfigSays: laid · ConfigBounds: laid.
  DERIVED. THE GIVEN ROWS OF THIS SEAT. 4 by the template 'for every input the law returns true; each argument reads behind the call as it read before'; 0 by the template 'total and deterministic' (their statements: YtceildmghmigaaaDoorTotals.lean).
  GIVEN WITH THE SEED: the statements are not yours to turn. If you find one false, say at which input.
  Laid BY PROGRAM, IN A SANDBOX (cutbox-rows.mjs): the forced cells as the released guide's own fill.sh prints them over the translation 8de96cc1e8b6956c… (all of the seat's roots in one cut). By AI agents, Wed Nov 11 2026. No macro, syntax, notation, axiom, sorry.
-/
import Derived.Test.YtceildmghmigaaaDoorChecked
import GoSem.Claim
import GoSem.ClaimJoined
import GoSem.ClaimMapViews
import Derived.JoinedTies
import Derived.KernelRfl
namespace Go.Proofs.YtceildmghmigaaaDoor
/- THE CELL 'sum', in the pinned program and in every row, IS THE sha256 OF THE DUMP (.gsa) THAT YtceildmghmigaaaDoorProg.lean LOADS. Nothing in Lean hashes anything: it is a label: what it is worth is what the hold of that sum in a sandbox is worth. -/
noncomputable def Tryd.pinned : Pinned := { name := "ytceildmghmigaaadoor", sum := "8de96cc1e8b6956cacedb70786b8910428010e9252956f035681e1d8cb3dcb1e", checked := Tryd.checked }
namespace Rows
def none {H : Type} : Left H := { results := [], args := [] }

/- WHAT THE LISTED PACKAGE-LEVEL VARIABLES READ AS WHEN THE CALL BEGINS. Each datum BY PROGRAM (the guide's laid-datum.mjs) off the statement by which the dump's own 'gosem.cut.vars' lays the variable. In a bare row this is a premise. The card (YtceildmghmigaaaDoorCards.lean) ties it to the program's text. -/
def laid_dynamo_api_ErrRange {H : Type} : DataW H := .iface "*errors.errorString" (.ptr (.agg [.lit (.string [97, 32, 110, 117, 109, 98, 101, 114, 32, 111, 117, 116, 32, 111, 102, 32, 105, 116, 115, 32, 114, 97, 110, 103, 101])]))
def laid_dynamo_api_ErrLong {H : Type} : DataW H := .iface "*errors.errorString" (.ptr (.agg [.lit (.string [109, 111, 114, 101, 32, 116, 104, 97, 110, 32, 109, 97, 121, 32, 98, 101])]))
def laid_dynamo_api_ErrShort {H : Type} : DataW H := .iface "*errors.errorString" (.ptr (.agg [.lit (.string [108, 101, 115, 115, 32, 116, 104, 97, 110, 32, 104, 97, 115, 32, 116, 111, 32, 98, 101])]))
def laid_dynamo_api_ErrSum {H : Type} : DataW H := .iface "*errors.errorString" (.ptr (.agg [.lit (.string [97, 32, 115, 117, 109, 32, 116, 104, 97, 116, 32, 100, 111, 101, 115, 32, 110, 111, 116, 32, 102, 105, 116])]))
def laid_dynamo_api_ErrTable {H : Type} : DataW H := .iface "*errors.errorString" (.ptr (.agg [.lit (.string [97, 32, 116, 97, 98, 108, 101, 32, 116, 104, 97, 116, 32, 100, 111, 101, 115, 32, 110, 111, 116, 32, 114, 105, 115, 101])]))
def laid_dynamo_api_ErrConfig {H : Type} : DataW H := .iface "*errors.errorString" (.ptr (.agg [.lit (.string [97, 32, 99, 111, 110, 102, 105, 103, 117, 114, 97, 116, 105, 111, 110, 32, 116, 104, 97, 116, 32, 99, 97, 110, 39, 116, 32, 98, 101])]))
def laid_dynamo_api_ErrNone {H : Type} : DataW H := .iface "*errors.errorString" (.ptr (.agg [.lit (.string [110, 111, 32, 114, 101, 99, 111, 114, 100])]))

/-- 'dynamolaw27.ConfigOne': WHATEVER THE INPUT: true; the input reads as it did. -/
def configOneSpec : ChangeSpec := { name := "configOne", fn := fun _ => fun
  | [d1, d2, d3, d4, d5] => { results := [.lit (.bool true)], args := [d1, d2, d3, d4, d5] }
  | _ => none }
def configOneRow : OpenClaim := { program := "ytceildmghmigaaadoor", sum := "8de96cc1e8b6956cacedb70786b8910428010e9252956f035681e1d8cb3dcb1e", func := "dynamo/dynamolaw27.ConfigOne", spec := "configOne", named := ["dynamo/api.ErrConfig", "dynamo/api.ErrShort", "dynamo/api.ErrLong", "dynamo/api.ErrRange", "dynamo/api.ErrTable", "dynamo/api.ErrSum", "dynamo/api.ErrNone"], apart := false, laid := [("dynamo/api.ErrRange", laid_dynamo_api_ErrRange), ("dynamo/api.ErrLong", laid_dynamo_api_ErrLong), ("dynamo/api.ErrShort", laid_dynamo_api_ErrShort), ("dynamo/api.ErrSum", laid_dynamo_api_ErrSum), ("dynamo/api.ErrTable", laid_dynamo_api_ErrTable), ("dynamo/api.ErrConfig", laid_dynamo_api_ErrConfig), ("dynamo/api.ErrNone", laid_dynamo_api_ErrNone)] }
def ConfigOneSaid : Prop := configOneRow.holds Tryd.pinned (OpenSpec.ofChange configOneSpec)

/-- ITS FALSE NEIGHBOUR: 'it returns false'. Refute it at one input. -/
def configOneWrong : ChangeSpec := { name := "configOne", fn := fun _ => fun
  | [d1, d2, d3, d4, d5] => { results := [.lit (.bool false)], args := [d1, d2, d3, d4, d5] }
  | _ => none }
def ConfigOneWrongFalsely : Prop := configOneRow.holds Tryd.pinned (OpenSpec.ofChange configOneWrong)

/-- 'dynamolaw27.ConfigParts': WHATEVER THE INPUT: true; the input reads as it did. -/
def configPartsSpec : ChangeSpec := { name := "configParts", fn := fun _ => fun
  | [d1, d2, d3, d4] => { results := [.lit (.bool true)], args := [d1, d2, d3, d4] }
  | _ => none }
def configPartsRow : OpenClaim := { program := "ytceildmghmigaaadoor", sum := "8de96cc1e8b6956cacedb70786b8910428010e9252956f035681e1d8cb3dcb1e", func := "dynamo/dynamolaw27.ConfigParts", spec := "configParts", named := ["dynamo/api.ErrConfig", "dynamo/api.ErrShort", "dynamo/api.ErrLong", "dynamo/api.ErrRange", "dynamo/api.ErrTable", "dynamo/api.ErrSum", "dynamo/api.ErrNone"], apart := false, laid := [("dynamo/api.ErrRange", laid_dynamo_api_ErrRange), ("dynamo/api.ErrLong", laid_dynamo_api_ErrLong), ("dynamo/api.ErrShort", laid_dynamo_api_ErrShort), ("dynamo/api.ErrSum", laid_dynamo_api_ErrSum), ("dynamo/api.ErrTable", laid_dynamo_api_ErrTable), ("dynamo/api.ErrConfig", laid_dynamo_api_ErrConfig), ("dynamo/api.ErrNone", laid_dynamo_api_ErrNone)] }
def ConfigPartsSaid : Prop := configPartsRow.holds Tryd.pinned (OpenSpec.ofChange configPartsSpec)

/-- ITS FALSE NEIGHBOUR: 'it returns false'. Refute it at one input. -/
def configPartsWrong : ChangeSpec := { name := "configParts", fn := fun _ => fun
  | [d1, d2, d3, d4] => { results := [.lit (.bool false)], args := [d1, d2, d3, d4] }
  | _ => none }
def ConfigPartsWrongFalsely : Prop := configPartsRow.holds Tryd.pinned (OpenSpec.ofChange configPartsWrong)

/-- 'dynamolaw27.ConfigSays': WHATEVER THE INPUT: true; the input reads as it did. -/
def configSaysSpec : ChangeSpec := { name := "configSays", fn := fun _ => fun
  | [d1, d2, d3, d4] => { results := [.lit (.bool true)], args := [d1, d2, d3, d4] }
  | _ => none }
def configSaysRow : OpenClaim := { program := "ytceildmghmigaaadoor", sum := "8de96cc1e8b6956cacedb70786b8910428010e9252956f035681e1d8cb3dcb1e", func := "dynamo/dynamolaw27.ConfigSays", spec := "configSays", named := ["dynamo/api.ErrConfig", "dynamo/api.ErrShort", "dynamo/api.ErrLong", "dynamo/api.ErrRange", "dynamo/api.ErrTable", "dynamo/api.ErrSum", "dynamo/api.ErrNone"], apart := false, laid := [("dynamo/api.ErrRange", laid_dynamo_api_ErrRange), ("dynamo/api.ErrLong", laid_dynamo_api_ErrLong), ("dynamo/api.ErrShort", laid_dynamo_api_ErrShort), ("dynamo/api.ErrSum", laid_dynamo_api_ErrSum), ("dynamo/api.ErrTable", laid_dynamo_api_ErrTable), ("dynamo/api.ErrConfig", laid_dynamo_api_ErrConfig), ("dynamo/api.ErrNone", laid_dynamo_api_ErrNone)] }
def ConfigSaysSaid : Prop := configSaysRow.holds Tryd.pinned (OpenSpec.ofChange configSaysSpec)

/-- ITS FALSE NEIGHBOUR: 'it returns false'. Refute it at one input. -/
def configSaysWrong : ChangeSpec := { name := "configSays", fn := fun _ => fun
  | [d1, d2, d3, d4] => { results := [.lit (.bool false)], args := [d1, d2, d3, d4] }
  | _ => none }
def ConfigSaysWrongFalsely : Prop := configSaysRow.holds Tryd.pinned (OpenSpec.ofChange configSaysWrong)

/-- 'dynamolaw27.ConfigBounds': WHATEVER THE INPUT: true; the input reads as it did. -/
def configBoundsSpec : ChangeSpec := { name := "configBounds", fn := fun _ => fun
  | [d1, d2, d3] => { results := [.lit (.bool true)], args := [d1, d2, d3] }
  | _ => none }
def configBoundsRow : OpenClaim := { program := "ytceildmghmigaaadoor", sum := "8de96cc1e8b6956cacedb70786b8910428010e9252956f035681e1d8cb3dcb1e", func := "dynamo/dynamolaw27.ConfigBounds", spec := "configBounds", named := ["dynamo/api.ErrConfig", "dynamo/api.ErrShort", "dynamo/api.ErrLong", "dynamo/api.ErrRange", "dynamo/api.ErrTable", "dynamo/api.ErrSum", "dynamo/api.ErrNone"], apart := false, laid := [("dynamo/api.ErrRange", laid_dynamo_api_ErrRange), ("dynamo/api.ErrLong", laid_dynamo_api_ErrLong), ("dynamo/api.ErrShort", laid_dynamo_api_ErrShort), ("dynamo/api.ErrSum", laid_dynamo_api_ErrSum), ("dynamo/api.ErrTable", laid_dynamo_api_ErrTable), ("dynamo/api.ErrConfig", laid_dynamo_api_ErrConfig), ("dynamo/api.ErrNone", laid_dynamo_api_ErrNone)] }
def ConfigBoundsSaid : Prop := configBoundsRow.holds Tryd.pinned (OpenSpec.ofChange configBoundsSpec)

/-- ITS FALSE NEIGHBOUR: 'it returns false'. Refute it at one input. -/
def configBoundsWrong : ChangeSpec := { name := "configBounds", fn := fun _ => fun
  | [d1, d2, d3] => { results := [.lit (.bool false)], args := [d1, d2, d3] }
  | _ => none }
def ConfigBoundsWrongFalsely : Prop := configBoundsRow.holds Tryd.pinned (OpenSpec.ofChange configBoundsWrong)

/- THE SECOND FORM. 'bulk': how many values and letters a reading holds, each counted each time it is reached (what is shared counts as often as it is met; a slice's spare places count too). A statement '..UptoSaid' is the law's where the arguments, and the package variables that the reading takes, are together of bulk at most 1048576: NARROWER than '..Said'. Prove '..Said' where nothing that the law and all that it calls make is longer than what came in: it says more and counts as full. Else prove '..UptoSaid'. A law counts once. -/
mutual
def uptoBulk {H : Type} : DataW H → Nat
  | .lit (.string bytes) => bytes.length + 1
  | .lit _ => 1
  | .nil => 1
  | .ptr d => uptoBulk d + 1
  | .slice elems spare => uptoBulkAll elems + uptoBulkAll spare + 1
  | .agg parts => uptoBulkAll parts + 1
  | .iface _ d => uptoBulk d + 1
  | .map entries => uptoBulkEntries entries + 1
  | .held _ => 1
def uptoBulkAll {H : Type} : List (DataW H) → Nat
  | [] => 0
  | d :: r => uptoBulk d + uptoBulkAll r
def uptoBulkEntries {H : Type} : List (Lit × DataW H) → Nat
  | [] => 0
  | x :: r => uptoBulkEntry x + uptoBulkEntries r
def uptoBulkEntry {H : Type} : Lit × DataW H → Nat
  | (.string bytes, d) => bytes.length + uptoBulk d + 1
  | (_, d) => uptoBulk d + 1
 end
def uptoSmall : (H : Type) → List (DataW H) → Bool := fun _ ds => decide (uptoBulkAll ds ≤ 1048576)
def OpenSpec.upto (s : _root_.Go.ChangeSpec) : _root_.Go.OpenSpec := { _root_.Go.OpenSpec.ofChange s with cond := some uptoSmall }

/-- 'dynamolaw27.ConfigOne', WHERE WHAT IT READS IS OF BULK AT MOST 1048576: true; the input reads as it did. -/
def configOneUptoRow : OpenClaim := { program := "ytceildmghmigaaadoor", sum := "8de96cc1e8b6956cacedb70786b8910428010e9252956f035681e1d8cb3dcb1e", func := "dynamo/dynamolaw27.ConfigOne", spec := "configOne", named := ["dynamo/api.ErrConfig", "dynamo/api.ErrShort", "dynamo/api.ErrLong", "dynamo/api.ErrRange", "dynamo/api.ErrTable", "dynamo/api.ErrSum", "dynamo/api.ErrNone"], apart := false, laid := [("dynamo/api.ErrRange", laid_dynamo_api_ErrRange), ("dynamo/api.ErrLong", laid_dynamo_api_ErrLong), ("dynamo/api.ErrShort", laid_dynamo_api_ErrShort), ("dynamo/api.ErrSum", laid_dynamo_api_ErrSum), ("dynamo/api.ErrTable", laid_dynamo_api_ErrTable), ("dynamo/api.ErrConfig", laid_dynamo_api_ErrConfig), ("dynamo/api.ErrNone", laid_dynamo_api_ErrNone)], narrowed := true }
def ConfigOneUptoSaid : Prop := configOneUptoRow.holds Tryd.pinned (OpenSpec.upto configOneSpec)

/-- 'dynamolaw27.ConfigParts', WHERE WHAT IT READS IS OF BULK AT MOST 1048576: true; the input reads as it did. -/
def configPartsUptoRow : OpenClaim := { program := "ytceildmghmigaaadoor", sum := "8de96cc1e8b6956cacedb70786b8910428010e9252956f035681e1d8cb3dcb1e", func := "dynamo/dynamolaw27.ConfigParts", spec := "configParts", named := ["dynamo/api.ErrConfig", "dynamo/api.ErrShort", "dynamo/api.ErrLong", "dynamo/api.ErrRange", "dynamo/api.ErrTable", "dynamo/api.ErrSum", "dynamo/api.ErrNone"], apart := false, laid := [("dynamo/api.ErrRange", laid_dynamo_api_ErrRange), ("dynamo/api.ErrLong", laid_dynamo_api_ErrLong), ("dynamo/api.ErrShort", laid_dynamo_api_ErrShort), ("dynamo/api.ErrSum", laid_dynamo_api_ErrSum), ("dynamo/api.ErrTable", laid_dynamo_api_ErrTable), ("dynamo/api.ErrConfig", laid_dynamo_api_ErrConfig), ("dynamo/api.ErrNone", laid_dynamo_api_ErrNone)], narrowed := true }
def ConfigPartsUptoSaid : Prop := configPartsUptoRow.holds Tryd.pinned (OpenSpec.upto configPartsSpec)

/-- 'dynamolaw27.ConfigSays', WHERE WHAT IT READS IS OF BULK AT MOST 1048576: true; the input reads as it did. -/
def configSaysUptoRow : OpenClaim := { program := "ytceildmghmigaaadoor", sum := "8de96cc1e8b6956cacedb70786b8910428010e9252956f035681e1d8cb3dcb1e", func := "dynamo/dynamolaw27.ConfigSays", spec := "configSays", named := ["dynamo/api.ErrConfig", "dynamo/api.ErrShort", "dynamo/api.ErrLong", "dynamo/api.ErrRange", "dynamo/api.ErrTable", "dynamo/api.ErrSum", "dynamo/api.ErrNone"], apart := false, laid := [("dynamo/api.ErrRange", laid_dynamo_api_ErrRange), ("dynamo/api.ErrLong", laid_dynamo_api_ErrLong), ("dynamo/api.ErrShort", laid_dynamo_api_ErrShort), ("dynamo/api.ErrSum", laid_dynamo_api_ErrSum), ("dynamo/api.ErrTable", laid_dynamo_api_ErrTable), ("dynamo/api.ErrConfig", laid_dynamo_api_ErrConfig), ("dynamo/api.ErrNone", laid_dynamo_api_ErrNone)], narrowed := true }
def ConfigSaysUptoSaid : Prop := configSaysUptoRow.holds Tryd.pinned (OpenSpec.upto configSaysSpec)

/-- 'dynamolaw27.ConfigBounds', WHERE WHAT IT READS IS OF BULK AT MOST 1048576: true; the input reads as it did. -/
def configBoundsUptoRow : OpenClaim := { program := "ytceildmghmigaaadoor", sum := "8de96cc1e8b6956cacedb70786b8910428010e9252956f035681e1d8cb3dcb1e", func := "dynamo/dynamolaw27.ConfigBounds", spec := "configBounds", named := ["dynamo/api.ErrConfig", "dynamo/api.ErrShort", "dynamo/api.ErrLong", "dynamo/api.ErrRange", "dynamo/api.ErrTable", "dynamo/api.ErrSum", "dynamo/api.ErrNone"], apart := false, laid := [("dynamo/api.ErrRange", laid_dynamo_api_ErrRange), ("dynamo/api.ErrLong", laid_dynamo_api_ErrLong), ("dynamo/api.ErrShort", laid_dynamo_api_ErrShort), ("dynamo/api.ErrSum", laid_dynamo_api_ErrSum), ("dynamo/api.ErrTable", laid_dynamo_api_ErrTable), ("dynamo/api.ErrConfig", laid_dynamo_api_ErrConfig), ("dynamo/api.ErrNone", laid_dynamo_api_ErrNone)], narrowed := true }
def ConfigBoundsUptoSaid : Prop := configBoundsUptoRow.holds Tryd.pinned (OpenSpec.upto configBoundsSpec)

end Rows
end Go.Proofs.YtceildmghmigaaaDoor
