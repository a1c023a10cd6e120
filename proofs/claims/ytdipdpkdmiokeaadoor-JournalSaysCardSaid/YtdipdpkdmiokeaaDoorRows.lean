/-
  NARROWER THAN 'FOR EVERY INPUT', by the rows' own cells (each row's printed sentence says how): SlotSays: laid · SlotBack: laid · SlotBounds: laid · SlotUnlike: laid · JournalLater: laid · JournalSays: laid · JournalTears: laid · JournalOther: laid · JournalSpoilt: laid.
  DERIVED. THE GIVEN ROWS OF THIS SEAT. 9 by the template 'for every input the law returns true; each argument reads behind the call as it read before'; 0 by the template 'total and deterministic' (their statements: YtdipdpkdmiokeaaDoorTotals.lean).
  GIVEN WITH THE SEED: the statements are not yours to turn. If you find one false, say at which input.
  Laid BY PROGRAM, IN A SANDBOX (cutbox-rows.mjs): the forced cells as the released guide's own fill.sh prints them over the translation d77f16d53edae978… (all of the seat's roots in one cut). By AI agents, Wed Nov 11 2026. No macro, syntax, notation, axiom, sorry.
-/
import Derived.Test.YtdipdpkdmiokeaaDoorChecked
import GoSem.Claim
import GoSem.ClaimJoined
import GoSem.ClaimMapViews
import Derived.JoinedTies
import Derived.KernelRfl
namespace Go.Proofs.YtdipdpkdmiokeaaDoor
/- THE CELL 'sum', in the pinned program and in every row, IS THE sha256 OF THE DUMP (.gsa) THAT YtdipdpkdmiokeaaDoorProg.lean LOADS. Nothing in Lean hashes anything: it is a label: what it is worth is what the hold of that sum in a sandbox is worth. -/
noncomputable def Tryd.pinned : Pinned := { name := "ytdipdpkdmiokeaadoor", sum := "d77f16d53edae9780f865d8dc3a0921ace137c33c08b4bfe84b9cdecff95d641", checked := Tryd.checked }
namespace Rows
def none {H : Type} : Left H := { results := [], args := [] }

/- WHAT THE LISTED PACKAGE-LEVEL VARIABLES READ AS WHEN THE CALL BEGINS. Each datum BY PROGRAM (the guide's laid-datum.mjs) off the statement by which the dump's own 'gosem.cut.vars' lays the variable. In a bare row this is a premise. The card (YtdipdpkdmiokeaaDoorCards.lean) ties it to the program's text. -/
def laid_dynamo_api_ErrRange {H : Type} : DataW H := .iface "*errors.errorString" (.ptr (.agg [.lit (.string [97, 32, 110, 117, 109, 98, 101, 114, 32, 111, 117, 116, 32, 111, 102, 32, 105, 116, 115, 32, 114, 97, 110, 103, 101])]))
def laid_dynamo_api_ErrLong {H : Type} : DataW H := .iface "*errors.errorString" (.ptr (.agg [.lit (.string [109, 111, 114, 101, 32, 116, 104, 97, 110, 32, 109, 97, 121, 32, 98, 101])]))
def laid_dynamo_api_ErrShort {H : Type} : DataW H := .iface "*errors.errorString" (.ptr (.agg [.lit (.string [108, 101, 115, 115, 32, 116, 104, 97, 110, 32, 104, 97, 115, 32, 116, 111, 32, 98, 101])]))
def laid_dynamo_api_ErrSum {H : Type} : DataW H := .iface "*errors.errorString" (.ptr (.agg [.lit (.string [97, 32, 115, 117, 109, 32, 116, 104, 97, 116, 32, 100, 111, 101, 115, 32, 110, 111, 116, 32, 102, 105, 116])]))
def laid_dynamo_api_ErrTable {H : Type} : DataW H := .iface "*errors.errorString" (.ptr (.agg [.lit (.string [97, 32, 116, 97, 98, 108, 101, 32, 116, 104, 97, 116, 32, 100, 111, 101, 115, 32, 110, 111, 116, 32, 114, 105, 115, 101])]))
def laid_dynamo_api_ErrConfig {H : Type} : DataW H := .iface "*errors.errorString" (.ptr (.agg [.lit (.string [97, 32, 99, 111, 110, 102, 105, 103, 117, 114, 97, 116, 105, 111, 110, 32, 116, 104, 97, 116, 32, 99, 97, 110, 39, 116, 32, 98, 101])]))
def laid_dynamo_api_ErrNone {H : Type} : DataW H := .iface "*errors.errorString" (.ptr (.agg [.lit (.string [110, 111, 32, 114, 101, 99, 111, 114, 100])]))

/-- 'dynamolaw11.SlotSays': WHATEVER THE INPUT: true; the input reads as it did. -/
def slotSaysSpec : ChangeSpec := { name := "slotSays", fn := fun _ => fun
  | [d1, d2] => { results := [.lit (.bool true)], args := [d1, d2] }
  | _ => none }
def slotSaysRow : OpenClaim := { program := "ytdipdpkdmiokeaadoor", sum := "d77f16d53edae9780f865d8dc3a0921ace137c33c08b4bfe84b9cdecff95d641", func := "dynamo/dynamolaw11.SlotSays", spec := "slotSays", unfollowed := true, recurses := true, named := ["dynamo/api.ErrShort", "dynamo/api.ErrLong", "dynamo/api.ErrNone", "dynamo/api.ErrSum", "dynamo/api.ErrRange", "dynamo/api.ErrTable", "dynamo/api.ErrConfig"], apart := false, laid := [("dynamo/api.ErrRange", laid_dynamo_api_ErrRange), ("dynamo/api.ErrLong", laid_dynamo_api_ErrLong), ("dynamo/api.ErrShort", laid_dynamo_api_ErrShort), ("dynamo/api.ErrSum", laid_dynamo_api_ErrSum), ("dynamo/api.ErrTable", laid_dynamo_api_ErrTable), ("dynamo/api.ErrConfig", laid_dynamo_api_ErrConfig), ("dynamo/api.ErrNone", laid_dynamo_api_ErrNone)] }
def SlotSaysSaid : Prop := slotSaysRow.holds Tryd.pinned (OpenSpec.ofChange slotSaysSpec)

/-- ITS FALSE NEIGHBOUR: 'it returns false'. Refute it at one input. -/
def slotSaysWrong : ChangeSpec := { name := "slotSays", fn := fun _ => fun
  | [d1, d2] => { results := [.lit (.bool false)], args := [d1, d2] }
  | _ => none }
def SlotSaysWrongFalsely : Prop := slotSaysRow.holds Tryd.pinned (OpenSpec.ofChange slotSaysWrong)

/-- 'dynamolaw11.SlotBack': WHATEVER THE INPUT: true; the input reads as it did. -/
def slotBackSpec : ChangeSpec := { name := "slotBack", fn := fun _ => fun
  | [d1, d2, d3, d4, d5, d6, d7, d8] => { results := [.lit (.bool true)], args := [d1, d2, d3, d4, d5, d6, d7, d8] }
  | _ => none }
def slotBackRow : OpenClaim := { program := "ytdipdpkdmiokeaadoor", sum := "d77f16d53edae9780f865d8dc3a0921ace137c33c08b4bfe84b9cdecff95d641", func := "dynamo/dynamolaw11.SlotBack", spec := "slotBack", unfollowed := true, recurses := true, named := ["dynamo/api.ErrShort", "dynamo/api.ErrLong", "dynamo/api.ErrNone", "dynamo/api.ErrSum", "dynamo/api.ErrRange", "dynamo/api.ErrTable", "dynamo/api.ErrConfig"], apart := false, laid := [("dynamo/api.ErrRange", laid_dynamo_api_ErrRange), ("dynamo/api.ErrLong", laid_dynamo_api_ErrLong), ("dynamo/api.ErrShort", laid_dynamo_api_ErrShort), ("dynamo/api.ErrSum", laid_dynamo_api_ErrSum), ("dynamo/api.ErrTable", laid_dynamo_api_ErrTable), ("dynamo/api.ErrConfig", laid_dynamo_api_ErrConfig), ("dynamo/api.ErrNone", laid_dynamo_api_ErrNone)] }
def SlotBackSaid : Prop := slotBackRow.holds Tryd.pinned (OpenSpec.ofChange slotBackSpec)

/-- ITS FALSE NEIGHBOUR: 'it returns false'. Refute it at one input. -/
def slotBackWrong : ChangeSpec := { name := "slotBack", fn := fun _ => fun
  | [d1, d2, d3, d4, d5, d6, d7, d8] => { results := [.lit (.bool false)], args := [d1, d2, d3, d4, d5, d6, d7, d8] }
  | _ => none }
def SlotBackWrongFalsely : Prop := slotBackRow.holds Tryd.pinned (OpenSpec.ofChange slotBackWrong)

/-- 'dynamolaw11.SlotBounds': WHATEVER THE INPUT: true; the input reads as it did. -/
def slotBoundsSpec : ChangeSpec := { name := "slotBounds", fn := fun _ => fun
  | [d1, d2] => { results := [.lit (.bool true)], args := [d1, d2] }
  | _ => none }
def slotBoundsRow : OpenClaim := { program := "ytdipdpkdmiokeaadoor", sum := "d77f16d53edae9780f865d8dc3a0921ace137c33c08b4bfe84b9cdecff95d641", func := "dynamo/dynamolaw11.SlotBounds", spec := "slotBounds", unfollowed := true, recurses := true, named := ["dynamo/api.ErrShort", "dynamo/api.ErrLong", "dynamo/api.ErrNone", "dynamo/api.ErrSum", "dynamo/api.ErrRange", "dynamo/api.ErrTable", "dynamo/api.ErrConfig"], apart := false, laid := [("dynamo/api.ErrRange", laid_dynamo_api_ErrRange), ("dynamo/api.ErrLong", laid_dynamo_api_ErrLong), ("dynamo/api.ErrShort", laid_dynamo_api_ErrShort), ("dynamo/api.ErrSum", laid_dynamo_api_ErrSum), ("dynamo/api.ErrTable", laid_dynamo_api_ErrTable), ("dynamo/api.ErrConfig", laid_dynamo_api_ErrConfig), ("dynamo/api.ErrNone", laid_dynamo_api_ErrNone)] }
def SlotBoundsSaid : Prop := slotBoundsRow.holds Tryd.pinned (OpenSpec.ofChange slotBoundsSpec)

/-- ITS FALSE NEIGHBOUR: 'it returns false'. Refute it at one input. -/
def slotBoundsWrong : ChangeSpec := { name := "slotBounds", fn := fun _ => fun
  | [d1, d2] => { results := [.lit (.bool false)], args := [d1, d2] }
  | _ => none }
def SlotBoundsWrongFalsely : Prop := slotBoundsRow.holds Tryd.pinned (OpenSpec.ofChange slotBoundsWrong)

/-- 'dynamolaw11.SlotUnlike': WHATEVER THE INPUT: true; the input reads as it did. -/
def slotUnlikeSpec : ChangeSpec := { name := "slotUnlike", fn := fun _ => fun
  | [d1, d2, d3, d4, d5] => { results := [.lit (.bool true)], args := [d1, d2, d3, d4, d5] }
  | _ => none }
def slotUnlikeRow : OpenClaim := { program := "ytdipdpkdmiokeaadoor", sum := "d77f16d53edae9780f865d8dc3a0921ace137c33c08b4bfe84b9cdecff95d641", func := "dynamo/dynamolaw11.SlotUnlike", spec := "slotUnlike", unfollowed := true, recurses := true, named := ["dynamo/api.ErrShort", "dynamo/api.ErrLong", "dynamo/api.ErrNone", "dynamo/api.ErrSum", "dynamo/api.ErrRange", "dynamo/api.ErrTable", "dynamo/api.ErrConfig"], apart := false, laid := [("dynamo/api.ErrRange", laid_dynamo_api_ErrRange), ("dynamo/api.ErrLong", laid_dynamo_api_ErrLong), ("dynamo/api.ErrShort", laid_dynamo_api_ErrShort), ("dynamo/api.ErrSum", laid_dynamo_api_ErrSum), ("dynamo/api.ErrTable", laid_dynamo_api_ErrTable), ("dynamo/api.ErrConfig", laid_dynamo_api_ErrConfig), ("dynamo/api.ErrNone", laid_dynamo_api_ErrNone)] }
def SlotUnlikeSaid : Prop := slotUnlikeRow.holds Tryd.pinned (OpenSpec.ofChange slotUnlikeSpec)

/-- ITS FALSE NEIGHBOUR: 'it returns false'. Refute it at one input. -/
def slotUnlikeWrong : ChangeSpec := { name := "slotUnlike", fn := fun _ => fun
  | [d1, d2, d3, d4, d5] => { results := [.lit (.bool false)], args := [d1, d2, d3, d4, d5] }
  | _ => none }
def SlotUnlikeWrongFalsely : Prop := slotUnlikeRow.holds Tryd.pinned (OpenSpec.ofChange slotUnlikeWrong)

/-- 'dynamolaw12.JournalLater': WHATEVER THE INPUT: true; the input reads as it did. -/
def journalLaterSpec : ChangeSpec := { name := "journalLater", fn := fun _ => fun
  | [d1, d2] => { results := [.lit (.bool true)], args := [d1, d2] }
  | _ => none }
def journalLaterRow : OpenClaim := { program := "ytdipdpkdmiokeaadoor", sum := "d77f16d53edae9780f865d8dc3a0921ace137c33c08b4bfe84b9cdecff95d641", func := "dynamo/dynamolaw12.JournalLater", spec := "journalLater", unfollowed := true, recurses := true, named := ["dynamo/api.ErrNone", "dynamo/api.ErrShort", "dynamo/api.ErrLong", "dynamo/api.ErrSum", "dynamo/api.ErrRange", "dynamo/api.ErrTable", "dynamo/api.ErrConfig"], apart := false, laid := [("dynamo/api.ErrRange", laid_dynamo_api_ErrRange), ("dynamo/api.ErrLong", laid_dynamo_api_ErrLong), ("dynamo/api.ErrShort", laid_dynamo_api_ErrShort), ("dynamo/api.ErrSum", laid_dynamo_api_ErrSum), ("dynamo/api.ErrTable", laid_dynamo_api_ErrTable), ("dynamo/api.ErrConfig", laid_dynamo_api_ErrConfig), ("dynamo/api.ErrNone", laid_dynamo_api_ErrNone)] }
def JournalLaterSaid : Prop := journalLaterRow.holds Tryd.pinned (OpenSpec.ofChange journalLaterSpec)

/-- ITS FALSE NEIGHBOUR: 'it returns false'. Refute it at one input. -/
def journalLaterWrong : ChangeSpec := { name := "journalLater", fn := fun _ => fun
  | [d1, d2] => { results := [.lit (.bool false)], args := [d1, d2] }
  | _ => none }
def JournalLaterWrongFalsely : Prop := journalLaterRow.holds Tryd.pinned (OpenSpec.ofChange journalLaterWrong)

/-- 'dynamolaw12.JournalSays': WHATEVER THE INPUT: true; the input reads as it did. -/
def journalSaysSpec : ChangeSpec := { name := "journalSays", fn := fun _ => fun
  | [d1, d2, d3, d4, d5, d6] => { results := [.lit (.bool true)], args := [d1, d2, d3, d4, d5, d6] }
  | _ => none }
def journalSaysRow : OpenClaim := { program := "ytdipdpkdmiokeaadoor", sum := "d77f16d53edae9780f865d8dc3a0921ace137c33c08b4bfe84b9cdecff95d641", func := "dynamo/dynamolaw12.JournalSays", spec := "journalSays", unfollowed := true, recurses := true, named := ["dynamo/api.ErrNone", "dynamo/api.ErrShort", "dynamo/api.ErrLong", "dynamo/api.ErrSum", "dynamo/api.ErrRange", "dynamo/api.ErrTable", "dynamo/api.ErrConfig"], apart := false, laid := [("dynamo/api.ErrRange", laid_dynamo_api_ErrRange), ("dynamo/api.ErrLong", laid_dynamo_api_ErrLong), ("dynamo/api.ErrShort", laid_dynamo_api_ErrShort), ("dynamo/api.ErrSum", laid_dynamo_api_ErrSum), ("dynamo/api.ErrTable", laid_dynamo_api_ErrTable), ("dynamo/api.ErrConfig", laid_dynamo_api_ErrConfig), ("dynamo/api.ErrNone", laid_dynamo_api_ErrNone)] }
def JournalSaysSaid : Prop := journalSaysRow.holds Tryd.pinned (OpenSpec.ofChange journalSaysSpec)

/-- ITS FALSE NEIGHBOUR: 'it returns false'. Refute it at one input. -/
def journalSaysWrong : ChangeSpec := { name := "journalSays", fn := fun _ => fun
  | [d1, d2, d3, d4, d5, d6] => { results := [.lit (.bool false)], args := [d1, d2, d3, d4, d5, d6] }
  | _ => none }
def JournalSaysWrongFalsely : Prop := journalSaysRow.holds Tryd.pinned (OpenSpec.ofChange journalSaysWrong)

/-- 'dynamolaw12.JournalTears': WHATEVER THE INPUT: true; the input reads as it did. -/
def journalTearsSpec : ChangeSpec := { name := "journalTears", fn := fun _ => fun
  | [d1, d2, d3, d4] => { results := [.lit (.bool true)], args := [d1, d2, d3, d4] }
  | _ => none }
def journalTearsRow : OpenClaim := { program := "ytdipdpkdmiokeaadoor", sum := "d77f16d53edae9780f865d8dc3a0921ace137c33c08b4bfe84b9cdecff95d641", func := "dynamo/dynamolaw12.JournalTears", spec := "journalTears", unfollowed := true, recurses := true, named := ["dynamo/api.ErrNone", "dynamo/api.ErrShort", "dynamo/api.ErrLong", "dynamo/api.ErrSum", "dynamo/api.ErrRange", "dynamo/api.ErrTable", "dynamo/api.ErrConfig"], apart := false, laid := [("dynamo/api.ErrRange", laid_dynamo_api_ErrRange), ("dynamo/api.ErrLong", laid_dynamo_api_ErrLong), ("dynamo/api.ErrShort", laid_dynamo_api_ErrShort), ("dynamo/api.ErrSum", laid_dynamo_api_ErrSum), ("dynamo/api.ErrTable", laid_dynamo_api_ErrTable), ("dynamo/api.ErrConfig", laid_dynamo_api_ErrConfig), ("dynamo/api.ErrNone", laid_dynamo_api_ErrNone)] }
def JournalTearsSaid : Prop := journalTearsRow.holds Tryd.pinned (OpenSpec.ofChange journalTearsSpec)

/-- ITS FALSE NEIGHBOUR: 'it returns false'. Refute it at one input. -/
def journalTearsWrong : ChangeSpec := { name := "journalTears", fn := fun _ => fun
  | [d1, d2, d3, d4] => { results := [.lit (.bool false)], args := [d1, d2, d3, d4] }
  | _ => none }
def JournalTearsWrongFalsely : Prop := journalTearsRow.holds Tryd.pinned (OpenSpec.ofChange journalTearsWrong)

/-- 'dynamolaw12.JournalOther': WHATEVER THE INPUT: true; the input reads as it did. -/
def journalOtherSpec : ChangeSpec := { name := "journalOther", fn := fun _ => fun
  | [d1, d2, d3] => { results := [.lit (.bool true)], args := [d1, d2, d3] }
  | _ => none }
def journalOtherRow : OpenClaim := { program := "ytdipdpkdmiokeaadoor", sum := "d77f16d53edae9780f865d8dc3a0921ace137c33c08b4bfe84b9cdecff95d641", func := "dynamo/dynamolaw12.JournalOther", spec := "journalOther", unfollowed := true, recurses := true, named := ["dynamo/api.ErrNone", "dynamo/api.ErrShort", "dynamo/api.ErrLong", "dynamo/api.ErrSum", "dynamo/api.ErrRange", "dynamo/api.ErrTable", "dynamo/api.ErrConfig"], apart := false, laid := [("dynamo/api.ErrRange", laid_dynamo_api_ErrRange), ("dynamo/api.ErrLong", laid_dynamo_api_ErrLong), ("dynamo/api.ErrShort", laid_dynamo_api_ErrShort), ("dynamo/api.ErrSum", laid_dynamo_api_ErrSum), ("dynamo/api.ErrTable", laid_dynamo_api_ErrTable), ("dynamo/api.ErrConfig", laid_dynamo_api_ErrConfig), ("dynamo/api.ErrNone", laid_dynamo_api_ErrNone)] }
def JournalOtherSaid : Prop := journalOtherRow.holds Tryd.pinned (OpenSpec.ofChange journalOtherSpec)

/-- ITS FALSE NEIGHBOUR: 'it returns false'. Refute it at one input. -/
def journalOtherWrong : ChangeSpec := { name := "journalOther", fn := fun _ => fun
  | [d1, d2, d3] => { results := [.lit (.bool false)], args := [d1, d2, d3] }
  | _ => none }
def JournalOtherWrongFalsely : Prop := journalOtherRow.holds Tryd.pinned (OpenSpec.ofChange journalOtherWrong)

/-- 'dynamolaw12.JournalSpoilt': WHATEVER THE INPUT: true; the input reads as it did. -/
def journalSpoiltSpec : ChangeSpec := { name := "journalSpoilt", fn := fun _ => fun
  | [d1, d2, d3, d4, d5] => { results := [.lit (.bool true)], args := [d1, d2, d3, d4, d5] }
  | _ => none }
def journalSpoiltRow : OpenClaim := { program := "ytdipdpkdmiokeaadoor", sum := "d77f16d53edae9780f865d8dc3a0921ace137c33c08b4bfe84b9cdecff95d641", func := "dynamo/dynamolaw12.JournalSpoilt", spec := "journalSpoilt", unfollowed := true, recurses := true, named := ["dynamo/api.ErrNone", "dynamo/api.ErrShort", "dynamo/api.ErrLong", "dynamo/api.ErrSum", "dynamo/api.ErrRange", "dynamo/api.ErrTable", "dynamo/api.ErrConfig"], apart := false, laid := [("dynamo/api.ErrRange", laid_dynamo_api_ErrRange), ("dynamo/api.ErrLong", laid_dynamo_api_ErrLong), ("dynamo/api.ErrShort", laid_dynamo_api_ErrShort), ("dynamo/api.ErrSum", laid_dynamo_api_ErrSum), ("dynamo/api.ErrTable", laid_dynamo_api_ErrTable), ("dynamo/api.ErrConfig", laid_dynamo_api_ErrConfig), ("dynamo/api.ErrNone", laid_dynamo_api_ErrNone)] }
def JournalSpoiltSaid : Prop := journalSpoiltRow.holds Tryd.pinned (OpenSpec.ofChange journalSpoiltSpec)

/-- ITS FALSE NEIGHBOUR: 'it returns false'. Refute it at one input. -/
def journalSpoiltWrong : ChangeSpec := { name := "journalSpoilt", fn := fun _ => fun
  | [d1, d2, d3, d4, d5] => { results := [.lit (.bool false)], args := [d1, d2, d3, d4, d5] }
  | _ => none }
def JournalSpoiltWrongFalsely : Prop := journalSpoiltRow.holds Tryd.pinned (OpenSpec.ofChange journalSpoiltWrong)

/- THE SECOND FORM. 'bulk': how many values and letters a reading holds, each counted each time it is reached (what is shared counts as often as it is met; a slice's spare places count too). A statement '..UptoSaid' is the law's where the arguments, and the package variables that the reading takes, are together of bulk at most 1048576: NARROWER than '..Said'. Prove '..Said' where nothing that the law and all that it calls make is longer than what came in: it says more and counts as full. Else prove '..UptoSaid'. A law counts once. -/
mutual
def uptoBulk {H : Type} : DataW H → Nat
  | .lit (.string bytes) => bytes.length + 1
  | .lit _ => 1
  | .nil => 1
  | .ptr d => uptoBulk d + 1
  | .slice elems spare => uptoBulkAll elems + uptoBulkAll spare + 1
  | .agg parts => uptoBulkAll parts + 1
  | .iface _ d => uptoBulk d + 1
  | .map entries => uptoBulkEntries entries + 1
  | .held _ => 1
def uptoBulkAll {H : Type} : List (DataW H) → Nat
  | [] => 0
  | d :: r => uptoBulk d + uptoBulkAll r
def uptoBulkEntries {H : Type} : List (Lit × DataW H) → Nat
  | [] => 0
  | x :: r => uptoBulkEntry x + uptoBulkEntries r
def uptoBulkEntry {H : Type} : Lit × DataW H → Nat
  | (.string bytes, d) => bytes.length + uptoBulk d + 1
  | (_, d) => uptoBulk d + 1
 end
def uptoSmall : (H : Type) → List (DataW H) → Bool := fun _ ds => decide (uptoBulkAll ds ≤ 1048576)
def OpenSpec.upto (s : _root_.Go.ChangeSpec) : _root_.Go.OpenSpec := { _root_.Go.OpenSpec.ofChange s with cond := some uptoSmall }

/-- 'dynamolaw11.SlotSays', WHERE WHAT IT READS IS OF BULK AT MOST 1048576: true; the input reads as it did. -/
def slotSaysUptoRow : OpenClaim := { program := "ytdipdpkdmiokeaadoor", sum := "d77f16d53edae9780f865d8dc3a0921ace137c33c08b4bfe84b9cdecff95d641", func := "dynamo/dynamolaw11.SlotSays", spec := "slotSays", unfollowed := true, recurses := true, named := ["dynamo/api.ErrShort", "dynamo/api.ErrLong", "dynamo/api.ErrNone", "dynamo/api.ErrSum", "dynamo/api.ErrRange", "dynamo/api.ErrTable", "dynamo/api.ErrConfig"], apart := false, laid := [("dynamo/api.ErrRange", laid_dynamo_api_ErrRange), ("dynamo/api.ErrLong", laid_dynamo_api_ErrLong), ("dynamo/api.ErrShort", laid_dynamo_api_ErrShort), ("dynamo/api.ErrSum", laid_dynamo_api_ErrSum), ("dynamo/api.ErrTable", laid_dynamo_api_ErrTable), ("dynamo/api.ErrConfig", laid_dynamo_api_ErrConfig), ("dynamo/api.ErrNone", laid_dynamo_api_ErrNone)], narrowed := true }
def SlotSaysUptoSaid : Prop := slotSaysUptoRow.holds Tryd.pinned (OpenSpec.upto slotSaysSpec)

/-- 'dynamolaw11.SlotBack', WHERE WHAT IT READS IS OF BULK AT MOST 1048576: true; the input reads as it did. -/
def slotBackUptoRow : OpenClaim := { program := "ytdipdpkdmiokeaadoor", sum := "d77f16d53edae9780f865d8dc3a0921ace137c33c08b4bfe84b9cdecff95d641", func := "dynamo/dynamolaw11.SlotBack", spec := "slotBack", unfollowed := true, recurses := true, named := ["dynamo/api.ErrShort", "dynamo/api.ErrLong", "dynamo/api.ErrNone", "dynamo/api.ErrSum", "dynamo/api.ErrRange", "dynamo/api.ErrTable", "dynamo/api.ErrConfig"], apart := false, laid := [("dynamo/api.ErrRange", laid_dynamo_api_ErrRange), ("dynamo/api.ErrLong", laid_dynamo_api_ErrLong), ("dynamo/api.ErrShort", laid_dynamo_api_ErrShort), ("dynamo/api.ErrSum", laid_dynamo_api_ErrSum), ("dynamo/api.ErrTable", laid_dynamo_api_ErrTable), ("dynamo/api.ErrConfig", laid_dynamo_api_ErrConfig), ("dynamo/api.ErrNone", laid_dynamo_api_ErrNone)], narrowed := true }
def SlotBackUptoSaid : Prop := slotBackUptoRow.holds Tryd.pinned (OpenSpec.upto slotBackSpec)

/-- 'dynamolaw11.SlotBounds', WHERE WHAT IT READS IS OF BULK AT MOST 1048576: true; the input reads as it did. -/
def slotBoundsUptoRow : OpenClaim := { program := "ytdipdpkdmiokeaadoor", sum := "d77f16d53edae9780f865d8dc3a0921ace137c33c08b4bfe84b9cdecff95d641", func := "dynamo/dynamolaw11.SlotBounds", spec := "slotBounds", unfollowed := true, recurses := true, named := ["dynamo/api.ErrShort", "dynamo/api.ErrLong", "dynamo/api.ErrNone", "dynamo/api.ErrSum", "dynamo/api.ErrRange", "dynamo/api.ErrTable", "dynamo/api.ErrConfig"], apart := false, laid := [("dynamo/api.ErrRange", laid_dynamo_api_ErrRange), ("dynamo/api.ErrLong", laid_dynamo_api_ErrLong), ("dynamo/api.ErrShort", laid_dynamo_api_ErrShort), ("dynamo/api.ErrSum", laid_dynamo_api_ErrSum), ("dynamo/api.ErrTable", laid_dynamo_api_ErrTable), ("dynamo/api.ErrConfig", laid_dynamo_api_ErrConfig), ("dynamo/api.ErrNone", laid_dynamo_api_ErrNone)], narrowed := true }
def SlotBoundsUptoSaid : Prop := slotBoundsUptoRow.holds Tryd.pinned (OpenSpec.upto slotBoundsSpec)

/-- 'dynamolaw11.SlotUnlike', WHERE WHAT IT READS IS OF BULK AT MOST 1048576: true; the input reads as it did. -/
def slotUnlikeUptoRow : OpenClaim := { program := "ytdipdpkdmiokeaadoor", sum := "d77f16d53edae9780f865d8dc3a0921ace137c33c08b4bfe84b9cdecff95d641", func := "dynamo/dynamolaw11.SlotUnlike", spec := "slotUnlike", unfollowed := true, recurses := true, named := ["dynamo/api.ErrShort", "dynamo/api.ErrLong", "dynamo/api.ErrNone", "dynamo/api.ErrSum", "dynamo/api.ErrRange", "dynamo/api.ErrTable", "dynamo/api.ErrConfig"], apart := false, laid := [("dynamo/api.ErrRange", laid_dynamo_api_ErrRange), ("dynamo/api.ErrLong", laid_dynamo_api_ErrLong), ("dynamo/api.ErrShort", laid_dynamo_api_ErrShort), ("dynamo/api.ErrSum", laid_dynamo_api_ErrSum), ("dynamo/api.ErrTable", laid_dynamo_api_ErrTable), ("dynamo/api.ErrConfig", laid_dynamo_api_ErrConfig), ("dynamo/api.ErrNone", laid_dynamo_api_ErrNone)], narrowed := true }
def SlotUnlikeUptoSaid : Prop := slotUnlikeUptoRow.holds Tryd.pinned (OpenSpec.upto slotUnlikeSpec)

/-- 'dynamolaw12.JournalLater', WHERE WHAT IT READS IS OF BULK AT MOST 1048576: true; the input reads as it did. -/
def journalLaterUptoRow : OpenClaim := { program := "ytdipdpkdmiokeaadoor", sum := "d77f16d53edae9780f865d8dc3a0921ace137c33c08b4bfe84b9cdecff95d641", func := "dynamo/dynamolaw12.JournalLater", spec := "journalLater", unfollowed := true, recurses := true, named := ["dynamo/api.ErrNone", "dynamo/api.ErrShort", "dynamo/api.ErrLong", "dynamo/api.ErrSum", "dynamo/api.ErrRange", "dynamo/api.ErrTable", "dynamo/api.ErrConfig"], apart := false, laid := [("dynamo/api.ErrRange", laid_dynamo_api_ErrRange), ("dynamo/api.ErrLong", laid_dynamo_api_ErrLong), ("dynamo/api.ErrShort", laid_dynamo_api_ErrShort), ("dynamo/api.ErrSum", laid_dynamo_api_ErrSum), ("dynamo/api.ErrTable", laid_dynamo_api_ErrTable), ("dynamo/api.ErrConfig", laid_dynamo_api_ErrConfig), ("dynamo/api.ErrNone", laid_dynamo_api_ErrNone)], narrowed := true }
def JournalLaterUptoSaid : Prop := journalLaterUptoRow.holds Tryd.pinned (OpenSpec.upto journalLaterSpec)

/-- 'dynamolaw12.JournalSays', WHERE WHAT IT READS IS OF BULK AT MOST 1048576: true; the input reads as it did. -/
def journalSaysUptoRow : OpenClaim := { program := "ytdipdpkdmiokeaadoor", sum := "d77f16d53edae9780f865d8dc3a0921ace137c33c08b4bfe84b9cdecff95d641", func := "dynamo/dynamolaw12.JournalSays", spec := "journalSays", unfollowed := true, recurses := true, named := ["dynamo/api.ErrNone", "dynamo/api.ErrShort", "dynamo/api.ErrLong", "dynamo/api.ErrSum", "dynamo/api.ErrRange", "dynamo/api.ErrTable", "dynamo/api.ErrConfig"], apart := false, laid := [("dynamo/api.ErrRange", laid_dynamo_api_ErrRange), ("dynamo/api.ErrLong", laid_dynamo_api_ErrLong), ("dynamo/api.ErrShort", laid_dynamo_api_ErrShort), ("dynamo/api.ErrSum", laid_dynamo_api_ErrSum), ("dynamo/api.ErrTable", laid_dynamo_api_ErrTable), ("dynamo/api.ErrConfig", laid_dynamo_api_ErrConfig), ("dynamo/api.ErrNone", laid_dynamo_api_ErrNone)], narrowed := true }
def JournalSaysUptoSaid : Prop := journalSaysUptoRow.holds Tryd.pinned (OpenSpec.upto journalSaysSpec)

/-- 'dynamolaw12.JournalTears', WHERE WHAT IT READS IS OF BULK AT MOST 1048576: true; the input reads as it did. -/
def journalTearsUptoRow : OpenClaim := { program := "ytdipdpkdmiokeaadoor", sum := "d77f16d53edae9780f865d8dc3a0921ace137c33c08b4bfe84b9cdecff95d641", func := "dynamo/dynamolaw12.JournalTears", spec := "journalTears", unfollowed := true, recurses := true, named := ["dynamo/api.ErrNone", "dynamo/api.ErrShort", "dynamo/api.ErrLong", "dynamo/api.ErrSum", "dynamo/api.ErrRange", "dynamo/api.ErrTable", "dynamo/api.ErrConfig"], apart := false, laid := [("dynamo/api.ErrRange", laid_dynamo_api_ErrRange), ("dynamo/api.ErrLong", laid_dynamo_api_ErrLong), ("dynamo/api.ErrShort", laid_dynamo_api_ErrShort), ("dynamo/api.ErrSum", laid_dynamo_api_ErrSum), ("dynamo/api.ErrTable", laid_dynamo_api_ErrTable), ("dynamo/api.ErrConfig", laid_dynamo_api_ErrConfig), ("dynamo/api.ErrNone", laid_dynamo_api_ErrNone)], narrowed := true }
def JournalTearsUptoSaid : Prop := journalTearsUptoRow.holds Tryd.pinned (OpenSpec.upto journalTearsSpec)

/-- 'dynamolaw12.JournalOther', WHERE WHAT IT READS IS OF BULK AT MOST 1048576: true; the input reads as it did. -/
def journalOtherUptoRow : OpenClaim := { program := "ytdipdpkdmiokeaadoor", sum := "d77f16d53edae9780f865d8dc3a0921ace137c33c08b4bfe84b9cdecff95d641", func := "dynamo/dynamolaw12.JournalOther", spec := "journalOther", unfollowed := true, recurses := true, named := ["dynamo/api.ErrNone", "dynamo/api.ErrShort", "dynamo/api.ErrLong", "dynamo/api.ErrSum", "dynamo/api.ErrRange", "dynamo/api.ErrTable", "dynamo/api.ErrConfig"], apart := false, laid := [("dynamo/api.ErrRange", laid_dynamo_api_ErrRange), ("dynamo/api.ErrLong", laid_dynamo_api_ErrLong), ("dynamo/api.ErrShort", laid_dynamo_api_ErrShort), ("dynamo/api.ErrSum", laid_dynamo_api_ErrSum), ("dynamo/api.ErrTable", laid_dynamo_api_ErrTable), ("dynamo/api.ErrConfig", laid_dynamo_api_ErrConfig), ("dynamo/api.ErrNone", laid_dynamo_api_ErrNone)], narrowed := true }
def JournalOtherUptoSaid : Prop := journalOtherUptoRow.holds Tryd.pinned (OpenSpec.upto journalOtherSpec)

/-- 'dynamolaw12.JournalSpoilt', WHERE WHAT IT READS IS OF BULK AT MOST 1048576: true; the input reads as it did. -/
def journalSpoiltUptoRow : OpenClaim := { program := "ytdipdpkdmiokeaadoor", sum := "d77f16d53edae9780f865d8dc3a0921ace137c33c08b4bfe84b9cdecff95d641", func := "dynamo/dynamolaw12.JournalSpoilt", spec := "journalSpoilt", unfollowed := true, recurses := true, named := ["dynamo/api.ErrNone", "dynamo/api.ErrShort", "dynamo/api.ErrLong", "dynamo/api.ErrSum", "dynamo/api.ErrRange", "dynamo/api.ErrTable", "dynamo/api.ErrConfig"], apart := false, laid := [("dynamo/api.ErrRange", laid_dynamo_api_ErrRange), ("dynamo/api.ErrLong", laid_dynamo_api_ErrLong), ("dynamo/api.ErrShort", laid_dynamo_api_ErrShort), ("dynamo/api.ErrSum", laid_dynamo_api_ErrSum), ("dynamo/api.ErrTable", laid_dynamo_api_ErrTable), ("dynamo/api.ErrConfig", laid_dynamo_api_ErrConfig), ("dynamo/api.ErrNone", laid_dynamo_api_ErrNone)], narrowed := true }
def JournalSpoiltUptoSaid : Prop := journalSpoiltUptoRow.holds Tryd.pinned (OpenSpec.upto journalSpoiltSpec)

end Rows
end Go.Proofs.YtdipdpkdmiokeaaDoor
