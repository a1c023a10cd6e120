/-
  No cell of these rows narrows 'for every input' (looked for: loops, veiled, ifaces, maps, wideKeys, modest, calm, conditions, laid).
  DERIVED. THE GIVEN ROWS OF THIS SEAT. 5 by the template 'for every input the law returns true; each argument reads behind the call as it read before'; 0 by the template 'total and deterministic' (their statements: YtoknmodbdlfdmaaTotals.lean).
  GIVEN WITH THE SEED: the statements are not yours to turn. If you find one false, say at which input.
  Laid BY PROGRAM, IN A SANDBOX (cutbox-rows.mjs): the forced cells as the released guide's own fill.sh prints them over the translation 94863825386a8b7c… (all of the seat's roots in one cut). By AI agents, Wed Nov 11 2026. No macro, syntax, notation, axiom, sorry.
-/
import Derived.Test.YtoknmodbdlfdmaaChecked
import GoSem.Claim
import GoSem.ClaimJoined
import GoSem.ClaimMapViews
import Derived.JoinedTies
import Derived.KernelRfl
namespace Go.Proofs.Ytoknmodbdlfdmaa
/- THE CELL 'sum', in the pinned program and in every row, IS THE sha256 OF THE DUMP (.gsa) THAT YtoknmodbdlfdmaaProg.lean LOADS. Nothing in Lean hashes anything: it is a label: what it is worth is what the hold of that sum in a sandbox is worth. -/
noncomputable def Try.pinned : Pinned := { name := "ytoknmodbdlfdmaa", sum := "94863825386a8b7c96dcc5ce1062f4f9614e53b2afdaed0a492c6efab950cb62", checked := Try.checked }
namespace Rows
def none {H : Type} : Left H := { results := [], args := [] }

/-- 'dynamolaw10.FreshNewer': WHATEVER THE INPUT: true; the input reads as it did. -/
def freshNewerSpec : ChangeSpec := { name := "freshNewer", fn := fun _ => fun
  | [d1, d2, d3, d4, d5] => { results := [.lit (.bool true)], args := [d1, d2, d3, d4, d5] }
  | _ => none }
def freshNewerRow : OpenClaim := { program := "ytoknmodbdlfdmaa", sum := "94863825386a8b7c96dcc5ce1062f4f9614e53b2afdaed0a492c6efab950cb62", func := "dynamo/dynamolaw10.FreshNewer", spec := "freshNewer", apart := false }
def FreshNewerSaid : Prop := freshNewerRow.holds Try.pinned (OpenSpec.ofChange freshNewerSpec)

/-- ITS FALSE NEIGHBOUR: 'it returns false'. Refute it at one input. -/
def freshNewerWrong : ChangeSpec := { name := "freshNewer", fn := fun _ => fun
  | [d1, d2, d3, d4, d5] => { results := [.lit (.bool false)], args := [d1, d2, d3, d4, d5] }
  | _ => none }
def FreshNewerWrongFalsely : Prop := freshNewerRow.holds Try.pinned (OpenSpec.ofChange freshNewerWrong)

/-- 'dynamolaw10.FreshRows': WHATEVER THE INPUT: true; the input reads as it did. -/
def freshRowsSpec : ChangeSpec := { name := "freshRows", fn := fun _ => fun
  | [d1, d2, d3, d4] => { results := [.lit (.bool true)], args := [d1, d2, d3, d4] }
  | _ => none }
def freshRowsRow : OpenClaim := { program := "ytoknmodbdlfdmaa", sum := "94863825386a8b7c96dcc5ce1062f4f9614e53b2afdaed0a492c6efab950cb62", func := "dynamo/dynamolaw10.FreshRows", spec := "freshRows", apart := false }
def FreshRowsSaid : Prop := freshRowsRow.holds Try.pinned (OpenSpec.ofChange freshRowsSpec)

/-- ITS FALSE NEIGHBOUR: 'it returns false'. Refute it at one input. -/
def freshRowsWrong : ChangeSpec := { name := "freshRows", fn := fun _ => fun
  | [d1, d2, d3, d4] => { results := [.lit (.bool false)], args := [d1, d2, d3, d4] }
  | _ => none }
def FreshRowsWrongFalsely : Prop := freshRowsRow.holds Try.pinned (OpenSpec.ofChange freshRowsWrong)

/-- 'dynamolaw10.FreshPlays': WHATEVER THE INPUT: true; the input reads as it did. -/
def freshPlaysSpec : ChangeSpec := { name := "freshPlays", fn := fun _ => fun
  | [d1, d2, d3] => { results := [.lit (.bool true)], args := [d1, d2, d3] }
  | _ => none }
def freshPlaysRow : OpenClaim := { program := "ytoknmodbdlfdmaa", sum := "94863825386a8b7c96dcc5ce1062f4f9614e53b2afdaed0a492c6efab950cb62", func := "dynamo/dynamolaw10.FreshPlays", spec := "freshPlays", apart := false }
def FreshPlaysSaid : Prop := freshPlaysRow.holds Try.pinned (OpenSpec.ofChange freshPlaysSpec)

/-- ITS FALSE NEIGHBOUR: 'it returns false'. Refute it at one input. -/
def freshPlaysWrong : ChangeSpec := { name := "freshPlays", fn := fun _ => fun
  | [d1, d2, d3] => { results := [.lit (.bool false)], args := [d1, d2, d3] }
  | _ => none }
def FreshPlaysWrongFalsely : Prop := freshPlaysRow.holds Try.pinned (OpenSpec.ofChange freshPlaysWrong)

/-- 'dynamolaw10.FreshAges': WHATEVER THE INPUT: true; the input reads as it did. -/
def freshAgesSpec : ChangeSpec := { name := "freshAges", fn := fun _ => fun
  | [d1, d2, d3, d4] => { results := [.lit (.bool true)], args := [d1, d2, d3, d4] }
  | _ => none }
def freshAgesRow : OpenClaim := { program := "ytoknmodbdlfdmaa", sum := "94863825386a8b7c96dcc5ce1062f4f9614e53b2afdaed0a492c6efab950cb62", func := "dynamo/dynamolaw10.FreshAges", spec := "freshAges", apart := false }
def FreshAgesSaid : Prop := freshAgesRow.holds Try.pinned (OpenSpec.ofChange freshAgesSpec)

/-- ITS FALSE NEIGHBOUR: 'it returns false'. Refute it at one input. -/
def freshAgesWrong : ChangeSpec := { name := "freshAges", fn := fun _ => fun
  | [d1, d2, d3, d4] => { results := [.lit (.bool false)], args := [d1, d2, d3, d4] }
  | _ => none }
def FreshAgesWrongFalsely : Prop := freshAgesRow.holds Try.pinned (OpenSpec.ofChange freshAgesWrong)

/-- 'dynamolaw10.FreshApart': WHATEVER THE INPUT: true; the input reads as it did. -/
def freshApartSpec : ChangeSpec := { name := "freshApart", fn := fun _ => fun
  | [d1, d2, d3, d4, d5] => { results := [.lit (.bool true)], args := [d1, d2, d3, d4, d5] }
  | _ => none }
def freshApartRow : OpenClaim := { program := "ytoknmodbdlfdmaa", sum := "94863825386a8b7c96dcc5ce1062f4f9614e53b2afdaed0a492c6efab950cb62", func := "dynamo/dynamolaw10.FreshApart", spec := "freshApart", apart := false }
def FreshApartSaid : Prop := freshApartRow.holds Try.pinned (OpenSpec.ofChange freshApartSpec)

/-- ITS FALSE NEIGHBOUR: 'it returns false'. Refute it at one input. -/
def freshApartWrong : ChangeSpec := { name := "freshApart", fn := fun _ => fun
  | [d1, d2, d3, d4, d5] => { results := [.lit (.bool false)], args := [d1, d2, d3, d4, d5] }
  | _ => none }
def FreshApartWrongFalsely : Prop := freshApartRow.holds Try.pinned (OpenSpec.ofChange freshApartWrong)

/- THE SECOND FORM. 'bulk': how many values and letters a reading holds, each counted each time it is reached (what is shared counts as often as it is met; a slice's spare places count too). A statement '..UptoSaid' is the law's where the arguments, and the package variables that the reading takes, are together of bulk at most 1048576: NARROWER than '..Said'. Prove '..Said' where nothing that the law and all that it calls make is longer than what came in: it says more and counts as full. Else prove '..UptoSaid'. A law counts once. -/
mutual
def uptoBulk {H : Type} : DataW H → Nat
  | .lit (.string bytes) => bytes.length + 1
  | .lit _ => 1
  | .nil => 1
  | .ptr d => uptoBulk d + 1
  | .slice elems spare => uptoBulkAll elems + uptoBulkAll spare + 1
  | .agg parts => uptoBulkAll parts + 1
  | .iface _ d => uptoBulk d + 1
  | .map entries => uptoBulkEntries entries + 1
  | .held _ => 1
def uptoBulkAll {H : Type} : List (DataW H) → Nat
  | [] => 0
  | d :: r => uptoBulk d + uptoBulkAll r
def uptoBulkEntries {H : Type} : List (Lit × DataW H) → Nat
  | [] => 0
  | x :: r => uptoBulkEntry x + uptoBulkEntries r
def uptoBulkEntry {H : Type} : Lit × DataW H → Nat
  | (.string bytes, d) => bytes.length + uptoBulk d + 1
  | (_, d) => uptoBulk d + 1
 end
def uptoSmall : (H : Type) → List (DataW H) → Bool := fun _ ds => decide (uptoBulkAll ds ≤ 1048576)
def OpenSpec.upto (s : _root_.Go.ChangeSpec) : _root_.Go.OpenSpec := { _root_.Go.OpenSpec.ofChange s with cond := some uptoSmall }

/-- 'dynamolaw10.FreshNewer', WHERE WHAT IT READS IS OF BULK AT MOST 1048576: true; the input reads as it did. -/
def freshNewerUptoRow : OpenClaim := { program := "ytoknmodbdlfdmaa", sum := "94863825386a8b7c96dcc5ce1062f4f9614e53b2afdaed0a492c6efab950cb62", func := "dynamo/dynamolaw10.FreshNewer", spec := "freshNewer", apart := false, narrowed := true }
def FreshNewerUptoSaid : Prop := freshNewerUptoRow.holds Try.pinned (OpenSpec.upto freshNewerSpec)

/-- 'dynamolaw10.FreshRows', WHERE WHAT IT READS IS OF BULK AT MOST 1048576: true; the input reads as it did. -/
def freshRowsUptoRow : OpenClaim := { program := "ytoknmodbdlfdmaa", sum := "94863825386a8b7c96dcc5ce1062f4f9614e53b2afdaed0a492c6efab950cb62", func := "dynamo/dynamolaw10.FreshRows", spec := "freshRows", apart := false, narrowed := true }
def FreshRowsUptoSaid : Prop := freshRowsUptoRow.holds Try.pinned (OpenSpec.upto freshRowsSpec)

/-- 'dynamolaw10.FreshPlays', WHERE WHAT IT READS IS OF BULK AT MOST 1048576: true; the input reads as it did. -/
def freshPlaysUptoRow : OpenClaim := { program := "ytoknmodbdlfdmaa", sum := "94863825386a8b7c96dcc5ce1062f4f9614e53b2afdaed0a492c6efab950cb62", func := "dynamo/dynamolaw10.FreshPlays", spec := "freshPlays", apart := false, narrowed := true }
def FreshPlaysUptoSaid : Prop := freshPlaysUptoRow.holds Try.pinned (OpenSpec.upto freshPlaysSpec)

/-- 'dynamolaw10.FreshAges', WHERE WHAT IT READS IS OF BULK AT MOST 1048576: true; the input reads as it did. -/
def freshAgesUptoRow : OpenClaim := { program := "ytoknmodbdlfdmaa", sum := "94863825386a8b7c96dcc5ce1062f4f9614e53b2afdaed0a492c6efab950cb62", func := "dynamo/dynamolaw10.FreshAges", spec := "freshAges", apart := false, narrowed := true }
def FreshAgesUptoSaid : Prop := freshAgesUptoRow.holds Try.pinned (OpenSpec.upto freshAgesSpec)

/-- 'dynamolaw10.FreshApart', WHERE WHAT IT READS IS OF BULK AT MOST 1048576: true; the input reads as it did. -/
def freshApartUptoRow : OpenClaim := { program := "ytoknmodbdlfdmaa", sum := "94863825386a8b7c96dcc5ce1062f4f9614e53b2afdaed0a492c6efab950cb62", func := "dynamo/dynamolaw10.FreshApart", spec := "freshApart", apart := false, narrowed := true }
def FreshApartUptoSaid : Prop := freshApartUptoRow.holds Try.pinned (OpenSpec.upto freshApartSpec)

end Rows
end Go.Proofs.Ytoknmodbdlfdmaa
