/-
  No cell of these rows narrows 'for every input' (looked for: loops, veiled, ifaces, maps, wideKeys, modest, calm, conditions, laid).
  DERIVED. THE GIVEN ROWS OF THIS SEAT. 9 by the template 'for every input the law returns true; each argument reads behind the call as it read before'; 0 by the template 'total and deterministic' (their statements: YtncpbbdgckkdmaaTotals.lean).
  GIVEN WITH THE SEED: the statements are not yours to turn. If you find one false, say at which input.
  Laid BY PROGRAM, IN A SANDBOX (cutbox-rows.mjs): the forced cells as the released guide's own fill.sh prints them over the translation c6ae251c06bc7a8d… (all of the seat's roots in one cut). By AI agents, Wed Nov 11 2026. No macro, syntax, notation, axiom, sorry.
-/
import Derived.Test.YtncpbbdgckkdmaaChecked
import GoSem.Claim
import GoSem.ClaimJoined
import GoSem.ClaimMapViews
import Derived.JoinedTies
import Derived.KernelRfl
namespace Go.Proofs.Ytncpbbdgckkdmaa
/- THE CELL 'sum', in the pinned program and in every row, IS THE sha256 OF THE DUMP (.gsa) THAT YtncpbbdgckkdmaaProg.lean LOADS. Nothing in Lean hashes anything: it is a label: what it is worth is what the hold of that sum in a sandbox is worth. -/
noncomputable def Try.pinned : Pinned := { name := "ytncpbbdgckkdmaa", sum := "c6ae251c06bc7a8de8ce52864539657fde248de87885f511073a4d83c6991d50", checked := Try.checked }
namespace Rows
def none {H : Type} : Left H := { results := [], args := [] }

/-- 'dynamolaw15.CellOne': WHATEVER THE INPUT: true; the input reads as it did. -/
def cellOneSpec : ChangeSpec := { name := "cellOne", fn := fun _ => fun
  | [d1, d2, d3] => { results := [.lit (.bool true)], args := [d1, d2, d3] }
  | _ => none }
def cellOneRow : OpenClaim := { program := "ytncpbbdgckkdmaa", sum := "c6ae251c06bc7a8de8ce52864539657fde248de87885f511073a4d83c6991d50", func := "dynamo/dynamolaw15.CellOne", spec := "cellOne", apart := false }
def CellOneSaid : Prop := cellOneRow.holds Try.pinned (OpenSpec.ofChange cellOneSpec)

/-- ITS FALSE NEIGHBOUR: 'it returns false'. Refute it at one input. -/
def cellOneWrong : ChangeSpec := { name := "cellOne", fn := fun _ => fun
  | [d1, d2, d3] => { results := [.lit (.bool false)], args := [d1, d2, d3] }
  | _ => none }
def CellOneWrongFalsely : Prop := cellOneRow.holds Try.pinned (OpenSpec.ofChange cellOneWrong)

/-- 'dynamolaw15.CellAll': WHATEVER THE INPUT: true; the input reads as it did. -/
def cellAllSpec : ChangeSpec := { name := "cellAll", fn := fun _ => fun
  | [d1, d2, d3, d4] => { results := [.lit (.bool true)], args := [d1, d2, d3, d4] }
  | _ => none }
def cellAllRow : OpenClaim := { program := "ytncpbbdgckkdmaa", sum := "c6ae251c06bc7a8de8ce52864539657fde248de87885f511073a4d83c6991d50", func := "dynamo/dynamolaw15.CellAll", spec := "cellAll", apart := false }
def CellAllSaid : Prop := cellAllRow.holds Try.pinned (OpenSpec.ofChange cellAllSpec)

/-- ITS FALSE NEIGHBOUR: 'it returns false'. Refute it at one input. -/
def cellAllWrong : ChangeSpec := { name := "cellAll", fn := fun _ => fun
  | [d1, d2, d3, d4] => { results := [.lit (.bool false)], args := [d1, d2, d3, d4] }
  | _ => none }
def CellAllWrongFalsely : Prop := cellAllRow.holds Try.pinned (OpenSpec.ofChange cellAllWrong)

/-- 'dynamolaw24.LocateSmall': WHATEVER THE INPUT: true; the input reads as it did. -/
def locateSmallSpec : ChangeSpec := { name := "locateSmall", fn := fun _ => fun
  | [d1, d2, d3] => { results := [.lit (.bool true)], args := [d1, d2, d3] }
  | _ => none }
def locateSmallRow : OpenClaim := { program := "ytncpbbdgckkdmaa", sum := "c6ae251c06bc7a8de8ce52864539657fde248de87885f511073a4d83c6991d50", func := "dynamo/dynamolaw24.LocateSmall", spec := "locateSmall", apart := false }
def LocateSmallSaid : Prop := locateSmallRow.holds Try.pinned (OpenSpec.ofChange locateSmallSpec)

/-- ITS FALSE NEIGHBOUR: 'it returns false'. Refute it at one input. -/
def locateSmallWrong : ChangeSpec := { name := "locateSmall", fn := fun _ => fun
  | [d1, d2, d3] => { results := [.lit (.bool false)], args := [d1, d2, d3] }
  | _ => none }
def LocateSmallWrongFalsely : Prop := locateSmallRow.holds Try.pinned (OpenSpec.ofChange locateSmallWrong)

/-- 'dynamolaw24.LocateRows': WHATEVER THE INPUT: true; the input reads as it did. -/
def locateRowsSpec : ChangeSpec := { name := "locateRows", fn := fun _ => fun
  | [d1, d2, d3, d4] => { results := [.lit (.bool true)], args := [d1, d2, d3, d4] }
  | _ => none }
def locateRowsRow : OpenClaim := { program := "ytncpbbdgckkdmaa", sum := "c6ae251c06bc7a8de8ce52864539657fde248de87885f511073a4d83c6991d50", func := "dynamo/dynamolaw24.LocateRows", spec := "locateRows", apart := false }
def LocateRowsSaid : Prop := locateRowsRow.holds Try.pinned (OpenSpec.ofChange locateRowsSpec)

/-- ITS FALSE NEIGHBOUR: 'it returns false'. Refute it at one input. -/
def locateRowsWrong : ChangeSpec := { name := "locateRows", fn := fun _ => fun
  | [d1, d2, d3, d4] => { results := [.lit (.bool false)], args := [d1, d2, d3, d4] }
  | _ => none }
def LocateRowsWrongFalsely : Prop := locateRowsRow.holds Try.pinned (OpenSpec.ofChange locateRowsWrong)

/-- 'dynamolaw24.LocateOnce': WHATEVER THE INPUT: true; the input reads as it did. -/
def locateOnceSpec : ChangeSpec := { name := "locateOnce", fn := fun _ => fun
  | [d1, d2, d3, d4] => { results := [.lit (.bool true)], args := [d1, d2, d3, d4] }
  | _ => none }
def locateOnceRow : OpenClaim := { program := "ytncpbbdgckkdmaa", sum := "c6ae251c06bc7a8de8ce52864539657fde248de87885f511073a4d83c6991d50", func := "dynamo/dynamolaw24.LocateOnce", spec := "locateOnce", apart := false }
def LocateOnceSaid : Prop := locateOnceRow.holds Try.pinned (OpenSpec.ofChange locateOnceSpec)

/-- ITS FALSE NEIGHBOUR: 'it returns false'. Refute it at one input. -/
def locateOnceWrong : ChangeSpec := { name := "locateOnce", fn := fun _ => fun
  | [d1, d2, d3, d4] => { results := [.lit (.bool false)], args := [d1, d2, d3, d4] }
  | _ => none }
def LocateOnceWrongFalsely : Prop := locateOnceRow.holds Try.pinned (OpenSpec.ofChange locateOnceWrong)

/-- 'dynamolaw26.ModeKinds': WHATEVER THE INPUT: true; the input reads as it did. -/
def modeKindsSpec : ChangeSpec := { name := "modeKinds", fn := fun _ => fun
  | [d1, d2, d3, d4] => { results := [.lit (.bool true)], args := [d1, d2, d3, d4] }
  | _ => none }
def modeKindsRow : OpenClaim := { program := "ytncpbbdgckkdmaa", sum := "c6ae251c06bc7a8de8ce52864539657fde248de87885f511073a4d83c6991d50", func := "dynamo/dynamolaw26.ModeKinds", spec := "modeKinds", apart := false }
def ModeKindsSaid : Prop := modeKindsRow.holds Try.pinned (OpenSpec.ofChange modeKindsSpec)

/-- ITS FALSE NEIGHBOUR: 'it returns false'. Refute it at one input. -/
def modeKindsWrong : ChangeSpec := { name := "modeKinds", fn := fun _ => fun
  | [d1, d2, d3, d4] => { results := [.lit (.bool false)], args := [d1, d2, d3, d4] }
  | _ => none }
def ModeKindsWrongFalsely : Prop := modeKindsRow.holds Try.pinned (OpenSpec.ofChange modeKindsWrong)

/-- 'dynamolaw26.ModeSays': WHATEVER THE INPUT: true; the input reads as it did. -/
def modeSaysSpec : ChangeSpec := { name := "modeSays", fn := fun _ => fun
  | [d1, d2, d3, d4, d5, d6, d7] => { results := [.lit (.bool true)], args := [d1, d2, d3, d4, d5, d6, d7] }
  | _ => none }
def modeSaysRow : OpenClaim := { program := "ytncpbbdgckkdmaa", sum := "c6ae251c06bc7a8de8ce52864539657fde248de87885f511073a4d83c6991d50", func := "dynamo/dynamolaw26.ModeSays", spec := "modeSays", apart := false }
def ModeSaysSaid : Prop := modeSaysRow.holds Try.pinned (OpenSpec.ofChange modeSaysSpec)

/-- ITS FALSE NEIGHBOUR: 'it returns false'. Refute it at one input. -/
def modeSaysWrong : ChangeSpec := { name := "modeSays", fn := fun _ => fun
  | [d1, d2, d3, d4, d5, d6, d7] => { results := [.lit (.bool false)], args := [d1, d2, d3, d4, d5, d6, d7] }
  | _ => none }
def ModeSaysWrongFalsely : Prop := modeSaysRow.holds Try.pinned (OpenSpec.ofChange modeSaysWrong)

/-- 'dynamolaw26.ModeRanks': WHATEVER THE INPUT: true; the input reads as it did. -/
def modeRanksSpec : ChangeSpec := { name := "modeRanks", fn := fun _ => fun
  | [d1, d2, d3, d4, d5] => { results := [.lit (.bool true)], args := [d1, d2, d3, d4, d5] }
  | _ => none }
def modeRanksRow : OpenClaim := { program := "ytncpbbdgckkdmaa", sum := "c6ae251c06bc7a8de8ce52864539657fde248de87885f511073a4d83c6991d50", func := "dynamo/dynamolaw26.ModeRanks", spec := "modeRanks", apart := false }
def ModeRanksSaid : Prop := modeRanksRow.holds Try.pinned (OpenSpec.ofChange modeRanksSpec)

/-- ITS FALSE NEIGHBOUR: 'it returns false'. Refute it at one input. -/
def modeRanksWrong : ChangeSpec := { name := "modeRanks", fn := fun _ => fun
  | [d1, d2, d3, d4, d5] => { results := [.lit (.bool false)], args := [d1, d2, d3, d4, d5] }
  | _ => none }
def ModeRanksWrongFalsely : Prop := modeRanksRow.holds Try.pinned (OpenSpec.ofChange modeRanksWrong)

/-- 'dynamolaw26.ModeReserves': WHATEVER THE INPUT: true; the input reads as it did. -/
def modeReservesSpec : ChangeSpec := { name := "modeReserves", fn := fun _ => fun
  | [d1, d2, d3] => { results := [.lit (.bool true)], args := [d1, d2, d3] }
  | _ => none }
def modeReservesRow : OpenClaim := { program := "ytncpbbdgckkdmaa", sum := "c6ae251c06bc7a8de8ce52864539657fde248de87885f511073a4d83c6991d50", func := "dynamo/dynamolaw26.ModeReserves", spec := "modeReserves", apart := false }
def ModeReservesSaid : Prop := modeReservesRow.holds Try.pinned (OpenSpec.ofChange modeReservesSpec)

/-- ITS FALSE NEIGHBOUR: 'it returns false'. Refute it at one input. -/
def modeReservesWrong : ChangeSpec := { name := "modeReserves", fn := fun _ => fun
  | [d1, d2, d3] => { results := [.lit (.bool false)], args := [d1, d2, d3] }
  | _ => none }
def ModeReservesWrongFalsely : Prop := modeReservesRow.holds Try.pinned (OpenSpec.ofChange modeReservesWrong)

/- THE SECOND FORM. 'bulk': how many values and letters a reading holds, each counted each time it is reached (what is shared counts as often as it is met; a slice's spare places count too). A statement '..UptoSaid' is the law's where the arguments, and the package variables that the reading takes, are together of bulk at most 1048576: NARROWER than '..Said'. Prove '..Said' where nothing that the law and all that it calls make is longer than what came in: it says more and counts as full. Else prove '..UptoSaid'. A law counts once. -/
mutual
def uptoBulk {H : Type} : DataW H → Nat
  | .lit (.string bytes) => bytes.length + 1
  | .lit _ => 1
  | .nil => 1
  | .ptr d => uptoBulk d + 1
  | .slice elems spare => uptoBulkAll elems + uptoBulkAll spare + 1
  | .agg parts => uptoBulkAll parts + 1
  | .iface _ d => uptoBulk d + 1
  | .map entries => uptoBulkEntries entries + 1
  | .held _ => 1
def uptoBulkAll {H : Type} : List (DataW H) → Nat
  | [] => 0
  | d :: r => uptoBulk d + uptoBulkAll r
def uptoBulkEntries {H : Type} : List (Lit × DataW H) → Nat
  | [] => 0
  | x :: r => uptoBulkEntry x + uptoBulkEntries r
def uptoBulkEntry {H : Type} : Lit × DataW H → Nat
  | (.string bytes, d) => bytes.length + uptoBulk d + 1
  | (_, d) => uptoBulk d + 1
 end
def uptoSmall : (H : Type) → List (DataW H) → Bool := fun _ ds => decide (uptoBulkAll ds ≤ 1048576)
def OpenSpec.upto (s : _root_.Go.ChangeSpec) : _root_.Go.OpenSpec := { _root_.Go.OpenSpec.ofChange s with cond := some uptoSmall }

/-- 'dynamolaw15.CellOne', WHERE WHAT IT READS IS OF BULK AT MOST 1048576: true; the input reads as it did. -/
def cellOneUptoRow : OpenClaim := { program := "ytncpbbdgckkdmaa", sum := "c6ae251c06bc7a8de8ce52864539657fde248de87885f511073a4d83c6991d50", func := "dynamo/dynamolaw15.CellOne", spec := "cellOne", apart := false, narrowed := true }
def CellOneUptoSaid : Prop := cellOneUptoRow.holds Try.pinned (OpenSpec.upto cellOneSpec)

/-- 'dynamolaw15.CellAll', WHERE WHAT IT READS IS OF BULK AT MOST 1048576: true; the input reads as it did. -/
def cellAllUptoRow : OpenClaim := { program := "ytncpbbdgckkdmaa", sum := "c6ae251c06bc7a8de8ce52864539657fde248de87885f511073a4d83c6991d50", func := "dynamo/dynamolaw15.CellAll", spec := "cellAll", apart := false, narrowed := true }
def CellAllUptoSaid : Prop := cellAllUptoRow.holds Try.pinned (OpenSpec.upto cellAllSpec)

/-- 'dynamolaw24.LocateSmall', WHERE WHAT IT READS IS OF BULK AT MOST 1048576: true; the input reads as it did. -/
def locateSmallUptoRow : OpenClaim := { program := "ytncpbbdgckkdmaa", sum := "c6ae251c06bc7a8de8ce52864539657fde248de87885f511073a4d83c6991d50", func := "dynamo/dynamolaw24.LocateSmall", spec := "locateSmall", apart := false, narrowed := true }
def LocateSmallUptoSaid : Prop := locateSmallUptoRow.holds Try.pinned (OpenSpec.upto locateSmallSpec)

/-- 'dynamolaw24.LocateRows', WHERE WHAT IT READS IS OF BULK AT MOST 1048576: true; the input reads as it did. -/
def locateRowsUptoRow : OpenClaim := { program := "ytncpbbdgckkdmaa", sum := "c6ae251c06bc7a8de8ce52864539657fde248de87885f511073a4d83c6991d50", func := "dynamo/dynamolaw24.LocateRows", spec := "locateRows", apart := false, narrowed := true }
def LocateRowsUptoSaid : Prop := locateRowsUptoRow.holds Try.pinned (OpenSpec.upto locateRowsSpec)

/-- 'dynamolaw24.LocateOnce', WHERE WHAT IT READS IS OF BULK AT MOST 1048576: true; the input reads as it did. -/
def locateOnceUptoRow : OpenClaim := { program := "ytncpbbdgckkdmaa", sum := "c6ae251c06bc7a8de8ce52864539657fde248de87885f511073a4d83c6991d50", func := "dynamo/dynamolaw24.LocateOnce", spec := "locateOnce", apart := false, narrowed := true }
def LocateOnceUptoSaid : Prop := locateOnceUptoRow.holds Try.pinned (OpenSpec.upto locateOnceSpec)

/-- 'dynamolaw26.ModeKinds', WHERE WHAT IT READS IS OF BULK AT MOST 1048576: true; the input reads as it did. -/
def modeKindsUptoRow : OpenClaim := { program := "ytncpbbdgckkdmaa", sum := "c6ae251c06bc7a8de8ce52864539657fde248de87885f511073a4d83c6991d50", func := "dynamo/dynamolaw26.ModeKinds", spec := "modeKinds", apart := false, narrowed := true }
def ModeKindsUptoSaid : Prop := modeKindsUptoRow.holds Try.pinned (OpenSpec.upto modeKindsSpec)

/-- 'dynamolaw26.ModeSays', WHERE WHAT IT READS IS OF BULK AT MOST 1048576: true; the input reads as it did. -/
def modeSaysUptoRow : OpenClaim := { program := "ytncpbbdgckkdmaa", sum := "c6ae251c06bc7a8de8ce52864539657fde248de87885f511073a4d83c6991d50", func := "dynamo/dynamolaw26.ModeSays", spec := "modeSays", apart := false, narrowed := true }
def ModeSaysUptoSaid : Prop := modeSaysUptoRow.holds Try.pinned (OpenSpec.upto modeSaysSpec)

/-- 'dynamolaw26.ModeRanks', WHERE WHAT IT READS IS OF BULK AT MOST 1048576: true; the input reads as it did. -/
def modeRanksUptoRow : OpenClaim := { program := "ytncpbbdgckkdmaa", sum := "c6ae251c06bc7a8de8ce52864539657fde248de87885f511073a4d83c6991d50", func := "dynamo/dynamolaw26.ModeRanks", spec := "modeRanks", apart := false, narrowed := true }
def ModeRanksUptoSaid : Prop := modeRanksUptoRow.holds Try.pinned (OpenSpec.upto modeRanksSpec)

/-- 'dynamolaw26.ModeReserves', WHERE WHAT IT READS IS OF BULK AT MOST 1048576: true; the input reads as it did. -/
def modeReservesUptoRow : OpenClaim := { program := "ytncpbbdgckkdmaa", sum := "c6ae251c06bc7a8de8ce52864539657fde248de87885f511073a4d83c6991d50", func := "dynamo/dynamolaw26.ModeReserves", spec := "modeReserves", apart := false, narrowed := true }
def ModeReservesUptoSaid : Prop := modeReservesUptoRow.holds Try.pinned (OpenSpec.upto modeReservesSpec)

end Rows
end Go.Proofs.Ytncpbbdgckkdmaa
