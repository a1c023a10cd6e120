/-
  No cell of these rows narrows 'for every input' (looked for: loops, veiled, ifaces, maps, wideKeys, modest, calm, conditions, laid).
  DERIVED. THE GIVEN ROWS OF THIS SEAT. 11 by the template 'for every input the law returns true; each argument reads behind the call as it read before'; 0 by the template 'total and deterministic' (their statements: YtdpdakecglpafaaTotals.lean).
  GIVEN WITH THE SEED: the statements are not yours to turn. If you find one false, say at which input.
  Laid BY PROGRAM, IN A SANDBOX (cutbox-rows.mjs): the forced cells as the released guide's own fill.sh prints them over the translation 0455ced62f2d16f0… (all of the seat's roots in one cut). By AI agents, Wed Nov 11 2026. No macro, syntax, notation, axiom, sorry.
-/
import Derived.Test.YtdpdakecglpafaaChecked
import GoSem.Claim
import GoSem.ClaimJoined
import GoSem.ClaimMapViews
import Derived.JoinedTies
import Derived.KernelRfl
namespace Go.Proofs.Ytdpdakecglpafaa
/- THE CELL 'sum', in the pinned program and in every row, IS THE sha256 OF THE DUMP (.gsa) THAT YtdpdakecglpafaaProg.lean LOADS. Nothing in Lean hashes anything: it is a label: what it is worth is what the hold of that sum in a sandbox is worth. -/
noncomputable def Try.pinned : Pinned := { name := "ytdpdakecglpafaa", sum := "0455ced62f2d16f04f620bed1cbf9bb519a29df916027b4478c8f91508c63dc3", checked := Try.checked }
namespace Rows
def none {H : Type} : Left H := { results := [], args := [] }

/-- 'dynamolaw13.DebounceSlow': WHATEVER THE INPUT: true; the input reads as it did. -/
def debounceSlowSpec : ChangeSpec := { name := "debounceSlow", fn := fun _ => fun
  | [d1, d2, d3, d4] => { results := [.lit (.bool true)], args := [d1, d2, d3, d4] }
  | _ => none }
def debounceSlowRow : OpenClaim := { program := "ytdpdakecglpafaa", sum := "0455ced62f2d16f04f620bed1cbf9bb519a29df916027b4478c8f91508c63dc3", func := "dynamo/dynamolaw13.DebounceSlow", spec := "debounceSlow", apart := false }
def DebounceSlowSaid : Prop := debounceSlowRow.holds Try.pinned (OpenSpec.ofChange debounceSlowSpec)

/-- ITS FALSE NEIGHBOUR: 'it returns false'. Refute it at one input. -/
def debounceSlowWrong : ChangeSpec := { name := "debounceSlow", fn := fun _ => fun
  | [d1, d2, d3, d4] => { results := [.lit (.bool false)], args := [d1, d2, d3, d4] }
  | _ => none }
def DebounceSlowWrongFalsely : Prop := debounceSlowRow.holds Try.pinned (OpenSpec.ofChange debounceSlowWrong)

/-- 'dynamolaw13.DebouncePlays': WHATEVER THE INPUT: true; the input reads as it did. -/
def debouncePlaysSpec : ChangeSpec := { name := "debouncePlays", fn := fun _ => fun
  | [d1, d2, d3] => { results := [.lit (.bool true)], args := [d1, d2, d3] }
  | _ => none }
def debouncePlaysRow : OpenClaim := { program := "ytdpdakecglpafaa", sum := "0455ced62f2d16f04f620bed1cbf9bb519a29df916027b4478c8f91508c63dc3", func := "dynamo/dynamolaw13.DebouncePlays", spec := "debouncePlays", apart := false }
def DebouncePlaysSaid : Prop := debouncePlaysRow.holds Try.pinned (OpenSpec.ofChange debouncePlaysSpec)

/-- ITS FALSE NEIGHBOUR: 'it returns false'. Refute it at one input. -/
def debouncePlaysWrong : ChangeSpec := { name := "debouncePlays", fn := fun _ => fun
  | [d1, d2, d3] => { results := [.lit (.bool false)], args := [d1, d2, d3] }
  | _ => none }
def DebouncePlaysWrongFalsely : Prop := debouncePlaysRow.holds Try.pinned (OpenSpec.ofChange debouncePlaysWrong)

/-- 'dynamolaw13.DebounceRows': WHATEVER THE INPUT: true; the input reads as it did. -/
def debounceRowsSpec : ChangeSpec := { name := "debounceRows", fn := fun _ => fun
  | [d1, d2, d3] => { results := [.lit (.bool true)], args := [d1, d2, d3] }
  | _ => none }
def debounceRowsRow : OpenClaim := { program := "ytdpdakecglpafaa", sum := "0455ced62f2d16f04f620bed1cbf9bb519a29df916027b4478c8f91508c63dc3", func := "dynamo/dynamolaw13.DebounceRows", spec := "debounceRows", apart := false }
def DebounceRowsSaid : Prop := debounceRowsRow.holds Try.pinned (OpenSpec.ofChange debounceRowsSpec)

/-- ITS FALSE NEIGHBOUR: 'it returns false'. Refute it at one input. -/
def debounceRowsWrong : ChangeSpec := { name := "debounceRows", fn := fun _ => fun
  | [d1, d2, d3] => { results := [.lit (.bool false)], args := [d1, d2, d3] }
  | _ => none }
def DebounceRowsWrongFalsely : Prop := debounceRowsRow.holds Try.pinned (OpenSpec.ofChange debounceRowsWrong)

/-- 'dynamolaw13.DebounceFlips': WHATEVER THE INPUT: true; the input reads as it did. -/
def debounceFlipsSpec : ChangeSpec := { name := "debounceFlips", fn := fun _ => fun
  | [d1, d2, d3] => { results := [.lit (.bool true)], args := [d1, d2, d3] }
  | _ => none }
def debounceFlipsRow : OpenClaim := { program := "ytdpdakecglpafaa", sum := "0455ced62f2d16f04f620bed1cbf9bb519a29df916027b4478c8f91508c63dc3", func := "dynamo/dynamolaw13.DebounceFlips", spec := "debounceFlips", apart := false }
def DebounceFlipsSaid : Prop := debounceFlipsRow.holds Try.pinned (OpenSpec.ofChange debounceFlipsSpec)

/-- ITS FALSE NEIGHBOUR: 'it returns false'. Refute it at one input. -/
def debounceFlipsWrong : ChangeSpec := { name := "debounceFlips", fn := fun _ => fun
  | [d1, d2, d3] => { results := [.lit (.bool false)], args := [d1, d2, d3] }
  | _ => none }
def DebounceFlipsWrongFalsely : Prop := debounceFlipsRow.holds Try.pinned (OpenSpec.ofChange debounceFlipsWrong)

/-- 'dynamolaw5.CrcSays': WHATEVER THE INPUT: true; the input reads as it did. -/
def crcSaysSpec : ChangeSpec := { name := "crcSays", fn := fun _ => fun
  | [d1, d2, d3, d4] => { results := [.lit (.bool true)], args := [d1, d2, d3, d4] }
  | _ => none }
def crcSaysRow : OpenClaim := { program := "ytdpdakecglpafaa", sum := "0455ced62f2d16f04f620bed1cbf9bb519a29df916027b4478c8f91508c63dc3", func := "dynamo/dynamolaw5.CrcSays", spec := "crcSays", apart := false }
def CrcSaysSaid : Prop := crcSaysRow.holds Try.pinned (OpenSpec.ofChange crcSaysSpec)

/-- ITS FALSE NEIGHBOUR: 'it returns false'. Refute it at one input. -/
def crcSaysWrong : ChangeSpec := { name := "crcSays", fn := fun _ => fun
  | [d1, d2, d3, d4] => { results := [.lit (.bool false)], args := [d1, d2, d3, d4] }
  | _ => none }
def CrcSaysWrongFalsely : Prop := crcSaysRow.holds Try.pinned (OpenSpec.ofChange crcSaysWrong)

/-- 'dynamolaw5.CrcFinds': WHATEVER THE INPUT: true; the input reads as it did. -/
def crcFindsSpec : ChangeSpec := { name := "crcFinds", fn := fun _ => fun
  | [d1, d2, d3, d4] => { results := [.lit (.bool true)], args := [d1, d2, d3, d4] }
  | _ => none }
def crcFindsRow : OpenClaim := { program := "ytdpdakecglpafaa", sum := "0455ced62f2d16f04f620bed1cbf9bb519a29df916027b4478c8f91508c63dc3", func := "dynamo/dynamolaw5.CrcFinds", spec := "crcFinds", apart := false }
def CrcFindsSaid : Prop := crcFindsRow.holds Try.pinned (OpenSpec.ofChange crcFindsSpec)

/-- ITS FALSE NEIGHBOUR: 'it returns false'. Refute it at one input. -/
def crcFindsWrong : ChangeSpec := { name := "crcFinds", fn := fun _ => fun
  | [d1, d2, d3, d4] => { results := [.lit (.bool false)], args := [d1, d2, d3, d4] }
  | _ => none }
def CrcFindsWrongFalsely : Prop := crcFindsRow.holds Try.pinned (OpenSpec.ofChange crcFindsWrong)

/-- 'dynamolaw5.CrcRows': WHATEVER THE INPUT: true; the input reads as it did. -/
def crcRowsSpec : ChangeSpec := { name := "crcRows", fn := fun _ => fun
  | [d1, d2, d3] => { results := [.lit (.bool true)], args := [d1, d2, d3] }
  | _ => none }
def crcRowsRow : OpenClaim := { program := "ytdpdakecglpafaa", sum := "0455ced62f2d16f04f620bed1cbf9bb519a29df916027b4478c8f91508c63dc3", func := "dynamo/dynamolaw5.CrcRows", spec := "crcRows", apart := false }
def CrcRowsSaid : Prop := crcRowsRow.holds Try.pinned (OpenSpec.ofChange crcRowsSpec)

/-- ITS FALSE NEIGHBOUR: 'it returns false'. Refute it at one input. -/
def crcRowsWrong : ChangeSpec := { name := "crcRows", fn := fun _ => fun
  | [d1, d2, d3] => { results := [.lit (.bool false)], args := [d1, d2, d3] }
  | _ => none }
def CrcRowsWrongFalsely : Prop := crcRowsRow.holds Try.pinned (OpenSpec.ofChange crcRowsWrong)

/-- 'dynamolaw5.CrcEnds': WHATEVER THE INPUT: true; the input reads as it did. -/
def crcEndsSpec : ChangeSpec := { name := "crcEnds", fn := fun _ => fun
  | [d1, d2, d3] => { results := [.lit (.bool true)], args := [d1, d2, d3] }
  | _ => none }
def crcEndsRow : OpenClaim := { program := "ytdpdakecglpafaa", sum := "0455ced62f2d16f04f620bed1cbf9bb519a29df916027b4478c8f91508c63dc3", func := "dynamo/dynamolaw5.CrcEnds", spec := "crcEnds", apart := false }
def CrcEndsSaid : Prop := crcEndsRow.holds Try.pinned (OpenSpec.ofChange crcEndsSpec)

/-- ITS FALSE NEIGHBOUR: 'it returns false'. Refute it at one input. -/
def crcEndsWrong : ChangeSpec := { name := "crcEnds", fn := fun _ => fun
  | [d1, d2, d3] => { results := [.lit (.bool false)], args := [d1, d2, d3] }
  | _ => none }
def CrcEndsWrongFalsely : Prop := crcEndsRow.holds Try.pinned (OpenSpec.ofChange crcEndsWrong)

/-- 'dynamolaw14.PhasorSays': WHATEVER THE INPUT: true; the input reads as it did. -/
def phasorSaysSpec : ChangeSpec := { name := "phasorSays", fn := fun _ => fun
  | [d1, d2, d3, d4, d5] => { results := [.lit (.bool true)], args := [d1, d2, d3, d4, d5] }
  | _ => none }
def phasorSaysRow : OpenClaim := { program := "ytdpdakecglpafaa", sum := "0455ced62f2d16f04f620bed1cbf9bb519a29df916027b4478c8f91508c63dc3", func := "dynamo/dynamolaw14.PhasorSays", spec := "phasorSays", apart := false }
def PhasorSaysSaid : Prop := phasorSaysRow.holds Try.pinned (OpenSpec.ofChange phasorSaysSpec)

/-- ITS FALSE NEIGHBOUR: 'it returns false'. Refute it at one input. -/
def phasorSaysWrong : ChangeSpec := { name := "phasorSays", fn := fun _ => fun
  | [d1, d2, d3, d4, d5] => { results := [.lit (.bool false)], args := [d1, d2, d3, d4, d5] }
  | _ => none }
def PhasorSaysWrongFalsely : Prop := phasorSaysRow.holds Try.pinned (OpenSpec.ofChange phasorSaysWrong)

/-- 'dynamolaw14.PhasorTurns': WHATEVER THE INPUT: true; the input reads as it did. -/
def phasorTurnsSpec : ChangeSpec := { name := "phasorTurns", fn := fun _ => fun
  | [d1, d2, d3, d4, d5, d6] => { results := [.lit (.bool true)], args := [d1, d2, d3, d4, d5, d6] }
  | _ => none }
def phasorTurnsRow : OpenClaim := { program := "ytdpdakecglpafaa", sum := "0455ced62f2d16f04f620bed1cbf9bb519a29df916027b4478c8f91508c63dc3", func := "dynamo/dynamolaw14.PhasorTurns", spec := "phasorTurns", apart := false }
def PhasorTurnsSaid : Prop := phasorTurnsRow.holds Try.pinned (OpenSpec.ofChange phasorTurnsSpec)

/-- ITS FALSE NEIGHBOUR: 'it returns false'. Refute it at one input. -/
def phasorTurnsWrong : ChangeSpec := { name := "phasorTurns", fn := fun _ => fun
  | [d1, d2, d3, d4, d5, d6] => { results := [.lit (.bool false)], args := [d1, d2, d3, d4, d5, d6] }
  | _ => none }
def PhasorTurnsWrongFalsely : Prop := phasorTurnsRow.holds Try.pinned (OpenSpec.ofChange phasorTurnsWrong)

/-- 'dynamolaw14.PhasorGood': WHATEVER THE INPUT: true; the input reads as it did. -/
def phasorGoodSpec : ChangeSpec := { name := "phasorGood", fn := fun _ => fun
  | [d1, d2, d3, d4] => { results := [.lit (.bool true)], args := [d1, d2, d3, d4] }
  | _ => none }
def phasorGoodRow : OpenClaim := { program := "ytdpdakecglpafaa", sum := "0455ced62f2d16f04f620bed1cbf9bb519a29df916027b4478c8f91508c63dc3", func := "dynamo/dynamolaw14.PhasorGood", spec := "phasorGood", apart := false }
def PhasorGoodSaid : Prop := phasorGoodRow.holds Try.pinned (OpenSpec.ofChange phasorGoodSpec)

/-- ITS FALSE NEIGHBOUR: 'it returns false'. Refute it at one input. -/
def phasorGoodWrong : ChangeSpec := { name := "phasorGood", fn := fun _ => fun
  | [d1, d2, d3, d4] => { results := [.lit (.bool false)], args := [d1, d2, d3, d4] }
  | _ => none }
def PhasorGoodWrongFalsely : Prop := phasorGoodRow.holds Try.pinned (OpenSpec.ofChange phasorGoodWrong)

/- THE SECOND FORM. 'bulk': how many values and letters a reading holds, each counted each time it is reached (what is shared counts as often as it is met; a slice's spare places count too). A statement '..UptoSaid' is the law's where the arguments, and the package variables that the reading takes, are together of bulk at most 1048576: NARROWER than '..Said'. Prove '..Said' where nothing that the law and all that it calls make is longer than what came in: it says more and counts as full. Else prove '..UptoSaid'. A law counts once. -/
mutual
def uptoBulk {H : Type} : DataW H → Nat
  | .lit (.string bytes) => bytes.length + 1
  | .lit _ => 1
  | .nil => 1
  | .ptr d => uptoBulk d + 1
  | .slice elems spare => uptoBulkAll elems + uptoBulkAll spare + 1
  | .agg parts => uptoBulkAll parts + 1
  | .iface _ d => uptoBulk d + 1
  | .map entries => uptoBulkEntries entries + 1
  | .held _ => 1
def uptoBulkAll {H : Type} : List (DataW H) → Nat
  | [] => 0
  | d :: r => uptoBulk d + uptoBulkAll r
def uptoBulkEntries {H : Type} : List (Lit × DataW H) → Nat
  | [] => 0
  | x :: r => uptoBulkEntry x + uptoBulkEntries r
def uptoBulkEntry {H : Type} : Lit × DataW H → Nat
  | (.string bytes, d) => bytes.length + uptoBulk d + 1
  | (_, d) => uptoBulk d + 1
 end
def uptoSmall : (H : Type) → List (DataW H) → Bool := fun _ ds => decide (uptoBulkAll ds ≤ 1048576)
def OpenSpec.upto (s : _root_.Go.ChangeSpec) : _root_.Go.OpenSpec := { _root_.Go.OpenSpec.ofChange s with cond := some uptoSmall }

/-- 'dynamolaw13.DebounceSlow', WHERE WHAT IT READS IS OF BULK AT MOST 1048576: true; the input reads as it did. -/
def debounceSlowUptoRow : OpenClaim := { program := "ytdpdakecglpafaa", sum := "0455ced62f2d16f04f620bed1cbf9bb519a29df916027b4478c8f91508c63dc3", func := "dynamo/dynamolaw13.DebounceSlow", spec := "debounceSlow", apart := false, narrowed := true }
def DebounceSlowUptoSaid : Prop := debounceSlowUptoRow.holds Try.pinned (OpenSpec.upto debounceSlowSpec)

/-- 'dynamolaw13.DebouncePlays', WHERE WHAT IT READS IS OF BULK AT MOST 1048576: true; the input reads as it did. -/
def debouncePlaysUptoRow : OpenClaim := { program := "ytdpdakecglpafaa", sum := "0455ced62f2d16f04f620bed1cbf9bb519a29df916027b4478c8f91508c63dc3", func := "dynamo/dynamolaw13.DebouncePlays", spec := "debouncePlays", apart := false, narrowed := true }
def DebouncePlaysUptoSaid : Prop := debouncePlaysUptoRow.holds Try.pinned (OpenSpec.upto debouncePlaysSpec)

/-- 'dynamolaw13.DebounceRows', WHERE WHAT IT READS IS OF BULK AT MOST 1048576: true; the input reads as it did. -/
def debounceRowsUptoRow : OpenClaim := { program := "ytdpdakecglpafaa", sum := "0455ced62f2d16f04f620bed1cbf9bb519a29df916027b4478c8f91508c63dc3", func := "dynamo/dynamolaw13.DebounceRows", spec := "debounceRows", apart := false, narrowed := true }
def DebounceRowsUptoSaid : Prop := debounceRowsUptoRow.holds Try.pinned (OpenSpec.upto debounceRowsSpec)

/-- 'dynamolaw13.DebounceFlips', WHERE WHAT IT READS IS OF BULK AT MOST 1048576: true; the input reads as it did. -/
def debounceFlipsUptoRow : OpenClaim := { program := "ytdpdakecglpafaa", sum := "0455ced62f2d16f04f620bed1cbf9bb519a29df916027b4478c8f91508c63dc3", func := "dynamo/dynamolaw13.DebounceFlips", spec := "debounceFlips", apart := false, narrowed := true }
def DebounceFlipsUptoSaid : Prop := debounceFlipsUptoRow.holds Try.pinned (OpenSpec.upto debounceFlipsSpec)

/-- 'dynamolaw5.CrcSays', WHERE WHAT IT READS IS OF BULK AT MOST 1048576: true; the input reads as it did. -/
def crcSaysUptoRow : OpenClaim := { program := "ytdpdakecglpafaa", sum := "0455ced62f2d16f04f620bed1cbf9bb519a29df916027b4478c8f91508c63dc3", func := "dynamo/dynamolaw5.CrcSays", spec := "crcSays", apart := false, narrowed := true }
def CrcSaysUptoSaid : Prop := crcSaysUptoRow.holds Try.pinned (OpenSpec.upto crcSaysSpec)

/-- 'dynamolaw5.CrcFinds', WHERE WHAT IT READS IS OF BULK AT MOST 1048576: true; the input reads as it did. -/
def crcFindsUptoRow : OpenClaim := { program := "ytdpdakecglpafaa", sum := "0455ced62f2d16f04f620bed1cbf9bb519a29df916027b4478c8f91508c63dc3", func := "dynamo/dynamolaw5.CrcFinds", spec := "crcFinds", apart := false, narrowed := true }
def CrcFindsUptoSaid : Prop := crcFindsUptoRow.holds Try.pinned (OpenSpec.upto crcFindsSpec)

/-- 'dynamolaw5.CrcRows', WHERE WHAT IT READS IS OF BULK AT MOST 1048576: true; the input reads as it did. -/
def crcRowsUptoRow : OpenClaim := { program := "ytdpdakecglpafaa", sum := "0455ced62f2d16f04f620bed1cbf9bb519a29df916027b4478c8f91508c63dc3", func := "dynamo/dynamolaw5.CrcRows", spec := "crcRows", apart := false, narrowed := true }
def CrcRowsUptoSaid : Prop := crcRowsUptoRow.holds Try.pinned (OpenSpec.upto crcRowsSpec)

/-- 'dynamolaw5.CrcEnds', WHERE WHAT IT READS IS OF BULK AT MOST 1048576: true; the input reads as it did. -/
def crcEndsUptoRow : OpenClaim := { program := "ytdpdakecglpafaa", sum := "0455ced62f2d16f04f620bed1cbf9bb519a29df916027b4478c8f91508c63dc3", func := "dynamo/dynamolaw5.CrcEnds", spec := "crcEnds", apart := false, narrowed := true }
def CrcEndsUptoSaid : Prop := crcEndsUptoRow.holds Try.pinned (OpenSpec.upto crcEndsSpec)

/-- 'dynamolaw14.PhasorSays', WHERE WHAT IT READS IS OF BULK AT MOST 1048576: true; the input reads as it did. -/
def phasorSaysUptoRow : OpenClaim := { program := "ytdpdakecglpafaa", sum := "0455ced62f2d16f04f620bed1cbf9bb519a29df916027b4478c8f91508c63dc3", func := "dynamo/dynamolaw14.PhasorSays", spec := "phasorSays", apart := false, narrowed := true }
def PhasorSaysUptoSaid : Prop := phasorSaysUptoRow.holds Try.pinned (OpenSpec.upto phasorSaysSpec)

/-- 'dynamolaw14.PhasorTurns', WHERE WHAT IT READS IS OF BULK AT MOST 1048576: true; the input reads as it did. -/
def phasorTurnsUptoRow : OpenClaim := { program := "ytdpdakecglpafaa", sum := "0455ced62f2d16f04f620bed1cbf9bb519a29df916027b4478c8f91508c63dc3", func := "dynamo/dynamolaw14.PhasorTurns", spec := "phasorTurns", apart := false, narrowed := true }
def PhasorTurnsUptoSaid : Prop := phasorTurnsUptoRow.holds Try.pinned (OpenSpec.upto phasorTurnsSpec)

/-- 'dynamolaw14.PhasorGood', WHERE WHAT IT READS IS OF BULK AT MOST 1048576: true; the input reads as it did. -/
def phasorGoodUptoRow : OpenClaim := { program := "ytdpdakecglpafaa", sum := "0455ced62f2d16f04f620bed1cbf9bb519a29df916027b4478c8f91508c63dc3", func := "dynamo/dynamolaw14.PhasorGood", spec := "phasorGood", apart := false, narrowed := true }
def PhasorGoodUptoSaid : Prop := phasorGoodUptoRow.holds Try.pinned (OpenSpec.upto phasorGoodSpec)

end Rows
end Go.Proofs.Ytdpdakecglpafaa
