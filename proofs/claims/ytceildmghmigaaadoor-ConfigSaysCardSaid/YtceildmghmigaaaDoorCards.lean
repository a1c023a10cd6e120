/-
  DERIVED. GIVEN WITH THE SEED: THE CARDS: each row of YtceildmghmigaaaDoorRows.lean that lists a variable, with what it lists TIED to the program's text (the seventh form; the later family's looks); each row that meets fmt, with fmt's text TOLD by the authors' own Lean function (tested against real Go, not proved from fmt's source: count such statements apart). THE CARD IS WHAT COUNTS. Prove the row's statement (the work); the ties are given (YtceildmghmigaaaDoorTie.lean); close each card by the builder's one call (the guide's Derived/Test/ToyasCard.lean, 'card_holds'). Laid BY PROGRAM, IN A SANDBOX (cutbox-door.mjs). By AI agents, Wed Nov 11 2026. No macro, syntax, notation, axiom, sorry.
-/
import Derived.Test.YtceildmghmigaaaDoorRows
import GoSem.ClaimSeven
namespace Go.Proofs.YtceildmghmigaaaDoor
namespace Rows

/-- THE TIED CARD OF 'dynamolaw27.ConfigOne'. -/
def configOneCard : Claim7 := { stood := { row := configOneRow, standIns := [], harness := (true, "940422794a0ffc49b8d294c812832da771f785f423f71425fdac19185bd902fe"), looks := true }, kinds := [], alts := [], laidByText := true, laidKinds := [.sentinel, .sentinel, .sentinel, .sentinel, .sentinel, .sentinel, .sentinel], laidTests := true, laidLooks := .later }
def ConfigOneCardSaid : Prop := Claim7.holds Tryd.pinned (.plain (OpenSpec.ofChange configOneSpec)) configOneCard

/-- THE TIED CARD OF 'dynamolaw27.ConfigParts'. -/
def configPartsCard : Claim7 := { stood := { row := configPartsRow, standIns := [], harness := (true, "940422794a0ffc49b8d294c812832da771f785f423f71425fdac19185bd902fe"), looks := true }, kinds := [], alts := [], laidByText := true, laidKinds := [.sentinel, .sentinel, .sentinel, .sentinel, .sentinel, .sentinel, .sentinel], laidTests := true, laidLooks := .later }
def ConfigPartsCardSaid : Prop := Claim7.holds Tryd.pinned (.plain (OpenSpec.ofChange configPartsSpec)) configPartsCard

/-- THE TIED CARD OF 'dynamolaw27.ConfigSays'. -/
def configSaysCard : Claim7 := { stood := { row := configSaysRow, standIns := [], harness := (true, "940422794a0ffc49b8d294c812832da771f785f423f71425fdac19185bd902fe"), looks := true }, kinds := [], alts := [], laidByText := true, laidKinds := [.sentinel, .sentinel, .sentinel, .sentinel, .sentinel, .sentinel, .sentinel], laidTests := true, laidLooks := .later }
def ConfigSaysCardSaid : Prop := Claim7.holds Tryd.pinned (.plain (OpenSpec.ofChange configSaysSpec)) configSaysCard

/-- THE TIED CARD OF 'dynamolaw27.ConfigBounds'. -/
def configBoundsCard : Claim7 := { stood := { row := configBoundsRow, standIns := [], harness := (true, "940422794a0ffc49b8d294c812832da771f785f423f71425fdac19185bd902fe"), looks := true }, kinds := [], alts := [], laidByText := true, laidKinds := [.sentinel, .sentinel, .sentinel, .sentinel, .sentinel, .sentinel, .sentinel], laidTests := true, laidLooks := .later }
def ConfigBoundsCardSaid : Prop := Claim7.holds Tryd.pinned (.plain (OpenSpec.ofChange configBoundsSpec)) configBoundsCard

/-- THE SECOND FORM's CARD OF 'dynamolaw27.ConfigOne'. -/
def configOneUptoCard : Claim7 := { stood := { row := configOneUptoRow, standIns := [], harness := (true, "940422794a0ffc49b8d294c812832da771f785f423f71425fdac19185bd902fe"), looks := true }, kinds := [], alts := [], laidByText := true, laidKinds := [.sentinel, .sentinel, .sentinel, .sentinel, .sentinel, .sentinel, .sentinel], laidTests := true, laidLooks := .later }
def ConfigOneUptoCardSaid : Prop := Claim7.holds Tryd.pinned (.plain (OpenSpec.upto configOneSpec)) configOneUptoCard

/-- THE SECOND FORM's CARD OF 'dynamolaw27.ConfigParts'. -/
def configPartsUptoCard : Claim7 := { stood := { row := configPartsUptoRow, standIns := [], harness := (true, "940422794a0ffc49b8d294c812832da771f785f423f71425fdac19185bd902fe"), looks := true }, kinds := [], alts := [], laidByText := true, laidKinds := [.sentinel, .sentinel, .sentinel, .sentinel, .sentinel, .sentinel, .sentinel], laidTests := true, laidLooks := .later }
def ConfigPartsUptoCardSaid : Prop := Claim7.holds Tryd.pinned (.plain (OpenSpec.upto configPartsSpec)) configPartsUptoCard

/-- THE SECOND FORM's CARD OF 'dynamolaw27.ConfigSays'. -/
def configSaysUptoCard : Claim7 := { stood := { row := configSaysUptoRow, standIns := [], harness := (true, "940422794a0ffc49b8d294c812832da771f785f423f71425fdac19185bd902fe"), looks := true }, kinds := [], alts := [], laidByText := true, laidKinds := [.sentinel, .sentinel, .sentinel, .sentinel, .sentinel, .sentinel, .sentinel], laidTests := true, laidLooks := .later }
def ConfigSaysUptoCardSaid : Prop := Claim7.holds Tryd.pinned (.plain (OpenSpec.upto configSaysSpec)) configSaysUptoCard

/-- THE SECOND FORM's CARD OF 'dynamolaw27.ConfigBounds'. -/
def configBoundsUptoCard : Claim7 := { stood := { row := configBoundsUptoRow, standIns := [], harness := (true, "940422794a0ffc49b8d294c812832da771f785f423f71425fdac19185bd902fe"), looks := true }, kinds := [], alts := [], laidByText := true, laidKinds := [.sentinel, .sentinel, .sentinel, .sentinel, .sentinel, .sentinel, .sentinel], laidTests := true, laidLooks := .later }
def ConfigBoundsUptoCardSaid : Prop := Claim7.holds Tryd.pinned (.plain (OpenSpec.upto configBoundsSpec)) configBoundsUptoCard
end Rows
end Go.Proofs.YtceildmghmigaaaDoor
