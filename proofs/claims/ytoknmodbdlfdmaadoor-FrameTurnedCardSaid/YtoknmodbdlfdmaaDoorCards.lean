/-
  DERIVED. GIVEN WITH THE SEED: THE CARDS: each row of YtoknmodbdlfdmaaDoorRows.lean that lists a variable, with what it lists TIED to the program's text (the seventh form; the later family's looks); each row that meets fmt, with fmt's text TOLD by the authors' own Lean function (tested against real Go, not proved from fmt's source: count such statements apart). THE CARD IS WHAT COUNTS. Prove the row's statement (the work); the ties are given (YtoknmodbdlfdmaaDoorTie.lean); close each card by the builder's one call (the guide's Derived/Test/ToyasCard.lean, 'card_holds'). Laid BY PROGRAM, IN A SANDBOX (cutbox-door.mjs). By AI agents, Wed Nov 11 2026. No macro, syntax, notation, axiom, sorry.
-/
import Derived.Test.YtoknmodbdlfdmaaDoorRows
import GoSem.ClaimSeven
namespace Go.Proofs.YtoknmodbdlfdmaaDoor
namespace Rows

/-- THE TIED CARD OF 'dynamolaw6.FrameSays'. -/
def frameSaysCard : Claim7 := { stood := { row := frameSaysRow, standIns := [], harness := (true, "9b8e72302a96093a94814b40f822fe0612871dc7207c89cad77f2d2d93bd7331"), looks := true }, kinds := [], alts := [], laidByText := true, laidKinds := [.sentinel, .sentinel, .sentinel, .sentinel, .sentinel, .sentinel, .sentinel], laidTests := true, laidLooks := .later }
def FrameSaysCardSaid : Prop := Claim7.holds Tryd.pinned (.plain (OpenSpec.ofChange frameSaysSpec)) frameSaysCard

/-- THE TIED CARD OF 'dynamolaw6.FrameRows'. -/
def frameRowsCard : Claim7 := { stood := { row := frameRowsRow, standIns := [], harness := (true, "9b8e72302a96093a94814b40f822fe0612871dc7207c89cad77f2d2d93bd7331"), looks := true }, kinds := [], alts := [], laidByText := true, laidKinds := [.sentinel], laidTests := true, laidLooks := .later }
def FrameRowsCardSaid : Prop := Claim7.holds Tryd.pinned (.plain (OpenSpec.ofChange frameRowsSpec)) frameRowsCard

/-- THE TIED CARD OF 'dynamolaw6.FrameTurned'. -/
def frameTurnedCard : Claim7 := { stood := { row := frameTurnedRow, standIns := [], harness := (true, "9b8e72302a96093a94814b40f822fe0612871dc7207c89cad77f2d2d93bd7331"), looks := true }, kinds := [], alts := [], laidByText := true, laidKinds := [.sentinel], laidTests := true, laidLooks := .later }
def FrameTurnedCardSaid : Prop := Claim7.holds Tryd.pinned (.plain (OpenSpec.ofChange frameTurnedSpec)) frameTurnedCard

/-- THE TIED CARD OF 'dynamolaw6.FrameTwice'. -/
def frameTwiceCard : Claim7 := { stood := { row := frameTwiceRow, standIns := [], harness := (true, "9b8e72302a96093a94814b40f822fe0612871dc7207c89cad77f2d2d93bd7331"), looks := true }, kinds := [], alts := [], laidByText := true, laidKinds := [.sentinel], laidTests := true, laidLooks := .later }
def FrameTwiceCardSaid : Prop := Claim7.holds Tryd.pinned (.plain (OpenSpec.ofChange frameTwiceSpec)) frameTwiceCard

/-- THE TIED CARD OF 'dynamolaw6.FrameLong'. -/
def frameLongCard : Claim7 := { stood := { row := frameLongRow, standIns := [], harness := (true, "9b8e72302a96093a94814b40f822fe0612871dc7207c89cad77f2d2d93bd7331"), looks := true }, kinds := [], alts := [], laidByText := true, laidKinds := [.sentinel], laidTests := true, laidLooks := .later }
def FrameLongCardSaid : Prop := Claim7.holds Tryd.pinned (.plain (OpenSpec.ofChange frameLongSpec)) frameLongCard

/-- THE SECOND FORM's CARD OF 'dynamolaw6.FrameSays'. -/
def frameSaysUptoCard : Claim7 := { stood := { row := frameSaysUptoRow, standIns := [], harness := (true, "9b8e72302a96093a94814b40f822fe0612871dc7207c89cad77f2d2d93bd7331"), looks := true }, kinds := [], alts := [], laidByText := true, laidKinds := [.sentinel, .sentinel, .sentinel, .sentinel, .sentinel, .sentinel, .sentinel], laidTests := true, laidLooks := .later }
def FrameSaysUptoCardSaid : Prop := Claim7.holds Tryd.pinned (.plain (OpenSpec.upto frameSaysSpec)) frameSaysUptoCard

/-- THE SECOND FORM's CARD OF 'dynamolaw6.FrameRows'. -/
def frameRowsUptoCard : Claim7 := { stood := { row := frameRowsUptoRow, standIns := [], harness := (true, "9b8e72302a96093a94814b40f822fe0612871dc7207c89cad77f2d2d93bd7331"), looks := true }, kinds := [], alts := [], laidByText := true, laidKinds := [.sentinel], laidTests := true, laidLooks := .later }
def FrameRowsUptoCardSaid : Prop := Claim7.holds Tryd.pinned (.plain (OpenSpec.upto frameRowsSpec)) frameRowsUptoCard

/-- THE SECOND FORM's CARD OF 'dynamolaw6.FrameTurned'. -/
def frameTurnedUptoCard : Claim7 := { stood := { row := frameTurnedUptoRow, standIns := [], harness := (true, "9b8e72302a96093a94814b40f822fe0612871dc7207c89cad77f2d2d93bd7331"), looks := true }, kinds := [], alts := [], laidByText := true, laidKinds := [.sentinel], laidTests := true, laidLooks := .later }
def FrameTurnedUptoCardSaid : Prop := Claim7.holds Tryd.pinned (.plain (OpenSpec.upto frameTurnedSpec)) frameTurnedUptoCard

/-- THE SECOND FORM's CARD OF 'dynamolaw6.FrameTwice'. -/
def frameTwiceUptoCard : Claim7 := { stood := { row := frameTwiceUptoRow, standIns := [], harness := (true, "9b8e72302a96093a94814b40f822fe0612871dc7207c89cad77f2d2d93bd7331"), looks := true }, kinds := [], alts := [], laidByText := true, laidKinds := [.sentinel], laidTests := true, laidLooks := .later }
def FrameTwiceUptoCardSaid : Prop := Claim7.holds Tryd.pinned (.plain (OpenSpec.upto frameTwiceSpec)) frameTwiceUptoCard

/-- THE SECOND FORM's CARD OF 'dynamolaw6.FrameLong'. -/
def frameLongUptoCard : Claim7 := { stood := { row := frameLongUptoRow, standIns := [], harness := (true, "9b8e72302a96093a94814b40f822fe0612871dc7207c89cad77f2d2d93bd7331"), looks := true }, kinds := [], alts := [], laidByText := true, laidKinds := [.sentinel], laidTests := true, laidLooks := .later }
def FrameLongUptoCardSaid : Prop := Claim7.holds Tryd.pinned (.plain (OpenSpec.upto frameLongSpec)) frameLongUptoCard
end Rows
end Go.Proofs.YtoknmodbdlfdmaaDoor
