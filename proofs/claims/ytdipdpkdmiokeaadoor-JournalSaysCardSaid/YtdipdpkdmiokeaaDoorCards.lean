/-
  DERIVED. GIVEN WITH THE SEED: THE CARDS: each row of YtdipdpkdmiokeaaDoorRows.lean that lists a variable, with what it lists TIED to the program's text (the seventh form; the later family's looks); each row that meets fmt, with fmt's text TOLD by the authors' own Lean function (tested against real Go, not proved from fmt's source: count such statements apart). THE CARD IS WHAT COUNTS. Prove the row's statement (the work); the ties are given (YtdipdpkdmiokeaaDoorTie.lean); close each card by the builder's one call (the guide's Derived/Test/ToyasCard.lean, 'card_holds'). Laid BY PROGRAM, IN A SANDBOX (cutbox-door.mjs). By AI agents, Wed Nov 11 2026. No macro, syntax, notation, axiom, sorry.
-/
import Derived.Test.YtdipdpkdmiokeaaDoorRows
import GoSem.ClaimSeven
namespace Go.Proofs.YtdipdpkdmiokeaaDoor
namespace Rows

/-- THE TIED CARD OF 'dynamolaw11.SlotSays'. -/
def slotSaysCard : Claim7 := { stood := { row := slotSaysRow, standIns := [], harness := (true, "46a271d7d2a72555d3f9604fc2f4eda1b7a2501b74e8bf3921bf282c79000529"), looks := true }, kinds := [], alts := [], laidByText := true, laidKinds := [.sentinel, .sentinel, .sentinel, .sentinel, .sentinel, .sentinel, .sentinel], laidTests := true, laidLooks := .later }
def SlotSaysCardSaid : Prop := Claim7.holds Tryd.pinned (.plain (OpenSpec.ofChange slotSaysSpec)) slotSaysCard

/-- THE TIED CARD OF 'dynamolaw11.SlotBack'. -/
def slotBackCard : Claim7 := { stood := { row := slotBackRow, standIns := [], harness := (true, "46a271d7d2a72555d3f9604fc2f4eda1b7a2501b74e8bf3921bf282c79000529"), looks := true }, kinds := [], alts := [], laidByText := true, laidKinds := [.sentinel, .sentinel, .sentinel, .sentinel, .sentinel, .sentinel, .sentinel], laidTests := true, laidLooks := .later }
def SlotBackCardSaid : Prop := Claim7.holds Tryd.pinned (.plain (OpenSpec.ofChange slotBackSpec)) slotBackCard

/-- THE TIED CARD OF 'dynamolaw11.SlotBounds'. -/
def slotBoundsCard : Claim7 := { stood := { row := slotBoundsRow, standIns := [], harness := (true, "46a271d7d2a72555d3f9604fc2f4eda1b7a2501b74e8bf3921bf282c79000529"), looks := true }, kinds := [], alts := [], laidByText := true, laidKinds := [.sentinel, .sentinel, .sentinel, .sentinel, .sentinel, .sentinel, .sentinel], laidTests := true, laidLooks := .later }
def SlotBoundsCardSaid : Prop := Claim7.holds Tryd.pinned (.plain (OpenSpec.ofChange slotBoundsSpec)) slotBoundsCard

/-- THE TIED CARD OF 'dynamolaw11.SlotUnlike'. -/
def slotUnlikeCard : Claim7 := { stood := { row := slotUnlikeRow, standIns := [], harness := (true, "46a271d7d2a72555d3f9604fc2f4eda1b7a2501b74e8bf3921bf282c79000529"), looks := true }, kinds := [], alts := [], laidByText := true, laidKinds := [.sentinel, .sentinel, .sentinel, .sentinel, .sentinel, .sentinel, .sentinel], laidTests := true, laidLooks := .later }
def SlotUnlikeCardSaid : Prop := Claim7.holds Tryd.pinned (.plain (OpenSpec.ofChange slotUnlikeSpec)) slotUnlikeCard

/-- THE TIED CARD OF 'dynamolaw12.JournalLater'. -/
def journalLaterCard : Claim7 := { stood := { row := journalLaterRow, standIns := [], harness := (true, "46a271d7d2a72555d3f9604fc2f4eda1b7a2501b74e8bf3921bf282c79000529"), looks := true }, kinds := [], alts := [], laidByText := true, laidKinds := [.sentinel, .sentinel, .sentinel, .sentinel, .sentinel, .sentinel, .sentinel], laidTests := true, laidLooks := .later }
def JournalLaterCardSaid : Prop := Claim7.holds Tryd.pinned (.plain (OpenSpec.ofChange journalLaterSpec)) journalLaterCard

/-- THE TIED CARD OF 'dynamolaw12.JournalSays'. -/
def journalSaysCard : Claim7 := { stood := { row := journalSaysRow, standIns := [], harness := (true, "46a271d7d2a72555d3f9604fc2f4eda1b7a2501b74e8bf3921bf282c79000529"), looks := true }, kinds := [], alts := [], laidByText := true, laidKinds := [.sentinel, .sentinel, .sentinel, .sentinel, .sentinel, .sentinel, .sentinel], laidTests := true, laidLooks := .later }
def JournalSaysCardSaid : Prop := Claim7.holds Tryd.pinned (.plain (OpenSpec.ofChange journalSaysSpec)) journalSaysCard

/-- THE TIED CARD OF 'dynamolaw12.JournalTears'. -/
def journalTearsCard : Claim7 := { stood := { row := journalTearsRow, standIns := [], harness := (true, "46a271d7d2a72555d3f9604fc2f4eda1b7a2501b74e8bf3921bf282c79000529"), looks := true }, kinds := [], alts := [], laidByText := true, laidKinds := [.sentinel, .sentinel, .sentinel, .sentinel, .sentinel, .sentinel, .sentinel], laidTests := true, laidLooks := .later }
def JournalTearsCardSaid : Prop := Claim7.holds Tryd.pinned (.plain (OpenSpec.ofChange journalTearsSpec)) journalTearsCard

/-- THE TIED CARD OF 'dynamolaw12.JournalOther'. -/
def journalOtherCard : Claim7 := { stood := { row := journalOtherRow, standIns := [], harness := (true, "46a271d7d2a72555d3f9604fc2f4eda1b7a2501b74e8bf3921bf282c79000529"), looks := true }, kinds := [], alts := [], laidByText := true, laidKinds := [.sentinel, .sentinel, .sentinel, .sentinel, .sentinel, .sentinel, .sentinel], laidTests := true, laidLooks := .later }
def JournalOtherCardSaid : Prop := Claim7.holds Tryd.pinned (.plain (OpenSpec.ofChange journalOtherSpec)) journalOtherCard

/-- THE TIED CARD OF 'dynamolaw12.JournalSpoilt'. -/
def journalSpoiltCard : Claim7 := { stood := { row := journalSpoiltRow, standIns := [], harness := (true, "46a271d7d2a72555d3f9604fc2f4eda1b7a2501b74e8bf3921bf282c79000529"), looks := true }, kinds := [], alts := [], laidByText := true, laidKinds := [.sentinel, .sentinel, .sentinel, .sentinel, .sentinel, .sentinel, .sentinel], laidTests := true, laidLooks := .later }
def JournalSpoiltCardSaid : Prop := Claim7.holds Tryd.pinned (.plain (OpenSpec.ofChange journalSpoiltSpec)) journalSpoiltCard

/-- THE SECOND FORM's CARD OF 'dynamolaw11.SlotSays'. -/
def slotSaysUptoCard : Claim7 := { stood := { row := slotSaysUptoRow, standIns := [], harness := (true, "46a271d7d2a72555d3f9604fc2f4eda1b7a2501b74e8bf3921bf282c79000529"), looks := true }, kinds := [], alts := [], laidByText := true, laidKinds := [.sentinel, .sentinel, .sentinel, .sentinel, .sentinel, .sentinel, .sentinel], laidTests := true, laidLooks := .later }
def SlotSaysUptoCardSaid : Prop := Claim7.holds Tryd.pinned (.plain (OpenSpec.upto slotSaysSpec)) slotSaysUptoCard

/-- THE SECOND FORM's CARD OF 'dynamolaw11.SlotBack'. -/
def slotBackUptoCard : Claim7 := { stood := { row := slotBackUptoRow, standIns := [], harness := (true, "46a271d7d2a72555d3f9604fc2f4eda1b7a2501b74e8bf3921bf282c79000529"), looks := true }, kinds := [], alts := [], laidByText := true, laidKinds := [.sentinel, .sentinel, .sentinel, .sentinel, .sentinel, .sentinel, .sentinel], laidTests := true, laidLooks := .later }
def SlotBackUptoCardSaid : Prop := Claim7.holds Tryd.pinned (.plain (OpenSpec.upto slotBackSpec)) slotBackUptoCard

/-- THE SECOND FORM's CARD OF 'dynamolaw11.SlotBounds'. -/
def slotBoundsUptoCard : Claim7 := { stood := { row := slotBoundsUptoRow, standIns := [], harness := (true, "46a271d7d2a72555d3f9604fc2f4eda1b7a2501b74e8bf3921bf282c79000529"), looks := true }, kinds := [], alts := [], laidByText := true, laidKinds := [.sentinel, .sentinel, .sentinel, .sentinel, .sentinel, .sentinel, .sentinel], laidTests := true, laidLooks := .later }
def SlotBoundsUptoCardSaid : Prop := Claim7.holds Tryd.pinned (.plain (OpenSpec.upto slotBoundsSpec)) slotBoundsUptoCard

/-- THE SECOND FORM's CARD OF 'dynamolaw11.SlotUnlike'. -/
def slotUnlikeUptoCard : Claim7 := { stood := { row := slotUnlikeUptoRow, standIns := [], harness := (true, "46a271d7d2a72555d3f9604fc2f4eda1b7a2501b74e8bf3921bf282c79000529"), looks := true }, kinds := [], alts := [], laidByText := true, laidKinds := [.sentinel, .sentinel, .sentinel, .sentinel, .sentinel, .sentinel, .sentinel], laidTests := true, laidLooks := .later }
def SlotUnlikeUptoCardSaid : Prop := Claim7.holds Tryd.pinned (.plain (OpenSpec.upto slotUnlikeSpec)) slotUnlikeUptoCard

/-- THE SECOND FORM's CARD OF 'dynamolaw12.JournalLater'. -/
def journalLaterUptoCard : Claim7 := { stood := { row := journalLaterUptoRow, standIns := [], harness := (true, "46a271d7d2a72555d3f9604fc2f4eda1b7a2501b74e8bf3921bf282c79000529"), looks := true }, kinds := [], alts := [], laidByText := true, laidKinds := [.sentinel, .sentinel, .sentinel, .sentinel, .sentinel, .sentinel, .sentinel], laidTests := true, laidLooks := .later }
def JournalLaterUptoCardSaid : Prop := Claim7.holds Tryd.pinned (.plain (OpenSpec.upto journalLaterSpec)) journalLaterUptoCard

/-- THE SECOND FORM's CARD OF 'dynamolaw12.JournalSays'. -/
def journalSaysUptoCard : Claim7 := { stood := { row := journalSaysUptoRow, standIns := [], harness := (true, "46a271d7d2a72555d3f9604fc2f4eda1b7a2501b74e8bf3921bf282c79000529"), looks := true }, kinds := [], alts := [], laidByText := true, laidKinds := [.sentinel, .sentinel, .sentinel, .sentinel, .sentinel, .sentinel, .sentinel], laidTests := true, laidLooks := .later }
def JournalSaysUptoCardSaid : Prop := Claim7.holds Tryd.pinned (.plain (OpenSpec.upto journalSaysSpec)) journalSaysUptoCard

/-- THE SECOND FORM's CARD OF 'dynamolaw12.JournalTears'. -/
def journalTearsUptoCard : Claim7 := { stood := { row := journalTearsUptoRow, standIns := [], harness := (true, "46a271d7d2a72555d3f9604fc2f4eda1b7a2501b74e8bf3921bf282c79000529"), looks := true }, kinds := [], alts := [], laidByText := true, laidKinds := [.sentinel, .sentinel, .sentinel, .sentinel, .sentinel, .sentinel, .sentinel], laidTests := true, laidLooks := .later }
def JournalTearsUptoCardSaid : Prop := Claim7.holds Tryd.pinned (.plain (OpenSpec.upto journalTearsSpec)) journalTearsUptoCard

/-- THE SECOND FORM's CARD OF 'dynamolaw12.JournalOther'. -/
def journalOtherUptoCard : Claim7 := { stood := { row := journalOtherUptoRow, standIns := [], harness := (true, "46a271d7d2a72555d3f9604fc2f4eda1b7a2501b74e8bf3921bf282c79000529"), looks := true }, kinds := [], alts := [], laidByText := true, laidKinds := [.sentinel, .sentinel, .sentinel, .sentinel, .sentinel, .sentinel, .sentinel], laidTests := true, laidLooks := .later }
def JournalOtherUptoCardSaid : Prop := Claim7.holds Tryd.pinned (.plain (OpenSpec.upto journalOtherSpec)) journalOtherUptoCard

/-- THE SECOND FORM's CARD OF 'dynamolaw12.JournalSpoilt'. -/
def journalSpoiltUptoCard : Claim7 := { stood := { row := journalSpoiltUptoRow, standIns := [], harness := (true, "46a271d7d2a72555d3f9604fc2f4eda1b7a2501b74e8bf3921bf282c79000529"), looks := true }, kinds := [], alts := [], laidByText := true, laidKinds := [.sentinel, .sentinel, .sentinel, .sentinel, .sentinel, .sentinel, .sentinel], laidTests := true, laidLooks := .later }
def JournalSpoiltUptoCardSaid : Prop := Claim7.holds Tryd.pinned (.plain (OpenSpec.upto journalSpoiltSpec)) journalSpoiltUptoCard
end Rows
end Go.Proofs.YtdipdpkdmiokeaaDoor
