/-
  DERIVED. GIVEN WITH THE SEED: THE CARDS: each row of YtmcjihhfgmfcpaaGreatDoorRows.lean that lists a variable, with what it lists TIED to the program's text (the seventh form; the later family's looks); each row that meets fmt, with fmt's text TOLD by the authors' own Lean function (tested against real Go, not proved from fmt's source: count such statements apart). THE CARD IS WHAT COUNTS. Prove the row's statement (the work); the ties are given (YtmcjihhfgmfcpaaGreatDoorTie.lean); close each card by the builder's one call (the guide's Derived/Test/ToyasCard.lean, 'card_holds'). Laid BY PROGRAM, IN A SANDBOX (cutbox-door.mjs). By AI agents, Wed Nov 11 2026. No macro, syntax, notation, axiom, sorry.
-/
import Derived.Test.YtmcjihhfgmfcpaaGreatDoorRows
import GoSem.ClaimSeven
namespace Go.Proofs.YtmcjihhfgmfcpaaGreatDoor
namespace Rows

/-- THE TIED CARD OF 'acheronlaw04.NumberTexts'. -/
def numberTextsCard : Claim7 := { stood := { row := numberTextsRow, standIns := [], harness := (true, "918abb3e81c2fe7dd50410bac959e12192b0491706b51825c57714e17fbeef02"), looks := true }, kinds := [], alts := [], laidByText := true, laidKinds := [.data, .data, .widerDeep, .widerDeep, .data, .data, .data, .data, .data, .data, .sentinel, .sentinel, .pinned, .pinned, .pinned], laidTests := true, laidLooks := .later }
def NumberTextsCardSaid : Prop := Claim7.holds Tryz.pinned (.plain (OpenSpec.ofChange numberTextsSpec)) numberTextsCard

/-- THE TIED CARD OF 'acheronlaw04.NumberParses'. -/
def numberParsesCard : Claim7 := { stood := { row := numberParsesRow, standIns := [], harness := (true, "918abb3e81c2fe7dd50410bac959e12192b0491706b51825c57714e17fbeef02"), looks := true }, kinds := [], alts := [], laidByText := true, laidKinds := [.data, .data, .widerDeep, .widerDeep, .data, .data, .data, .data, .data, .data, .sentinel, .sentinel, .pinned, .pinned, .pinned], laidTests := true, laidLooks := .later }
def NumberParsesCardSaid : Prop := Claim7.holds Tryz.pinned (.plain (OpenSpec.ofChange numberParsesSpec)) numberParsesCard

/-- THE TIED CARD OF 'acheronlaw04.NumberShifts'. -/
def numberShiftsCard : Claim7 := { stood := { row := numberShiftsRow, standIns := [], harness := (true, "918abb3e81c2fe7dd50410bac959e12192b0491706b51825c57714e17fbeef02"), looks := true }, kinds := [], alts := [], laidByText := true, laidKinds := [.data, .data, .widerDeep, .widerDeep, .data, .data, .data, .data, .data, .data, .sentinel, .sentinel, .pinned, .pinned, .pinned], laidTests := true, laidLooks := .later }
def NumberShiftsCardSaid : Prop := Claim7.holds Tryz.pinned (.plain (OpenSpec.ofChange numberShiftsSpec)) numberShiftsCard

/-- THE TIED CARD OF 'acheronlaw04.NumberRing'. -/
def numberRingCard : Claim7 := { stood := { row := numberRingRow, standIns := [], harness := (true, "918abb3e81c2fe7dd50410bac959e12192b0491706b51825c57714e17fbeef02"), looks := true }, kinds := [], alts := [], laidByText := true, laidKinds := [.data, .data, .widerDeep, .widerDeep, .data, .data, .data, .data, .data, .data, .sentinel, .sentinel, .pinned, .pinned, .pinned], laidTests := true, laidLooks := .later }
def NumberRingCardSaid : Prop := Claim7.holds Tryz.pinned (.plain (OpenSpec.ofChange numberRingSpec)) numberRingCard

/-- THE TIED CARD OF 'acheronlaw04.NumberWraps'. -/
def numberWrapsCard : Claim7 := { stood := { row := numberWrapsRow, standIns := [], harness := (true, "918abb3e81c2fe7dd50410bac959e12192b0491706b51825c57714e17fbeef02"), looks := true }, kinds := [], alts := [], laidByText := true, laidKinds := [.data, .data, .widerDeep, .widerDeep, .data, .data, .data, .data, .data, .data, .sentinel, .sentinel, .pinned, .pinned, .pinned], laidTests := true, laidLooks := .later }
def NumberWrapsCardSaid : Prop := Claim7.holds Tryz.pinned (.plain (OpenSpec.ofChange numberWrapsSpec)) numberWrapsCard

/-- THE TIED CARD OF 'acheronlaw04.NumberReckons'. -/
def numberReckonsCard : Claim7 := { stood := { row := numberReckonsRow, standIns := [], harness := (true, "918abb3e81c2fe7dd50410bac959e12192b0491706b51825c57714e17fbeef02"), looks := true }, kinds := [], alts := [], laidByText := true, laidKinds := [.data, .data, .widerDeep, .widerDeep, .data, .data, .data, .data, .data, .data, .sentinel, .sentinel, .pinned, .pinned, .pinned], laidTests := true, laidLooks := .later }
def NumberReckonsCardSaid : Prop := Claim7.holds Tryz.pinned (.plain (OpenSpec.ofChange numberReckonsSpec)) numberReckonsCard

/-- THE TIED CARD OF 'acheronlaw04.NumberCompares'. -/
def numberComparesCard : Claim7 := { stood := { row := numberComparesRow, standIns := [], harness := (true, "918abb3e81c2fe7dd50410bac959e12192b0491706b51825c57714e17fbeef02"), looks := true }, kinds := [], alts := [], laidByText := true, laidKinds := [.data, .data, .widerDeep, .widerDeep, .data, .data, .data, .data, .data, .data, .sentinel, .sentinel, .pinned, .pinned, .pinned], laidTests := true, laidLooks := .later }
def NumberComparesCardSaid : Prop := Claim7.holds Tryz.pinned (.plain (OpenSpec.ofChange numberComparesSpec)) numberComparesCard

/-- THE TIED CARD OF 'acheronlaw04.NumberOrders'. -/
def numberOrdersCard : Claim7 := { stood := { row := numberOrdersRow, standIns := [], harness := (true, "918abb3e81c2fe7dd50410bac959e12192b0491706b51825c57714e17fbeef02"), looks := true }, kinds := [], alts := [], laidByText := true, laidKinds := [.data, .data, .widerDeep, .widerDeep, .data, .data, .data, .data, .data, .data, .sentinel, .sentinel, .pinned, .pinned, .pinned], laidTests := true, laidLooks := .later }
def NumberOrdersCardSaid : Prop := Claim7.holds Tryz.pinned (.plain (OpenSpec.ofChange numberOrdersSpec)) numberOrdersCard

/-- THE TIED CARD OF 'acheronlaw04.NumberConverts'. -/
def numberConvertsCard : Claim7 := { stood := { row := numberConvertsRow, standIns := [], harness := (true, "918abb3e81c2fe7dd50410bac959e12192b0491706b51825c57714e17fbeef02"), looks := true }, kinds := [], alts := [], laidByText := true, laidKinds := [.data, .data, .widerDeep, .widerDeep, .data, .data, .data, .data, .data, .data, .sentinel, .sentinel, .pinned, .pinned, .pinned], laidTests := true, laidLooks := .later }
def NumberConvertsCardSaid : Prop := Claim7.holds Tryz.pinned (.plain (OpenSpec.ofChange numberConvertsSpec)) numberConvertsCard

/-- THE TIED CARD OF 'acheronlaw04.NumberBack'. -/
def numberBackCard : Claim7 := { stood := { row := numberBackRow, standIns := [], harness := (true, "918abb3e81c2fe7dd50410bac959e12192b0491706b51825c57714e17fbeef02"), looks := true }, kinds := [], alts := [], laidByText := true, laidKinds := [.data, .data, .widerDeep, .widerDeep, .data, .data, .data, .data, .data, .data, .sentinel, .sentinel, .pinned, .pinned, .pinned], laidTests := true, laidLooks := .later }
def NumberBackCardSaid : Prop := Claim7.holds Tryz.pinned (.plain (OpenSpec.ofChange numberBackSpec)) numberBackCard

/-- THE SECOND FORM's CARD OF 'acheronlaw04.NumberTexts'. -/
def numberTextsUptoCard : Claim7 := { stood := { row := numberTextsUptoRow, standIns := [], harness := (true, "918abb3e81c2fe7dd50410bac959e12192b0491706b51825c57714e17fbeef02"), looks := true }, kinds := [], alts := [], laidByText := true, laidKinds := [.data, .data, .widerDeep, .widerDeep, .data, .data, .data, .data, .data, .data, .sentinel, .sentinel, .pinned, .pinned, .pinned], laidTests := true, laidLooks := .later }
def NumberTextsUptoCardSaid : Prop := Claim7.holds Tryz.pinned (.plain (OpenSpec.upto numberTextsSpec)) numberTextsUptoCard

/-- THE SECOND FORM's CARD OF 'acheronlaw04.NumberParses'. -/
def numberParsesUptoCard : Claim7 := { stood := { row := numberParsesUptoRow, standIns := [], harness := (true, "918abb3e81c2fe7dd50410bac959e12192b0491706b51825c57714e17fbeef02"), looks := true }, kinds := [], alts := [], laidByText := true, laidKinds := [.data, .data, .widerDeep, .widerDeep, .data, .data, .data, .data, .data, .data, .sentinel, .sentinel, .pinned, .pinned, .pinned], laidTests := true, laidLooks := .later }
def NumberParsesUptoCardSaid : Prop := Claim7.holds Tryz.pinned (.plain (OpenSpec.upto numberParsesSpec)) numberParsesUptoCard

/-- THE SECOND FORM's CARD OF 'acheronlaw04.NumberShifts'. -/
def numberShiftsUptoCard : Claim7 := { stood := { row := numberShiftsUptoRow, standIns := [], harness := (true, "918abb3e81c2fe7dd50410bac959e12192b0491706b51825c57714e17fbeef02"), looks := true }, kinds := [], alts := [], laidByText := true, laidKinds := [.data, .data, .widerDeep, .widerDeep, .data, .data, .data, .data, .data, .data, .sentinel, .sentinel, .pinned, .pinned, .pinned], laidTests := true, laidLooks := .later }
def NumberShiftsUptoCardSaid : Prop := Claim7.holds Tryz.pinned (.plain (OpenSpec.upto numberShiftsSpec)) numberShiftsUptoCard

/-- THE SECOND FORM's CARD OF 'acheronlaw04.NumberRing'. -/
def numberRingUptoCard : Claim7 := { stood := { row := numberRingUptoRow, standIns := [], harness := (true, "918abb3e81c2fe7dd50410bac959e12192b0491706b51825c57714e17fbeef02"), looks := true }, kinds := [], alts := [], laidByText := true, laidKinds := [.data, .data, .widerDeep, .widerDeep, .data, .data, .data, .data, .data, .data, .sentinel, .sentinel, .pinned, .pinned, .pinned], laidTests := true, laidLooks := .later }
def NumberRingUptoCardSaid : Prop := Claim7.holds Tryz.pinned (.plain (OpenSpec.upto numberRingSpec)) numberRingUptoCard

/-- THE SECOND FORM's CARD OF 'acheronlaw04.NumberWraps'. -/
def numberWrapsUptoCard : Claim7 := { stood := { row := numberWrapsUptoRow, standIns := [], harness := (true, "918abb3e81c2fe7dd50410bac959e12192b0491706b51825c57714e17fbeef02"), looks := true }, kinds := [], alts := [], laidByText := true, laidKinds := [.data, .data, .widerDeep, .widerDeep, .data, .data, .data, .data, .data, .data, .sentinel, .sentinel, .pinned, .pinned, .pinned], laidTests := true, laidLooks := .later }
def NumberWrapsUptoCardSaid : Prop := Claim7.holds Tryz.pinned (.plain (OpenSpec.upto numberWrapsSpec)) numberWrapsUptoCard

/-- THE SECOND FORM's CARD OF 'acheronlaw04.NumberReckons'. -/
def numberReckonsUptoCard : Claim7 := { stood := { row := numberReckonsUptoRow, standIns := [], harness := (true, "918abb3e81c2fe7dd50410bac959e12192b0491706b51825c57714e17fbeef02"), looks := true }, kinds := [], alts := [], laidByText := true, laidKinds := [.data, .data, .widerDeep, .widerDeep, .data, .data, .data, .data, .data, .data, .sentinel, .sentinel, .pinned, .pinned, .pinned], laidTests := true, laidLooks := .later }
def NumberReckonsUptoCardSaid : Prop := Claim7.holds Tryz.pinned (.plain (OpenSpec.upto numberReckonsSpec)) numberReckonsUptoCard

/-- THE SECOND FORM's CARD OF 'acheronlaw04.NumberCompares'. -/
def numberComparesUptoCard : Claim7 := { stood := { row := numberComparesUptoRow, standIns := [], harness := (true, "918abb3e81c2fe7dd50410bac959e12192b0491706b51825c57714e17fbeef02"), looks := true }, kinds := [], alts := [], laidByText := true, laidKinds := [.data, .data, .widerDeep, .widerDeep, .data, .data, .data, .data, .data, .data, .sentinel, .sentinel, .pinned, .pinned, .pinned], laidTests := true, laidLooks := .later }
def NumberComparesUptoCardSaid : Prop := Claim7.holds Tryz.pinned (.plain (OpenSpec.upto numberComparesSpec)) numberComparesUptoCard

/-- THE SECOND FORM's CARD OF 'acheronlaw04.NumberOrders'. -/
def numberOrdersUptoCard : Claim7 := { stood := { row := numberOrdersUptoRow, standIns := [], harness := (true, "918abb3e81c2fe7dd50410bac959e12192b0491706b51825c57714e17fbeef02"), looks := true }, kinds := [], alts := [], laidByText := true, laidKinds := [.data, .data, .widerDeep, .widerDeep, .data, .data, .data, .data, .data, .data, .sentinel, .sentinel, .pinned, .pinned, .pinned], laidTests := true, laidLooks := .later }
def NumberOrdersUptoCardSaid : Prop := Claim7.holds Tryz.pinned (.plain (OpenSpec.upto numberOrdersSpec)) numberOrdersUptoCard

/-- THE SECOND FORM's CARD OF 'acheronlaw04.NumberConverts'. -/
def numberConvertsUptoCard : Claim7 := { stood := { row := numberConvertsUptoRow, standIns := [], harness := (true, "918abb3e81c2fe7dd50410bac959e12192b0491706b51825c57714e17fbeef02"), looks := true }, kinds := [], alts := [], laidByText := true, laidKinds := [.data, .data, .widerDeep, .widerDeep, .data, .data, .data, .data, .data, .data, .sentinel, .sentinel, .pinned, .pinned, .pinned], laidTests := true, laidLooks := .later }
def NumberConvertsUptoCardSaid : Prop := Claim7.holds Tryz.pinned (.plain (OpenSpec.upto numberConvertsSpec)) numberConvertsUptoCard

/-- THE SECOND FORM's CARD OF 'acheronlaw04.NumberBack'. -/
def numberBackUptoCard : Claim7 := { stood := { row := numberBackUptoRow, standIns := [], harness := (true, "918abb3e81c2fe7dd50410bac959e12192b0491706b51825c57714e17fbeef02"), looks := true }, kinds := [], alts := [], laidByText := true, laidKinds := [.data, .data, .widerDeep, .widerDeep, .data, .data, .data, .data, .data, .data, .sentinel, .sentinel, .pinned, .pinned, .pinned], laidTests := true, laidLooks := .later }
def NumberBackUptoCardSaid : Prop := Claim7.holds Tryz.pinned (.plain (OpenSpec.upto numberBackSpec)) numberBackUptoCard
end Rows
end Go.Proofs.YtmcjihhfgmfcpaaGreatDoor
