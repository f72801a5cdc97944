/-
  DERIVED. GIVEN WITH THE SEED: THE CARDS: each row of YtdgbgmpnjggikaaGreatDoorRows.lean that lists a variable, with what it lists TIED to the program's text (the seventh form; the later family's looks); each row that meets fmt, with fmt's text TOLD by the authors' own Lean function (tested against real Go, not proved from fmt's source: count such statements apart). THE CARD IS WHAT COUNTS. Prove the row's statement (the work); the ties are given (YtdgbgmpnjggikaaGreatDoorTie.lean); close each card by the builder's one call (the guide's Derived/Test/ToyasCard.lean, 'card_holds'). Laid BY PROGRAM, IN A SANDBOX (cutbox-door.mjs). By AI agents, Wed Nov 11 2026. No macro, syntax, notation, axiom, sorry.
-/
import Derived.Test.YtdgbgmpnjggikaaGreatDoorRows
import GoSem.ClaimSeven
namespace Go.Proofs.YtdgbgmpnjggikaaGreatDoor
namespace Rows

/-- THE TIED CARD OF 'acheronlaw05.LexQuotes'. -/
def lexQuotesCard : Claim7 := { stood := { row := lexQuotesRow, standIns := [], harness := (true, "b204dd66e29361a893dee84e090eeb2a680843b5e68644ec72c374fec7de27e4"), looks := true }, kinds := [], alts := [], laidByText := true, laidKinds := [.data, .data, .widerDeep, .widerDeep, .data, .data, .data, .data, .data, .data, .sentinel, .sentinel, .widerDeep, .pinned, .pinned, .pinned], laidTests := true, laidLooks := .later }
def LexQuotesCardSaid : Prop := Claim7.holds Tryz.pinned (.plain (OpenSpec.ofChange lexQuotesSpec)) lexQuotesCard

/-- THE SECOND FORM's CARD OF 'acheronlaw05.LexQuotes'. -/
def lexQuotesUptoCard : Claim7 := { stood := { row := lexQuotesUptoRow, standIns := [], harness := (true, "b204dd66e29361a893dee84e090eeb2a680843b5e68644ec72c374fec7de27e4"), looks := true }, kinds := [], alts := [], laidByText := true, laidKinds := [.data, .data, .widerDeep, .widerDeep, .data, .data, .data, .data, .data, .data, .sentinel, .sentinel, .widerDeep, .pinned, .pinned, .pinned], laidTests := true, laidLooks := .later }
def LexQuotesUptoCardSaid : Prop := Claim7.holds Tryz.pinned (.plain (OpenSpec.upto lexQuotesSpec)) lexQuotesUptoCard
end Rows
end Go.Proofs.YtdgbgmpnjggikaaGreatDoor
