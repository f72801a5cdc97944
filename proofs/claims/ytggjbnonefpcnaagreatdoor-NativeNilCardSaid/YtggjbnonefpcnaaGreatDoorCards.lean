/-
  DERIVED. GIVEN WITH THE SEED: THE CARDS: each row of YtggjbnonefpcnaaGreatDoorRows.lean that lists a variable, with what it lists TIED to the program's text (the seventh form; the later family's looks); each row that meets fmt, with fmt's text TOLD by the authors' own Lean function (tested against real Go, not proved from fmt's source: count such statements apart). THE CARD IS WHAT COUNTS. Prove the row's statement (the work); the ties are given (YtggjbnonefpcnaaGreatDoorTie.lean); close each card by the builder's one call (the guide's Derived/Test/ToyasCard.lean, 'card_holds'). Laid BY PROGRAM, IN A SANDBOX (cutbox-door.mjs). By AI agents, Wed Nov 11 2026. No macro, syntax, notation, axiom, sorry.
-/
import Derived.Test.YtggjbnonefpcnaaGreatDoorRows
import GoSem.ClaimSeven
namespace Go.Proofs.YtggjbnonefpcnaaGreatDoor
namespace Rows

/-- THE TIED CARD OF 'acheronlaw26.NativeNil'. -/
def nativeNilCard : Claim7 := { stood := { row := nativeNilRow, standIns := [], harness := (true, "386a53aac351b0704d1f861a57e6979e39943afcfb0310c77a478ce2f79405ce"), looks := true }, kinds := [], alts := [], laidByText := true, laidKinds := [.data, .data, .pinned], laidTests := true, laidLooks := .later }
def NativeNilCardSaid : Prop := Claim7.holds Tryz.pinned (.plain (OpenSpec.ofChange nativeNilSpec)) nativeNilCard

/-- THE SECOND FORM's CARD OF 'acheronlaw26.NativeNil'. -/
def nativeNilUptoCard : Claim7 := { stood := { row := nativeNilUptoRow, standIns := [], harness := (true, "386a53aac351b0704d1f861a57e6979e39943afcfb0310c77a478ce2f79405ce"), looks := true }, kinds := [], alts := [], laidByText := true, laidKinds := [.data, .data, .pinned], laidTests := true, laidLooks := .later }
def NativeNilUptoCardSaid : Prop := Claim7.holds Tryz.pinned (.plain (OpenSpec.upto nativeNilSpec)) nativeNilUptoCard
end Rows
end Go.Proofs.YtggjbnonefpcnaaGreatDoor
