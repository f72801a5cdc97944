/-
  DERIVED. GIVEN WITH THE SEED: THE CARDS: each row of YtmfbljaemhpokaaGreatDoorRows.lean that lists a variable, with what it lists TIED to the program's text (the seventh form; the later family's looks); each row that meets fmt, with fmt's text TOLD by the authors' own Lean function (tested against real Go, not proved from fmt's source: count such statements apart). THE CARD IS WHAT COUNTS. Prove the row's statement (the work); the ties are given (YtmfbljaemhpokaaGreatDoorTie.lean); close each card by the builder's one call (the guide's Derived/Test/ToyasCard.lean, 'card_holds'). Laid BY PROGRAM, IN A SANDBOX (cutbox-door.mjs). By AI agents, Wed Nov 11 2026. No macro, syntax, notation, axiom, sorry.
-/
import Derived.Test.YtmfbljaemhpokaaGreatDoorRows
import GoSem.ClaimSeven
namespace Go.Proofs.YtmfbljaemhpokaaGreatDoor
namespace Rows

/-- THE TIED CARD OF 'acheronlaw08.TypesChecks'. -/
def typesChecksCard : Claim7 := { stood := { row := typesChecksRow, standIns := [], harness := (true, "5c379b04abaf1a6f567460b020edf34b42b6ebbffee1a9e6e29a2fd064d52401"), looks := false }, kinds := [], alts := [], laidByText := true, laidKinds := [.data, .data, .data], laidTests := true, laidLooks := .later }
def TypesChecksCardSaid : Prop := Claim7.holds Tryz.pinned (.plain (OpenSpec.ofChange typesChecksSpec)) typesChecksCard

/-- THE TIED CARD OF 'acheronlaw08.TypesEqual'. -/
def typesEqualCard : Claim7 := { stood := { row := typesEqualRow, standIns := [], harness := (true, "5c379b04abaf1a6f567460b020edf34b42b6ebbffee1a9e6e29a2fd064d52401"), looks := false }, kinds := [], alts := [], laidByText := true, laidKinds := [.data, .data, .data], laidTests := true, laidLooks := .later }
def TypesEqualCardSaid : Prop := Claim7.holds Tryz.pinned (.plain (OpenSpec.ofChange typesEqualSpec)) typesEqualCard

/-- THE TIED CARD OF 'acheronlaw08.TypesCanonical'. -/
def typesCanonicalCard : Claim7 := { stood := { row := typesCanonicalRow, standIns := [], harness := (true, "5c379b04abaf1a6f567460b020edf34b42b6ebbffee1a9e6e29a2fd064d52401"), looks := false }, kinds := [], alts := [], laidByText := true, laidKinds := [.data, .data, .data], laidTests := true, laidLooks := .later }
def TypesCanonicalCardSaid : Prop := Claim7.holds Tryz.pinned (.plain (OpenSpec.ofChange typesCanonicalSpec)) typesCanonicalCard

/-- THE TIED CARD OF 'acheronlaw08.TypesAcross'. -/
def typesAcrossCard : Claim7 := { stood := { row := typesAcrossRow, standIns := [], harness := (true, "5c379b04abaf1a6f567460b020edf34b42b6ebbffee1a9e6e29a2fd064d52401"), looks := false }, kinds := [], alts := [], laidByText := true, laidKinds := [.data, .data, .data], laidTests := true, laidLooks := .later }
def TypesAcrossCardSaid : Prop := Claim7.holds Tryz.pinned (.plain (OpenSpec.ofChange typesAcrossSpec)) typesAcrossCard

/-- THE TIED CARD OF 'acheronlaw08.TypesWidens'. -/
def typesWidensCard : Claim7 := { stood := { row := typesWidensRow, standIns := [], harness := (true, "5c379b04abaf1a6f567460b020edf34b42b6ebbffee1a9e6e29a2fd064d52401"), looks := false }, kinds := [], alts := [], laidByText := true, laidKinds := [.data, .data, .data], laidTests := true, laidLooks := .later }
def TypesWidensCardSaid : Prop := Claim7.holds Tryz.pinned (.plain (OpenSpec.ofChange typesWidensSpec)) typesWidensCard

/-- THE TIED CARD OF 'acheronlaw08.TypesPlaces'. -/
def typesPlacesCard : Claim7 := { stood := { row := typesPlacesRow, standIns := [], harness := (true, "5c379b04abaf1a6f567460b020edf34b42b6ebbffee1a9e6e29a2fd064d52401"), looks := false }, kinds := [], alts := [], laidByText := true, laidKinds := [.data, .data, .data], laidTests := true, laidLooks := .later }
def TypesPlacesCardSaid : Prop := Claim7.holds Tryz.pinned (.plain (OpenSpec.ofChange typesPlacesSpec)) typesPlacesCard

/-- THE TIED CARD OF 'acheronlaw08.TypesLayouts'. -/
def typesLayoutsCard : Claim7 := { stood := { row := typesLayoutsRow, standIns := [], harness := (true, "5c379b04abaf1a6f567460b020edf34b42b6ebbffee1a9e6e29a2fd064d52401"), looks := false }, kinds := [], alts := [], laidByText := true, laidKinds := [.data, .data, .data], laidTests := true, laidLooks := .later }
def TypesLayoutsCardSaid : Prop := Claim7.holds Tryz.pinned (.plain (OpenSpec.ofChange typesLayoutsSpec)) typesLayoutsCard

/-- THE TIED CARD OF 'acheronlaw08.TypesCopies'. -/
def typesCopiesCard : Claim7 := { stood := { row := typesCopiesRow, standIns := [], harness := (true, "5c379b04abaf1a6f567460b020edf34b42b6ebbffee1a9e6e29a2fd064d52401"), looks := false }, kinds := [], alts := [], laidByText := true, laidKinds := [.data, .data, .data], laidTests := true, laidLooks := .later }
def TypesCopiesCardSaid : Prop := Claim7.holds Tryz.pinned (.plain (OpenSpec.ofChange typesCopiesSpec)) typesCopiesCard

/-- THE TIED CARD OF 'acheronlaw08.TypesNil'. -/
def typesNilCard : Claim7 := { stood := { row := typesNilRow, standIns := [], harness := (true, "5c379b04abaf1a6f567460b020edf34b42b6ebbffee1a9e6e29a2fd064d52401"), looks := false }, kinds := [], alts := [], laidByText := true, laidKinds := [.data, .data, .data], laidTests := true, laidLooks := .later }
def TypesNilCardSaid : Prop := Claim7.holds Tryz.pinned (.plain (OpenSpec.ofChange typesNilSpec)) typesNilCard

/-- THE TIED CARD OF 'acheronlaw08.TypesTexts'. -/
def typesTextsCard : Claim7 := { stood := { row := typesTextsRow, standIns := [], harness := (true, "5c379b04abaf1a6f567460b020edf34b42b6ebbffee1a9e6e29a2fd064d52401"), looks := false }, kinds := [], alts := [], laidByText := true, laidKinds := [.data, .data, .data, .data, .data], laidTests := true, laidLooks := .later }
def TypesTextsCardSaid : Prop := Claim7.holds Tryz.pinned (.plain (OpenSpec.ofChange typesTextsSpec)) typesTextsCard

/-- THE SECOND FORM's CARD OF 'acheronlaw08.TypesChecks'. -/
def typesChecksUptoCard : Claim7 := { stood := { row := typesChecksUptoRow, standIns := [], harness := (true, "5c379b04abaf1a6f567460b020edf34b42b6ebbffee1a9e6e29a2fd064d52401"), looks := false }, kinds := [], alts := [], laidByText := true, laidKinds := [.data, .data, .data], laidTests := true, laidLooks := .later }
def TypesChecksUptoCardSaid : Prop := Claim7.holds Tryz.pinned (.plain (OpenSpec.upto typesChecksSpec)) typesChecksUptoCard

/-- THE SECOND FORM's CARD OF 'acheronlaw08.TypesEqual'. -/
def typesEqualUptoCard : Claim7 := { stood := { row := typesEqualUptoRow, standIns := [], harness := (true, "5c379b04abaf1a6f567460b020edf34b42b6ebbffee1a9e6e29a2fd064d52401"), looks := false }, kinds := [], alts := [], laidByText := true, laidKinds := [.data, .data, .data], laidTests := true, laidLooks := .later }
def TypesEqualUptoCardSaid : Prop := Claim7.holds Tryz.pinned (.plain (OpenSpec.upto typesEqualSpec)) typesEqualUptoCard

/-- THE SECOND FORM's CARD OF 'acheronlaw08.TypesCanonical'. -/
def typesCanonicalUptoCard : Claim7 := { stood := { row := typesCanonicalUptoRow, standIns := [], harness := (true, "5c379b04abaf1a6f567460b020edf34b42b6ebbffee1a9e6e29a2fd064d52401"), looks := false }, kinds := [], alts := [], laidByText := true, laidKinds := [.data, .data, .data], laidTests := true, laidLooks := .later }
def TypesCanonicalUptoCardSaid : Prop := Claim7.holds Tryz.pinned (.plain (OpenSpec.upto typesCanonicalSpec)) typesCanonicalUptoCard

/-- THE SECOND FORM's CARD OF 'acheronlaw08.TypesAcross'. -/
def typesAcrossUptoCard : Claim7 := { stood := { row := typesAcrossUptoRow, standIns := [], harness := (true, "5c379b04abaf1a6f567460b020edf34b42b6ebbffee1a9e6e29a2fd064d52401"), looks := false }, kinds := [], alts := [], laidByText := true, laidKinds := [.data, .data, .data], laidTests := true, laidLooks := .later }
def TypesAcrossUptoCardSaid : Prop := Claim7.holds Tryz.pinned (.plain (OpenSpec.upto typesAcrossSpec)) typesAcrossUptoCard

/-- THE SECOND FORM's CARD OF 'acheronlaw08.TypesWidens'. -/
def typesWidensUptoCard : Claim7 := { stood := { row := typesWidensUptoRow, standIns := [], harness := (true, "5c379b04abaf1a6f567460b020edf34b42b6ebbffee1a9e6e29a2fd064d52401"), looks := false }, kinds := [], alts := [], laidByText := true, laidKinds := [.data, .data, .data], laidTests := true, laidLooks := .later }
def TypesWidensUptoCardSaid : Prop := Claim7.holds Tryz.pinned (.plain (OpenSpec.upto typesWidensSpec)) typesWidensUptoCard

/-- THE SECOND FORM's CARD OF 'acheronlaw08.TypesPlaces'. -/
def typesPlacesUptoCard : Claim7 := { stood := { row := typesPlacesUptoRow, standIns := [], harness := (true, "5c379b04abaf1a6f567460b020edf34b42b6ebbffee1a9e6e29a2fd064d52401"), looks := false }, kinds := [], alts := [], laidByText := true, laidKinds := [.data, .data, .data], laidTests := true, laidLooks := .later }
def TypesPlacesUptoCardSaid : Prop := Claim7.holds Tryz.pinned (.plain (OpenSpec.upto typesPlacesSpec)) typesPlacesUptoCard

/-- THE SECOND FORM's CARD OF 'acheronlaw08.TypesLayouts'. -/
def typesLayoutsUptoCard : Claim7 := { stood := { row := typesLayoutsUptoRow, standIns := [], harness := (true, "5c379b04abaf1a6f567460b020edf34b42b6ebbffee1a9e6e29a2fd064d52401"), looks := false }, kinds := [], alts := [], laidByText := true, laidKinds := [.data, .data, .data], laidTests := true, laidLooks := .later }
def TypesLayoutsUptoCardSaid : Prop := Claim7.holds Tryz.pinned (.plain (OpenSpec.upto typesLayoutsSpec)) typesLayoutsUptoCard

/-- THE SECOND FORM's CARD OF 'acheronlaw08.TypesCopies'. -/
def typesCopiesUptoCard : Claim7 := { stood := { row := typesCopiesUptoRow, standIns := [], harness := (true, "5c379b04abaf1a6f567460b020edf34b42b6ebbffee1a9e6e29a2fd064d52401"), looks := false }, kinds := [], alts := [], laidByText := true, laidKinds := [.data, .data, .data], laidTests := true, laidLooks := .later }
def TypesCopiesUptoCardSaid : Prop := Claim7.holds Tryz.pinned (.plain (OpenSpec.upto typesCopiesSpec)) typesCopiesUptoCard

/-- THE SECOND FORM's CARD OF 'acheronlaw08.TypesNil'. -/
def typesNilUptoCard : Claim7 := { stood := { row := typesNilUptoRow, standIns := [], harness := (true, "5c379b04abaf1a6f567460b020edf34b42b6ebbffee1a9e6e29a2fd064d52401"), looks := false }, kinds := [], alts := [], laidByText := true, laidKinds := [.data, .data, .data], laidTests := true, laidLooks := .later }
def TypesNilUptoCardSaid : Prop := Claim7.holds Tryz.pinned (.plain (OpenSpec.upto typesNilSpec)) typesNilUptoCard

/-- THE SECOND FORM's CARD OF 'acheronlaw08.TypesTexts'. -/
def typesTextsUptoCard : Claim7 := { stood := { row := typesTextsUptoRow, standIns := [], harness := (true, "5c379b04abaf1a6f567460b020edf34b42b6ebbffee1a9e6e29a2fd064d52401"), looks := false }, kinds := [], alts := [], laidByText := true, laidKinds := [.data, .data, .data, .data, .data], laidTests := true, laidLooks := .later }
def TypesTextsUptoCardSaid : Prop := Claim7.holds Tryz.pinned (.plain (OpenSpec.upto typesTextsSpec)) typesTextsUptoCard
end Rows
end Go.Proofs.YtmfbljaemhpokaaGreatDoor
