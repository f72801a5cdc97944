/-
  TypesPlaces: closed facts of the card, part 0. Conditions: none.
-/
import Derived.Test.YtmfbljaemhpokaaGreatDoorRows
import Derived.KernelRfl
import Derived.SevenTiedAt
namespace Go.Proofs.YtmfbljaemhpokaaGreatDoor
open Go
theorem places_k0 : Rows.typesPlacesRow.wfByText (OpenSpec.ofChange Rows.typesPlacesSpec) = true := by kernel_rfl
end Go.Proofs.YtmfbljaemhpokaaGreatDoor
