/-
  TypesPlaces: closed facts, part 0. Conditions: none.
-/
import Derived.Test.YtmfbljaemhpokaaGreatDoorRows
import Derived.KernelRfl
import Derived.JoinedOf
namespace Go.Proofs.YtmfbljaemhpokaaGreatDoor
open Go
theorem places_j0 : (Rows.typesPlacesRow.wf (OpenSpec.ofChange Rows.typesPlacesSpec)) = true := by kernel_rfl
theorem places_j1 : (laidOutB Tryz.prog) = true := by kernel_rfl
theorem places_j2 : (mapsRowed Tryz.prog) = true := by kernel_rfl
end Go.Proofs.YtmfbljaemhpokaaGreatDoor
