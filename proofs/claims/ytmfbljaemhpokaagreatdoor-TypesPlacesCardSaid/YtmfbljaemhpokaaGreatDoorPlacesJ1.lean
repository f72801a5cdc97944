/-
  TypesPlaces: closed facts, part 1. Conditions: none.
-/
import Derived.Test.YtmfbljaemhpokaaGreatDoorRows
import Derived.KernelRfl
import Derived.JoinedOf
namespace Go.Proofs.YtmfbljaemhpokaaGreatDoor
open Go
theorem places_j9 : ((Rows.typesPlacesRow.inPlace == Tryz.prog.inPlace 8)) = true := by kernel_rfl
end Go.Proofs.YtmfbljaemhpokaaGreatDoor
