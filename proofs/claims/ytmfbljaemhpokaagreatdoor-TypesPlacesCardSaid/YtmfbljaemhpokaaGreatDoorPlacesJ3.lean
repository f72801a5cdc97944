/-
  TypesPlaces: closed facts, part 3. Conditions: none.
-/
import Derived.Test.YtmfbljaemhpokaaGreatDoorRows
import Derived.KernelRfl
import Derived.JoinedOf
namespace Go.Proofs.YtmfbljaemhpokaaGreatDoor
open Go
theorem places_j11 : ((Rows.typesPlacesRow.recurses == Tryz.prog.recurses 8)) = true := by kernel_rfl
end Go.Proofs.YtmfbljaemhpokaaGreatDoor
