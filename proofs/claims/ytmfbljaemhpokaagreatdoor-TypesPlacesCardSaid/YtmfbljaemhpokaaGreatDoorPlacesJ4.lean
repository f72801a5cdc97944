/-
  TypesPlaces: closed facts, part 4. Conditions: none.
-/
import Derived.Test.YtmfbljaemhpokaaGreatDoorRows
import Derived.KernelRfl
import Derived.JoinedOf
namespace Go.Proofs.YtmfbljaemhpokaaGreatDoor
open Go
theorem places_j12 : ((Rows.typesPlacesRow.named == Tryz.prog.varsNamed 8)) = true := by kernel_rfl
end Go.Proofs.YtmfbljaemhpokaaGreatDoor
