/-
  TypesWidens: closed facts, part 4. Conditions: none.
-/
import Derived.Test.YtmfbljaemhpokaaGreatDoorRows
import Derived.KernelRfl
import Derived.JoinedOf
namespace Go.Proofs.YtmfbljaemhpokaaGreatDoor
open Go
theorem widens_j12 : ((Rows.typesWidensRow.named == Tryz.prog.varsNamed 7)) = true := by kernel_rfl
end Go.Proofs.YtmfbljaemhpokaaGreatDoor
