/-
  TypesWidens: closed facts, part 3. Conditions: none.
-/
import Derived.Test.YtmfbljaemhpokaaGreatDoorRows
import Derived.KernelRfl
import Derived.JoinedOf
namespace Go.Proofs.YtmfbljaemhpokaaGreatDoor
open Go
theorem widens_j11 : ((Rows.typesWidensRow.recurses == Tryz.prog.recurses 7)) = true := by kernel_rfl
end Go.Proofs.YtmfbljaemhpokaaGreatDoor
