/-
  TypesWidens: closed facts, part 1. Conditions: none.
-/
import Derived.Test.YtmfbljaemhpokaaGreatDoorRows
import Derived.KernelRfl
import Derived.JoinedOf
namespace Go.Proofs.YtmfbljaemhpokaaGreatDoor
open Go
theorem widens_j9 : ((Rows.typesWidensRow.inPlace == Tryz.prog.inPlace 7)) = true := by kernel_rfl
end Go.Proofs.YtmfbljaemhpokaaGreatDoor
