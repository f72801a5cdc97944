/-
  TypesEqual: closed facts, part 1. Conditions: none.
-/
import Derived.Test.YtmfbljaemhpokaaGreatDoorRows
import Derived.KernelRfl
import Derived.JoinedOf
namespace Go.Proofs.YtmfbljaemhpokaaGreatDoor
open Go
theorem teq_j9 : ((Rows.typesEqualRow.inPlace == Tryz.prog.inPlace 4)) = true := by kernel_rfl
end Go.Proofs.YtmfbljaemhpokaaGreatDoor
