/-
  TypesEqual: closed facts, part 0. Conditions: none.
-/
import Derived.Test.YtmfbljaemhpokaaGreatDoorRows
import Derived.KernelRfl
import Derived.JoinedOf
namespace Go.Proofs.YtmfbljaemhpokaaGreatDoor
open Go
theorem teq_j0 : (Rows.typesEqualRow.wf (OpenSpec.ofChange Rows.typesEqualSpec)) = true := by kernel_rfl
theorem teq_j1 : (laidOutB Tryz.prog) = true := by kernel_rfl
theorem teq_j2 : (mapsRowed Tryz.prog) = true := by kernel_rfl
end Go.Proofs.YtmfbljaemhpokaaGreatDoor
