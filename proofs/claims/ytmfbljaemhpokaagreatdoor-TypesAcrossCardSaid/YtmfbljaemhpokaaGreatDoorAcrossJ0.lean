/-
  TypesAcross: closed facts, part 0. Conditions: none.
-/
import Derived.Test.YtmfbljaemhpokaaGreatDoorRows
import Derived.KernelRfl
import Derived.JoinedOf
namespace Go.Proofs.YtmfbljaemhpokaaGreatDoor
open Go
theorem across_j0 : (Rows.typesAcrossRow.wf (OpenSpec.ofChange Rows.typesAcrossSpec)) = true := by kernel_rfl
theorem across_j1 : (laidOutB Tryz.prog) = true := by kernel_rfl
theorem across_j2 : (mapsRowed Tryz.prog) = true := by kernel_rfl
end Go.Proofs.YtmfbljaemhpokaaGreatDoor
