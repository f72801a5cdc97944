/-
  TypesChecks: closed facts, part 0. Conditions: none.
-/
import Derived.Test.YtmfbljaemhpokaaGreatDoorRows
import Derived.KernelRfl
import Derived.JoinedOf
namespace Go.Proofs.YtmfbljaemhpokaaGreatDoor
open Go
theorem checks_j0 : (Rows.typesChecksRow.wf (OpenSpec.ofChange Rows.typesChecksSpec)) = true := by kernel_rfl
theorem checks_j1 : (laidOutB Tryz.prog) = true := by kernel_rfl
theorem checks_j2 : (mapsRowed Tryz.prog) = true := by kernel_rfl
end Go.Proofs.YtmfbljaemhpokaaGreatDoor
