/-
  TypesWidens: closed facts, part 0. Conditions: none.
-/
import Derived.Test.YtmfbljaemhpokaaGreatDoorRows
import Derived.KernelRfl
import Derived.JoinedOf
namespace Go.Proofs.YtmfbljaemhpokaaGreatDoor
open Go
theorem widens_j0 : (Rows.typesWidensRow.wf (OpenSpec.ofChange Rows.typesWidensSpec)) = true := by kernel_rfl
theorem widens_j1 : (laidOutB Tryz.prog) = true := by kernel_rfl
theorem widens_j2 : (mapsRowed Tryz.prog) = true := by kernel_rfl
end Go.Proofs.YtmfbljaemhpokaaGreatDoor
