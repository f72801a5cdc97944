/-
  TypesCanonical: closed facts, part 0. Conditions: none.
-/
import Derived.Test.YtmfbljaemhpokaaGreatDoorRows
import Derived.KernelRfl
import Derived.JoinedOf
namespace Go.Proofs.YtmfbljaemhpokaaGreatDoor
open Go
theorem canonical_j0 : (Rows.typesCanonicalRow.wf (OpenSpec.ofChange Rows.typesCanonicalSpec)) = true := by kernel_rfl
theorem canonical_j1 : (laidOutB Tryz.prog) = true := by kernel_rfl
theorem canonical_j2 : (mapsRowed Tryz.prog) = true := by kernel_rfl
end Go.Proofs.YtmfbljaemhpokaaGreatDoor
