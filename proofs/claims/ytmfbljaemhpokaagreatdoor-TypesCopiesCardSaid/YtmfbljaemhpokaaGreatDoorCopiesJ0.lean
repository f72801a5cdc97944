/-
  TypesCopies: closed facts, part 0. Conditions: none.
-/
import Derived.Test.YtmfbljaemhpokaaGreatDoorRows
import Derived.KernelRfl
import Derived.JoinedOf
namespace Go.Proofs.YtmfbljaemhpokaaGreatDoor
open Go
theorem copies_j0 : (Rows.typesCopiesRow.wf (OpenSpec.ofChange Rows.typesCopiesSpec)) = true := by kernel_rfl
theorem copies_j1 : (laidOutB Tryz.prog) = true := by kernel_rfl
theorem copies_j2 : (mapsRowed Tryz.prog) = true := by kernel_rfl
end Go.Proofs.YtmfbljaemhpokaaGreatDoor
