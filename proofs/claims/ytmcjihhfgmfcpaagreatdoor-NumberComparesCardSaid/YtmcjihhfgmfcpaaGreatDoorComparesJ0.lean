/-
  NumberCompares: closed facts, part 0. Conditions: none.
-/
import Derived.Test.YtmcjihhfgmfcpaaGreatDoorRows
import Derived.KernelRfl
import Derived.JoinedOf
namespace Go.Proofs.YtmcjihhfgmfcpaaGreatDoor
open Go
theorem compares_j0 : (Rows.numberComparesRow.wf (OpenSpec.ofChange Rows.numberComparesSpec)) = true := by kernel_rfl
theorem compares_j1 : (laidOutB Tryz.prog) = true := by kernel_rfl
theorem compares_j2 : (mapsRowed Tryz.prog) = true := by kernel_rfl
end Go.Proofs.YtmcjihhfgmfcpaaGreatDoor
