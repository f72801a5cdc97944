/-
  NumberRing: closed facts, part 0. Conditions: none.
-/
import Derived.Test.YtmcjihhfgmfcpaaGreatDoorRows
import Derived.KernelRfl
import Derived.JoinedOf
namespace Go.Proofs.YtmcjihhfgmfcpaaGreatDoor
open Go
theorem ring_j0 : (Rows.numberRingRow.wf (OpenSpec.ofChange Rows.numberRingSpec)) = true := by kernel_rfl
theorem ring_j1 : (laidOutB Tryz.prog) = true := by kernel_rfl
theorem ring_j2 : (mapsRowed Tryz.prog) = true := by kernel_rfl
end Go.Proofs.YtmcjihhfgmfcpaaGreatDoor
