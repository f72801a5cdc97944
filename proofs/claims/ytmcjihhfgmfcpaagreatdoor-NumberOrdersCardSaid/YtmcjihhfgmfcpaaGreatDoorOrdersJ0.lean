/-
  NumberOrders: closed facts, part 0. Conditions: none.
-/
import Derived.Test.YtmcjihhfgmfcpaaGreatDoorRows
import Derived.KernelRfl
import Derived.JoinedOf
namespace Go.Proofs.YtmcjihhfgmfcpaaGreatDoor
open Go
theorem orders_j0 : (Rows.numberOrdersRow.wf (OpenSpec.ofChange Rows.numberOrdersSpec)) = true := by kernel_rfl
theorem orders_j1 : (laidOutB Tryz.prog) = true := by kernel_rfl
theorem orders_j2 : (mapsRowed Tryz.prog) = true := by kernel_rfl
end Go.Proofs.YtmcjihhfgmfcpaaGreatDoor
