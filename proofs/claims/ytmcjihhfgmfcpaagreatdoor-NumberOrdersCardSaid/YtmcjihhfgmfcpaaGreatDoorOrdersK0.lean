/-
  NumberOrders: closed facts of the card, part 0. Conditions: none.
-/
import Derived.Test.YtmcjihhfgmfcpaaGreatDoorRows
import Derived.KernelRfl
import Derived.SevenTiedAt
namespace Go.Proofs.YtmcjihhfgmfcpaaGreatDoor
open Go
theorem orders_k0 : Rows.numberOrdersRow.wfByText (OpenSpec.ofChange Rows.numberOrdersSpec) = true := by kernel_rfl
end Go.Proofs.YtmcjihhfgmfcpaaGreatDoor
