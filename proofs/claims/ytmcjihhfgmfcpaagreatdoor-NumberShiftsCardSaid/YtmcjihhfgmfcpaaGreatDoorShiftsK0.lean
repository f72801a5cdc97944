/-
  NumberShifts: closed facts of the card, part 0. Conditions: none.
-/
import Derived.Test.YtmcjihhfgmfcpaaGreatDoorRows
import Derived.KernelRfl
import Derived.SevenTiedAt
namespace Go.Proofs.YtmcjihhfgmfcpaaGreatDoor
open Go
theorem shifts_k0 : Rows.numberShiftsRow.wfByText (OpenSpec.ofChange Rows.numberShiftsSpec) = true := by kernel_rfl
end Go.Proofs.YtmcjihhfgmfcpaaGreatDoor
