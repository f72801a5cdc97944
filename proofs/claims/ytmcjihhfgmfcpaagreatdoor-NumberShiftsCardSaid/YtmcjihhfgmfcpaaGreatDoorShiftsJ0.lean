/-
  NumberShifts: closed facts, part 0. Conditions: none.
-/
import Derived.Test.YtmcjihhfgmfcpaaGreatDoorRows
import Derived.KernelRfl
import Derived.JoinedOf
namespace Go.Proofs.YtmcjihhfgmfcpaaGreatDoor
open Go
theorem shifts_j0 : (Rows.numberShiftsRow.wf (OpenSpec.ofChange Rows.numberShiftsSpec)) = true := by kernel_rfl
theorem shifts_j1 : (laidOutB Tryz.prog) = true := by kernel_rfl
theorem shifts_j2 : (mapsRowed Tryz.prog) = true := by kernel_rfl
end Go.Proofs.YtmcjihhfgmfcpaaGreatDoor
