/-
  NumberReckons: closed facts, part 0. Conditions: none.
-/
import Derived.Test.YtmcjihhfgmfcpaaGreatDoorRows
import Derived.KernelRfl
import Derived.JoinedOf
namespace Go.Proofs.YtmcjihhfgmfcpaaGreatDoor
open Go
theorem reckons_j0 : (Rows.numberReckonsRow.wf (OpenSpec.ofChange Rows.numberReckonsSpec)) = true := by kernel_rfl
theorem reckons_j1 : (laidOutB Tryz.prog) = true := by kernel_rfl
theorem reckons_j2 : (mapsRowed Tryz.prog) = true := by kernel_rfl
end Go.Proofs.YtmcjihhfgmfcpaaGreatDoor
