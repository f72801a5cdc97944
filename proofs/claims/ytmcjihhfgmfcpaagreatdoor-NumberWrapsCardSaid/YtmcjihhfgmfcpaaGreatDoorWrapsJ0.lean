/-
  NumberWraps: closed facts, part 0. Conditions: none.
-/
import Derived.Test.YtmcjihhfgmfcpaaGreatDoorRows
import Derived.KernelRfl
import Derived.JoinedOf
namespace Go.Proofs.YtmcjihhfgmfcpaaGreatDoor
open Go
theorem wraps_j0 : (Rows.numberWrapsRow.wf (OpenSpec.ofChange Rows.numberWrapsSpec)) = true := by kernel_rfl
theorem wraps_j1 : (laidOutB Tryz.prog) = true := by kernel_rfl
theorem wraps_j2 : (mapsRowed Tryz.prog) = true := by kernel_rfl
end Go.Proofs.YtmcjihhfgmfcpaaGreatDoor
