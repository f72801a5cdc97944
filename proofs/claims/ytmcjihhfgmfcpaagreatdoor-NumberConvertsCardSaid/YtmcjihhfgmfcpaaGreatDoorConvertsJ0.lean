/-
  NumberConverts: closed facts, part 0. Conditions: none.
-/
import Derived.Test.YtmcjihhfgmfcpaaGreatDoorRows
import Derived.KernelRfl
import Derived.JoinedOf
namespace Go.Proofs.YtmcjihhfgmfcpaaGreatDoor
open Go
theorem converts_j0 : (Rows.numberConvertsRow.wf (OpenSpec.ofChange Rows.numberConvertsSpec)) = true := by kernel_rfl
theorem converts_j1 : (laidOutB Tryz.prog) = true := by kernel_rfl
theorem converts_j2 : (mapsRowed Tryz.prog) = true := by kernel_rfl
end Go.Proofs.YtmcjihhfgmfcpaaGreatDoor
