/-
  NumberConverts: closed facts of the card, part 0. Conditions: none.
-/
import Derived.Test.YtmcjihhfgmfcpaaGreatDoorRows
import Derived.KernelRfl
import Derived.SevenTiedAt
namespace Go.Proofs.YtmcjihhfgmfcpaaGreatDoor
open Go
theorem converts_k0 : Rows.numberConvertsRow.wfByText (OpenSpec.ofChange Rows.numberConvertsSpec) = true := by kernel_rfl
end Go.Proofs.YtmcjihhfgmfcpaaGreatDoor
