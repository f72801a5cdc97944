/-
  NumberWraps: closed facts of the card, part 0. Conditions: none.
-/
import Derived.Test.YtmcjihhfgmfcpaaGreatDoorRows
import Derived.KernelRfl
import Derived.SevenTiedAt
namespace Go.Proofs.YtmcjihhfgmfcpaaGreatDoor
open Go
theorem wraps_k0 : Rows.numberWrapsRow.wfByText (OpenSpec.ofChange Rows.numberWrapsSpec) = true := by kernel_rfl
end Go.Proofs.YtmcjihhfgmfcpaaGreatDoor
