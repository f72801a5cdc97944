/-
  NumberReckons: closed facts of the card, part 0. Conditions: none.
-/
import Derived.Test.YtmcjihhfgmfcpaaGreatDoorRows
import Derived.KernelRfl
import Derived.SevenTiedAt
namespace Go.Proofs.YtmcjihhfgmfcpaaGreatDoor
open Go
theorem reckons_k0 : Rows.numberReckonsRow.wfByText (OpenSpec.ofChange Rows.numberReckonsSpec) = true := by kernel_rfl
end Go.Proofs.YtmcjihhfgmfcpaaGreatDoor
