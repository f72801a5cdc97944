/-
  NumberReckons: closed facts, part 3. Conditions: none.
-/
import Derived.Test.YtmcjihhfgmfcpaaGreatDoorRows
import Derived.KernelRfl
import Derived.JoinedOf
namespace Go.Proofs.YtmcjihhfgmfcpaaGreatDoor
open Go
theorem reckons_j11 : ((Rows.numberReckonsRow.recurses == Tryz.prog.recurses 8)) = true := by kernel_rfl
end Go.Proofs.YtmcjihhfgmfcpaaGreatDoor
