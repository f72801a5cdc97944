/-
  NumberRing: closed facts, part 2. Conditions: none.
-/
import Derived.Test.YtmcjihhfgmfcpaaGreatDoorRows
import Derived.KernelRfl
import Derived.JoinedOf
namespace Go.Proofs.YtmcjihhfgmfcpaaGreatDoor
open Go
theorem ring_j10 : ((Rows.numberRingRow.unfollowed == Tryz.prog.unfollowed 6)) = true := by kernel_rfl
end Go.Proofs.YtmcjihhfgmfcpaaGreatDoor
