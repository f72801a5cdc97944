/-
  NumberConverts: closed facts of the card, part 1. Conditions: none.
-/
import Derived.Test.YtmcjihhfgmfcpaaGreatDoorRows
import Derived.KernelRfl
import Derived.SevenTiedAt
namespace Go.Proofs.YtmcjihhfgmfcpaaGreatDoor
open Go
theorem converts_k1 : Tryz.pinned.checked.prog.mainIs = some (true, "918abb3e81c2fe7dd50410bac959e12192b0491706b51825c57714e17fbeef02".toList) := by kernel_rfl
theorem converts_k2 : Tryz.prog.funcNamed "acheron/acheronlaw04.NumberConverts" = some 11 := by kernel_rfl
theorem converts_k4 : ([3, 3, 2].all fun u => !Tryz.prog.wantsStandIn u) = true := by kernel_rfl
end Go.Proofs.YtmcjihhfgmfcpaaGreatDoor
