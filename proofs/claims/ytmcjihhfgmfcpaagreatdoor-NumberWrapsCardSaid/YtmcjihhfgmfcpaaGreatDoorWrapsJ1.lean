/-
  NumberWraps: closed facts, part 1. Conditions: none.
-/
import Derived.Test.YtmcjihhfgmfcpaaGreatDoorRows
import Derived.KernelRfl
import Derived.JoinedOf
namespace Go.Proofs.YtmcjihhfgmfcpaaGreatDoor
open Go
theorem wraps_j9 : ((Rows.numberWrapsRow.inPlace == Tryz.prog.inPlace 7)) = true := by kernel_rfl
end Go.Proofs.YtmcjihhfgmfcpaaGreatDoor
