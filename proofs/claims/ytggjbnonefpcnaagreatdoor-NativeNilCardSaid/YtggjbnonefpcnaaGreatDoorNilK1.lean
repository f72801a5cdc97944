/-
  Facts of the card, reckoned by the kernel, part 1. Conditions: none.
-/
import Derived.Test.YtggjbnonefpcnaaGreatDoorRows
import Derived.KernelRfl
import Derived.SevenTiedAt
namespace Go.Proofs.YtggjbnonefpcnaaGreatDoor
open Go
theorem k1 : Tryz.pinned.checked.prog.mainIs = some (true, "386a53aac351b0704d1f861a57e6979e39943afcfb0310c77a478ce2f79405ce".toList) := by kernel_rfl
theorem k2 : Tryz.prog.funcNamed "acheron/acheronlaw26.NativeNil" = some 3 := by kernel_rfl
theorem k4 : ([3, 9].all fun u => !Tryz.prog.wantsStandIn u) = true := by kernel_rfl
end Go.Proofs.YtggjbnonefpcnaaGreatDoor
