/-
  Facts of the row, reckoned by the kernel, part 1. Conditions: none.
-/
import Derived.Test.YtggjbnonefpcnaaGreatDoorRows
import Derived.KernelRfl
import Derived.JoinedOf
namespace Go.Proofs.YtggjbnonefpcnaaGreatDoor
open Go
theorem j9 : ((Rows.nativeNilRow.inPlace == Tryz.prog.inPlace 3)) = true := by kernel_rfl
end Go.Proofs.YtggjbnonefpcnaaGreatDoor
