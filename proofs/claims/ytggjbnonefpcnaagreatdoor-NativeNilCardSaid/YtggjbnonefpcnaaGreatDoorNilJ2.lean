/-
  Facts of the row, reckoned by the kernel, part 2. Conditions: none.
-/
import Derived.Test.YtggjbnonefpcnaaGreatDoorRows
import Derived.KernelRfl
import Derived.JoinedOf
namespace Go.Proofs.YtggjbnonefpcnaaGreatDoor
open Go
theorem j10 : ((Rows.nativeNilRow.unfollowed == Tryz.prog.unfollowed 3)) = true := by kernel_rfl
end Go.Proofs.YtggjbnonefpcnaaGreatDoor
