/-
  Facts of the row, reckoned by the kernel, part 3. Conditions: none.
-/
import Derived.Test.YtggjbnonefpcnaaGreatDoorRows
import Derived.KernelRfl
import Derived.JoinedOf
namespace Go.Proofs.YtggjbnonefpcnaaGreatDoor
open Go
theorem j11 : ((Rows.nativeNilRow.recurses == Tryz.prog.recurses 3)) = true := by kernel_rfl
end Go.Proofs.YtggjbnonefpcnaaGreatDoor
