/-
  Facts of the row, reckoned by the kernel, part 4. Conditions: none.
-/
import Derived.Test.YtggjbnonefpcnaaGreatDoorRows
import Derived.KernelRfl
import Derived.JoinedOf
namespace Go.Proofs.YtggjbnonefpcnaaGreatDoor
open Go
theorem j12 : ((Rows.nativeNilRow.named == Tryz.prog.varsNamed 3)) = true := by kernel_rfl
end Go.Proofs.YtggjbnonefpcnaaGreatDoor
