/-
  Facts of the row, reckoned by the kernel, part 0. Conditions: none.
-/
import Derived.Test.YtggjbnonefpcnaaGreatDoorRows
import Derived.KernelRfl
import Derived.JoinedOf
namespace Go.Proofs.YtggjbnonefpcnaaGreatDoor
open Go
theorem j0 : (Rows.nativeNilRow.wf (OpenSpec.ofChange Rows.nativeNilSpec)) = true := by kernel_rfl
theorem j1 : (laidOutB Tryz.prog) = true := by kernel_rfl
theorem j2 : (mapsRowed Tryz.prog) = true := by kernel_rfl
end Go.Proofs.YtggjbnonefpcnaaGreatDoor
