/-
  Facts of the card, reckoned by the kernel, part 0. Conditions: none.
-/
import Derived.Test.YtggjbnonefpcnaaGreatDoorRows
import Derived.KernelRfl
import Derived.SevenTiedAt
namespace Go.Proofs.YtggjbnonefpcnaaGreatDoor
open Go
theorem k0 : Rows.nativeNilRow.wfByText (OpenSpec.ofChange Rows.nativeNilSpec) = true := by kernel_rfl
end Go.Proofs.YtggjbnonefpcnaaGreatDoor
