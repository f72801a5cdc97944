/-
  TypesCopies: closed facts of the card, part 0. Conditions: none.
-/
import Derived.Test.YtmfbljaemhpokaaGreatDoorRows
import Derived.KernelRfl
import Derived.SevenTiedAt
namespace Go.Proofs.YtmfbljaemhpokaaGreatDoor
open Go
theorem copies_k0 : Rows.typesCopiesRow.wfByText (OpenSpec.ofChange Rows.typesCopiesSpec) = true := by kernel_rfl
end Go.Proofs.YtmfbljaemhpokaaGreatDoor
