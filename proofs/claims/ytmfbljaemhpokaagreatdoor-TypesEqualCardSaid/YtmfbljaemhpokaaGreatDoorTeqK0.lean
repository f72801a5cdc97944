/-
  TypesEqual: closed facts of the card, part 0. Conditions: none.
-/
import Derived.Test.YtmfbljaemhpokaaGreatDoorRows
import Derived.KernelRfl
import Derived.SevenTiedAt
namespace Go.Proofs.YtmfbljaemhpokaaGreatDoor
open Go
theorem teq_k0 : Rows.typesEqualRow.wfByText (OpenSpec.ofChange Rows.typesEqualSpec) = true := by kernel_rfl
end Go.Proofs.YtmfbljaemhpokaaGreatDoor
