/-
  TypesWidens: closed facts of the card, part 0. Conditions: none.
-/
import Derived.Test.YtmfbljaemhpokaaGreatDoorRows
import Derived.KernelRfl
import Derived.SevenTiedAt
namespace Go.Proofs.YtmfbljaemhpokaaGreatDoor
open Go
theorem widens_k0 : Rows.typesWidensRow.wfByText (OpenSpec.ofChange Rows.typesWidensSpec) = true := by kernel_rfl
end Go.Proofs.YtmfbljaemhpokaaGreatDoor
