/-
  TypesCanonical: closed facts of the card, part 0. Conditions: none.
-/
import Derived.Test.YtmfbljaemhpokaaGreatDoorRows
import Derived.KernelRfl
import Derived.SevenTiedAt
namespace Go.Proofs.YtmfbljaemhpokaaGreatDoor
open Go
theorem canonical_k0 : Rows.typesCanonicalRow.wfByText (OpenSpec.ofChange Rows.typesCanonicalSpec) = true := by kernel_rfl
end Go.Proofs.YtmfbljaemhpokaaGreatDoor
