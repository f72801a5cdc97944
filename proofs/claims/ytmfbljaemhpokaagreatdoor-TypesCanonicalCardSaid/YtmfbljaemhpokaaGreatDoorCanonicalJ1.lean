/-
  TypesCanonical: closed facts, part 1. Conditions: none.
-/
import Derived.Test.YtmfbljaemhpokaaGreatDoorRows
import Derived.KernelRfl
import Derived.JoinedOf
namespace Go.Proofs.YtmfbljaemhpokaaGreatDoor
open Go
theorem canonical_j9 : ((Rows.typesCanonicalRow.inPlace == Tryz.prog.inPlace 5)) = true := by kernel_rfl
end Go.Proofs.YtmfbljaemhpokaaGreatDoor
