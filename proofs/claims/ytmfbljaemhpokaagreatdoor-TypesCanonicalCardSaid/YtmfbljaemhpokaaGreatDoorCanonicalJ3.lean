/-
  TypesCanonical: closed facts, part 3. Conditions: none.
-/
import Derived.Test.YtmfbljaemhpokaaGreatDoorRows
import Derived.KernelRfl
import Derived.JoinedOf
namespace Go.Proofs.YtmfbljaemhpokaaGreatDoor
open Go
theorem canonical_j11 : ((Rows.typesCanonicalRow.recurses == Tryz.prog.recurses 5)) = true := by kernel_rfl
end Go.Proofs.YtmfbljaemhpokaaGreatDoor
