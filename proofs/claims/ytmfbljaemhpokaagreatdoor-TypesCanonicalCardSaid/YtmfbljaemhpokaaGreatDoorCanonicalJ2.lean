/-
  TypesCanonical: closed facts, part 2. Conditions: none.
-/
import Derived.Test.YtmfbljaemhpokaaGreatDoorRows
import Derived.KernelRfl
import Derived.JoinedOf
namespace Go.Proofs.YtmfbljaemhpokaaGreatDoor
open Go
theorem canonical_j10 : ((Rows.typesCanonicalRow.unfollowed == Tryz.prog.unfollowed 5)) = true := by kernel_rfl
end Go.Proofs.YtmfbljaemhpokaaGreatDoor
