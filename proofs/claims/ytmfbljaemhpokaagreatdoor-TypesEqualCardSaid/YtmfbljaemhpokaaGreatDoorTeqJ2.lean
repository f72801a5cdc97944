/-
  TypesEqual: closed facts, part 2. Conditions: none.
-/
import Derived.Test.YtmfbljaemhpokaaGreatDoorRows
import Derived.KernelRfl
import Derived.JoinedOf
namespace Go.Proofs.YtmfbljaemhpokaaGreatDoor
open Go
theorem teq_j10 : ((Rows.typesEqualRow.unfollowed == Tryz.prog.unfollowed 4)) = true := by kernel_rfl
end Go.Proofs.YtmfbljaemhpokaaGreatDoor
