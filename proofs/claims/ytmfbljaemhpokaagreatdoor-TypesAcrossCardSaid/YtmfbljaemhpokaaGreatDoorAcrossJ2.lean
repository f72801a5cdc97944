/-
  TypesAcross: closed facts, part 2. Conditions: none.
-/
import Derived.Test.YtmfbljaemhpokaaGreatDoorRows
import Derived.KernelRfl
import Derived.JoinedOf
namespace Go.Proofs.YtmfbljaemhpokaaGreatDoor
open Go
theorem across_j10 : ((Rows.typesAcrossRow.unfollowed == Tryz.prog.unfollowed 6)) = true := by kernel_rfl
end Go.Proofs.YtmfbljaemhpokaaGreatDoor
