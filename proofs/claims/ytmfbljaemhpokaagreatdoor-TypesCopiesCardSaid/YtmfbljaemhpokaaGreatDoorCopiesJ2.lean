/-
  TypesCopies: closed facts, part 2. Conditions: none.
-/
import Derived.Test.YtmfbljaemhpokaaGreatDoorRows
import Derived.KernelRfl
import Derived.JoinedOf
namespace Go.Proofs.YtmfbljaemhpokaaGreatDoor
open Go
theorem copies_j10 : ((Rows.typesCopiesRow.unfollowed == Tryz.prog.unfollowed 10)) = true := by kernel_rfl
end Go.Proofs.YtmfbljaemhpokaaGreatDoor
