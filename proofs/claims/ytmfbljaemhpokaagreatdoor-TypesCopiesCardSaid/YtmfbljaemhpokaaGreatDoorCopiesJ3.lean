/-
  TypesCopies: closed facts, part 3. Conditions: none.
-/
import Derived.Test.YtmfbljaemhpokaaGreatDoorRows
import Derived.KernelRfl
import Derived.JoinedOf
namespace Go.Proofs.YtmfbljaemhpokaaGreatDoor
open Go
theorem copies_j11 : ((Rows.typesCopiesRow.recurses == Tryz.prog.recurses 10)) = true := by kernel_rfl
end Go.Proofs.YtmfbljaemhpokaaGreatDoor
