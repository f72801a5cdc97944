/-
  TypesCopies: closed facts, part 4. Conditions: none.
-/
import Derived.Test.YtmfbljaemhpokaaGreatDoorRows
import Derived.KernelRfl
import Derived.JoinedOf
namespace Go.Proofs.YtmfbljaemhpokaaGreatDoor
open Go
theorem copies_j12 : ((Rows.typesCopiesRow.named == Tryz.prog.varsNamed 10)) = true := by kernel_rfl
end Go.Proofs.YtmfbljaemhpokaaGreatDoor
