/-
  TypesCopies: closed facts, part 1. Conditions: none.
-/
import Derived.Test.YtmfbljaemhpokaaGreatDoorRows
import Derived.KernelRfl
import Derived.JoinedOf
namespace Go.Proofs.YtmfbljaemhpokaaGreatDoor
open Go
theorem copies_j9 : ((Rows.typesCopiesRow.inPlace == Tryz.prog.inPlace 10)) = true := by kernel_rfl
end Go.Proofs.YtmfbljaemhpokaaGreatDoor
