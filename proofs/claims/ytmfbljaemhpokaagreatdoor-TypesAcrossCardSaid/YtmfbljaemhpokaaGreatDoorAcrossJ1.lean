/-
  TypesAcross: closed facts, part 1. Conditions: none.
-/
import Derived.Test.YtmfbljaemhpokaaGreatDoorRows
import Derived.KernelRfl
import Derived.JoinedOf
namespace Go.Proofs.YtmfbljaemhpokaaGreatDoor
open Go
theorem across_j9 : ((Rows.typesAcrossRow.inPlace == Tryz.prog.inPlace 6)) = true := by kernel_rfl
end Go.Proofs.YtmfbljaemhpokaaGreatDoor
