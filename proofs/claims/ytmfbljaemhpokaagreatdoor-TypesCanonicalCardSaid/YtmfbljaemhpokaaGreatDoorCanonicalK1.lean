/-
  TypesCanonical: closed facts of the card, part 1. Conditions: none.
-/
import Derived.Test.YtmfbljaemhpokaaGreatDoorRows
import Derived.KernelRfl
import Derived.SevenTiedAt
namespace Go.Proofs.YtmfbljaemhpokaaGreatDoor
open Go
theorem canonical_k1 : Tryz.pinned.checked.prog.mainIs = some (true, "5c379b04abaf1a6f567460b020edf34b42b6ebbffee1a9e6e29a2fd064d52401".toList) := by kernel_rfl
theorem canonical_k2 : Tryz.prog.funcNamed "acheron/acheronlaw08.TypesCanonical" = some 5 := by kernel_rfl
theorem canonical_k4 : ([22, 3, 3].all fun u => !Tryz.prog.wantsStandIn u) = true := by kernel_rfl
end Go.Proofs.YtmfbljaemhpokaaGreatDoor
