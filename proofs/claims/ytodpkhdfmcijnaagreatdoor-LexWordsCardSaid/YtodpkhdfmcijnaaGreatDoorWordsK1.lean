/-
  LexWords: closed facts of the card, part 1. Conditions: none.
-/
import Derived.Test.YtodpkhdfmcijnaaGreatDoorRows
import Derived.KernelRfl
import Derived.SevenTiedAt
namespace Go.Proofs.YtodpkhdfmcijnaaGreatDoor
open Go
theorem words_k1 : Tryz.pinned.checked.prog.mainIs = some (true, "2d8733a35c2fa978642a0d91bcf0bcd389ea386260d78155824592a3e31bb471".toList) := by kernel_rfl
theorem words_k2 : Tryz.prog.funcNamed "acheron/acheronlaw05.LexWords" = some 3 := by kernel_rfl
theorem words_k4 : ([9].all fun u => !Tryz.prog.wantsStandIn u) = true := by kernel_rfl
end Go.Proofs.YtodpkhdfmcijnaaGreatDoor
