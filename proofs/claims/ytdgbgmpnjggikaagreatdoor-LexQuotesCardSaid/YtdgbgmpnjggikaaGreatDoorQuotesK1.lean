/-
  LexQuotes: closed facts of the card, part 1. Conditions: none.
-/
import Derived.Test.YtdgbgmpnjggikaaGreatDoorRows
import Derived.KernelRfl
import Derived.SevenTiedAt
namespace Go.Proofs.YtdgbgmpnjggikaaGreatDoor
open Go
theorem quotes_k1 : Tryz.pinned.checked.prog.mainIs = some (true, "b204dd66e29361a893dee84e090eeb2a680843b5e68644ec72c374fec7de27e4".toList) := by kernel_rfl
theorem quotes_k2 : Tryz.prog.funcNamed "acheron/acheronlaw05.LexQuotes" = some 3 := by kernel_rfl
theorem quotes_k4 : ([9].all fun u => !Tryz.prog.wantsStandIn u) = true := by kernel_rfl
end Go.Proofs.YtdgbgmpnjggikaaGreatDoor
