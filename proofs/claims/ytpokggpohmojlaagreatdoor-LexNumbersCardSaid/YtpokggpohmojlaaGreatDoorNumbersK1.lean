/-
  LexNumbers: closed facts of the card, part 1. Conditions: none.
-/
import Derived.Test.YtpokggpohmojlaaGreatDoorRows
import Derived.KernelRfl
import Derived.SevenTiedAt
namespace Go.Proofs.YtpokggpohmojlaaGreatDoor
open Go
theorem numbers_k1 : Tryz.pinned.checked.prog.mainIs = some (true, "2da5969ecc14c517ae7bf849857b9e43bd136142d8583905f864989a56e48c45".toList) := by kernel_rfl
theorem numbers_k2 : Tryz.prog.funcNamed "acheron/acheronlaw05.LexNumbers" = some 3 := by kernel_rfl
theorem numbers_k4 : ([2, 5, 5].all fun u => !Tryz.prog.wantsStandIn u) = true := by kernel_rfl
end Go.Proofs.YtpokggpohmojlaaGreatDoor
