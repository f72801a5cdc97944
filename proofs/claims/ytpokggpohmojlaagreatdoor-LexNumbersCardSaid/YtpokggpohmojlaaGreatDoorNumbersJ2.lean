/-
  LexNumbers: closed facts, part 2. Conditions: none.
-/
import Derived.Test.YtpokggpohmojlaaGreatDoorRows
import Derived.KernelRfl
import Derived.JoinedOf
namespace Go.Proofs.YtpokggpohmojlaaGreatDoor
open Go
theorem numbers_j10 : ((Rows.lexNumbersRow.unfollowed == Tryz.prog.unfollowed 3)) = true := by kernel_rfl
end Go.Proofs.YtpokggpohmojlaaGreatDoor
