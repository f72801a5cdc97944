/-
  LexNumbers: closed facts, part 3. Conditions: none.
-/
import Derived.Test.YtpokggpohmojlaaGreatDoorRows
import Derived.KernelRfl
import Derived.JoinedOf
namespace Go.Proofs.YtpokggpohmojlaaGreatDoor
open Go
theorem numbers_j11 : ((Rows.lexNumbersRow.recurses == Tryz.prog.recurses 3)) = true := by kernel_rfl
end Go.Proofs.YtpokggpohmojlaaGreatDoor
