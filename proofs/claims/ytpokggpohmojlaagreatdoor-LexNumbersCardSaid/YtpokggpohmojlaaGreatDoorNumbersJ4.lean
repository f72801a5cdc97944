/-
  LexNumbers: closed facts, part 4. Conditions: none.
-/
import Derived.Test.YtpokggpohmojlaaGreatDoorRows
import Derived.KernelRfl
import Derived.JoinedOf
namespace Go.Proofs.YtpokggpohmojlaaGreatDoor
open Go
theorem numbers_j12 : ((Rows.lexNumbersRow.named == Tryz.prog.varsNamed 3)) = true := by kernel_rfl
end Go.Proofs.YtpokggpohmojlaaGreatDoor
