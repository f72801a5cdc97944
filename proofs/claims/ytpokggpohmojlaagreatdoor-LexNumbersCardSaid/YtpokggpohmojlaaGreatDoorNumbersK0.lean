/-
  LexNumbers: closed facts of the card, part 0. Conditions: none.
-/
import Derived.Test.YtpokggpohmojlaaGreatDoorRows
import Derived.KernelRfl
import Derived.SevenTiedAt
namespace Go.Proofs.YtpokggpohmojlaaGreatDoor
open Go
theorem numbers_k0 : Rows.lexNumbersRow.wfByText (OpenSpec.ofChange Rows.lexNumbersSpec) = true := by kernel_rfl
end Go.Proofs.YtpokggpohmojlaaGreatDoor
