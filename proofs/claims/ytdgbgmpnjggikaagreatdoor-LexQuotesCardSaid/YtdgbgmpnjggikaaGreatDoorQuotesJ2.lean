/-
  LexQuotes: closed facts, part 2. Conditions: none.
-/
import Derived.Test.YtdgbgmpnjggikaaGreatDoorRows
import Derived.KernelRfl
import Derived.JoinedOf
namespace Go.Proofs.YtdgbgmpnjggikaaGreatDoor
open Go
theorem quotes_j10 : ((Rows.lexQuotesRow.unfollowed == Tryz.prog.unfollowed 3)) = true := by kernel_rfl
end Go.Proofs.YtdgbgmpnjggikaaGreatDoor
