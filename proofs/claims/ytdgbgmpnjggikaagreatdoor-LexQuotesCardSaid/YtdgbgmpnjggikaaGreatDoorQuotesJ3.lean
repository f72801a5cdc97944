/-
  LexQuotes: closed facts, part 3. Conditions: none.
-/
import Derived.Test.YtdgbgmpnjggikaaGreatDoorRows
import Derived.KernelRfl
import Derived.JoinedOf
namespace Go.Proofs.YtdgbgmpnjggikaaGreatDoor
open Go
theorem quotes_j11 : ((Rows.lexQuotesRow.recurses == Tryz.prog.recurses 3)) = true := by kernel_rfl
end Go.Proofs.YtdgbgmpnjggikaaGreatDoor
