/-
  LexQuotes: closed facts, part 4. Conditions: none.
-/
import Derived.Test.YtdgbgmpnjggikaaGreatDoorRows
import Derived.KernelRfl
import Derived.JoinedOf
namespace Go.Proofs.YtdgbgmpnjggikaaGreatDoor
open Go
theorem quotes_j12 : ((Rows.lexQuotesRow.named == Tryz.prog.varsNamed 3)) = true := by kernel_rfl
end Go.Proofs.YtdgbgmpnjggikaaGreatDoor
