/-
  LexQuotes: closed facts, part 1. Conditions: none.
-/
import Derived.Test.YtdgbgmpnjggikaaGreatDoorRows
import Derived.KernelRfl
import Derived.JoinedOf
namespace Go.Proofs.YtdgbgmpnjggikaaGreatDoor
open Go
theorem quotes_j9 : ((Rows.lexQuotesRow.inPlace == Tryz.prog.inPlace 3)) = true := by kernel_rfl
end Go.Proofs.YtdgbgmpnjggikaaGreatDoor
