/-
  LexQuotes: closed facts of the card, part 0. Conditions: none.
-/
import Derived.Test.YtdgbgmpnjggikaaGreatDoorRows
import Derived.KernelRfl
import Derived.SevenTiedAt
namespace Go.Proofs.YtdgbgmpnjggikaaGreatDoor
open Go
theorem quotes_k0 : Rows.lexQuotesRow.wfByText (OpenSpec.ofChange Rows.lexQuotesSpec) = true := by kernel_rfl
end Go.Proofs.YtdgbgmpnjggikaaGreatDoor
