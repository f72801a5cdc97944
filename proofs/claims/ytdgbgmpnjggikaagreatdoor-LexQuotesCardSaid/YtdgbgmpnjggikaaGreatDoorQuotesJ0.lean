/-
  LexQuotes: closed facts, part 0. Conditions: none.
-/
import Derived.Test.YtdgbgmpnjggikaaGreatDoorRows
import Derived.KernelRfl
import Derived.JoinedOf
namespace Go.Proofs.YtdgbgmpnjggikaaGreatDoor
open Go
theorem quotes_j0 : (Rows.lexQuotesRow.wf (OpenSpec.ofChange Rows.lexQuotesSpec)) = true := by kernel_rfl
theorem quotes_j1 : (laidOutB Tryz.prog) = true := by kernel_rfl
theorem quotes_j2 : (mapsRowed Tryz.prog) = true := by kernel_rfl
end Go.Proofs.YtdgbgmpnjggikaaGreatDoor
