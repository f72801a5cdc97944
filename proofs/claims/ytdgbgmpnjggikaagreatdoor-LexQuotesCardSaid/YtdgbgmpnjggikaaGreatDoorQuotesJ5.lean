/-
  LexQuotes: closed facts, part 5. Conditions: none.
-/
import Derived.Test.YtdgbgmpnjggikaaGreatDoorRows
import Derived.KernelRfl
import Derived.JoinedOf
namespace Go.Proofs.YtdgbgmpnjggikaaGreatDoor
open Go
theorem quotes_j3 : (Tryz.f3.params.all (Tryz.prog.readableRec ·)) = true := by kernel_rfl
theorem quotes_j4 : (namedTie Tryz.prog Rows.lexQuotesRow.named Rows.lexQuotesSpec.vars) = true := by kernel_rfl
theorem quotes_j5 : ((Rows.lexQuotesRow.stops == [])) = true := by kernel_rfl
theorem quotes_j6 : ((Tryz.prog.stops == [])) = true := by kernel_rfl
theorem quotes_j7 : ((Rows.lexQuotesRow.knobs == [])) = true := by kernel_rfl
theorem quotes_j8 : ((Tryz.prog.stopKnobs == [])) = true := by kernel_rfl
theorem quotes_j13 : ((Rows.lexQuotesRow.maps == (Tryz.f3.params.toList ++ Rows.lexQuotesSpec.plain.varTypes Tryz.prog).any (Tryz.prog.mapsRec ·))) = true := by kernel_rfl
theorem quotes_j14 : ((Rows.lexQuotesRow.ifaces == (Tryz.f3.params.toList ++ Rows.lexQuotesSpec.plain.varTypes Tryz.prog).any (Tryz.prog.ifacesRec ·))) = true := by kernel_rfl
theorem quotes_j15 : ((Rows.lexQuotesRow.mapsOut == Tryz.prog.mapsAmong Tryz.f3.resultTypes.toList)) = true := by kernel_rfl
theorem quotes_j16 : ((Rows.lexQuotesRow.loops == (Tryz.f3.params.toList ++ Rows.lexQuotesSpec.plain.varTypes Tryz.prog).any (Tryz.prog.loopsFrom ·))) = true := by kernel_rfl
theorem quotes_j17 : ((Rows.lexQuotesRow.wideKeys == (Tryz.f3.params.toList ++ Rows.lexQuotesSpec.plain.varTypes Tryz.prog ++ Tryz.f3.resultTypes.toList).any (Tryz.prog.wideKeysFrom ·))) = true := by kernel_rfl
end Go.Proofs.YtdgbgmpnjggikaaGreatDoor
