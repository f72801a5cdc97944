/-
  LexQuotes: closed facts, part 6. Conditions: none.
-/
import Derived.Test.YtdgbgmpnjggikaaGreatDoorRows
import Derived.KernelRfl
import Derived.JoinedOf
namespace Go.Proofs.YtdgbgmpnjggikaaGreatDoor
open Go
theorem quotes_j18 : (Rows.lexQuotesSpec.vars.all (Tryz.prog.varReadable ·)) = true := by kernel_rfl
theorem quotes_j19 : (Tryz.f3.resultTypes.all (fun t => Tryz.prog.readableRec t && decide (t < Tryz.prog.types.size))) = true := by kernel_rfl
theorem quotes_j20 : ((Rows.lexQuotesRow.ifacesOut == Tryz.f3.resultTypes.toList.any (Tryz.prog.ifacesRec ·))) = true := by kernel_rfl
theorem quotes_j21 : ((Rows.lexQuotesRow.loopsOut == Tryz.f3.resultTypes.toList.any (Tryz.prog.loopsFrom ·))) = true := by kernel_rfl
theorem quotes_j22 : ((Rows.lexQuotesRow.plainKeys == Tryz.prog.plainKeys)) = true := by kernel_rfl
theorem quotes_j23 : (Rows.lexQuotesRow.shortTexts.isNone) = true := by kernel_rfl
theorem quotes_j24 : (Tryz.prog.stopsHeard) = true := by kernel_rfl
theorem quotes_j25 : (Tryz.prog.mayEnter) = true := by kernel_rfl
theorem quotes_j26 : ((Rows.lexQuotesRow.lifted == Tryz.prog.liftsFinal)) = true := by kernel_rfl
theorem quotes_j27 : ((Tryz.prog.make == some Rows.lexQuotesRow.make)) = true := by kernel_rfl
theorem quotes_j29 : ((Rows.lexQuotesRow.pinned == Rows.lexQuotesRow.pinnedBy)) = true := by kernel_rfl
theorem quotes_j30 : ((Rows.lexQuotesRow.veiled == (Tryz.f3.params.toList ++ Rows.lexQuotesSpec.plain.varTypes Tryz.prog ++ Tryz.f3.resultTypes.toList).any (Tryz.prog.veiledRec ·))) = true := by kernel_rfl
theorem quotes_j31 : (Rows.lexQuotesRow.veiledFits Tryz.prog Tryz.f3.params.toList (Tryz.f3.params.toList ++ Rows.lexQuotesSpec.plain.varTypes Tryz.prog ++ Tryz.f3.resultTypes.toList)) = true := by kernel_rfl
end Go.Proofs.YtdgbgmpnjggikaaGreatDoor
