/-
  LexNumbers: closed facts, part 6. Conditions: none.
-/
import Derived.Test.YtpokggpohmojlaaGreatDoorRows
import Derived.KernelRfl
import Derived.JoinedOf
namespace Go.Proofs.YtpokggpohmojlaaGreatDoor
open Go
theorem numbers_j18 : (Rows.lexNumbersSpec.vars.all (Tryz.prog.varReadable ·)) = true := by kernel_rfl
theorem numbers_j19 : (Tryz.f3.resultTypes.all (fun t => Tryz.prog.readableRec t && decide (t < Tryz.prog.types.size))) = true := by kernel_rfl
theorem numbers_j20 : ((Rows.lexNumbersRow.ifacesOut == Tryz.f3.resultTypes.toList.any (Tryz.prog.ifacesRec ·))) = true := by kernel_rfl
theorem numbers_j21 : ((Rows.lexNumbersRow.loopsOut == Tryz.f3.resultTypes.toList.any (Tryz.prog.loopsFrom ·))) = true := by kernel_rfl
theorem numbers_j22 : ((Rows.lexNumbersRow.plainKeys == Tryz.prog.plainKeys)) = true := by kernel_rfl
theorem numbers_j23 : (Rows.lexNumbersRow.shortTexts.isNone) = true := by kernel_rfl
theorem numbers_j24 : (Tryz.prog.stopsHeard) = true := by kernel_rfl
theorem numbers_j25 : (Tryz.prog.mayEnter) = true := by kernel_rfl
theorem numbers_j26 : ((Rows.lexNumbersRow.lifted == Tryz.prog.liftsFinal)) = true := by kernel_rfl
theorem numbers_j27 : ((Tryz.prog.make == some Rows.lexNumbersRow.make)) = true := by kernel_rfl
theorem numbers_j29 : ((Rows.lexNumbersRow.pinned == Rows.lexNumbersRow.pinnedBy)) = true := by kernel_rfl
theorem numbers_j30 : ((Rows.lexNumbersRow.veiled == (Tryz.f3.params.toList ++ Rows.lexNumbersSpec.plain.varTypes Tryz.prog ++ Tryz.f3.resultTypes.toList).any (Tryz.prog.veiledRec ·))) = true := by kernel_rfl
theorem numbers_j31 : (Rows.lexNumbersRow.veiledFits Tryz.prog Tryz.f3.params.toList (Tryz.f3.params.toList ++ Rows.lexNumbersSpec.plain.varTypes Tryz.prog ++ Tryz.f3.resultTypes.toList)) = true := by kernel_rfl
end Go.Proofs.YtpokggpohmojlaaGreatDoor
