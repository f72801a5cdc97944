/-
  LexWords: closed facts, part 6. Conditions: none.
-/
import Derived.Test.YtodpkhdfmcijnaaGreatDoorRows
import Derived.KernelRfl
import Derived.JoinedOf
namespace Go.Proofs.YtodpkhdfmcijnaaGreatDoor
open Go
theorem words_j18 : (Rows.lexWordsSpec.vars.all (Tryz.prog.varReadable ·)) = true := by kernel_rfl
theorem words_j19 : (Tryz.f3.resultTypes.all (fun t => Tryz.prog.readableRec t && decide (t < Tryz.prog.types.size))) = true := by kernel_rfl
theorem words_j20 : ((Rows.lexWordsRow.ifacesOut == Tryz.f3.resultTypes.toList.any (Tryz.prog.ifacesRec ·))) = true := by kernel_rfl
theorem words_j21 : ((Rows.lexWordsRow.loopsOut == Tryz.f3.resultTypes.toList.any (Tryz.prog.loopsFrom ·))) = true := by kernel_rfl
theorem words_j22 : ((Rows.lexWordsRow.plainKeys == Tryz.prog.plainKeys)) = true := by kernel_rfl
theorem words_j23 : (Rows.lexWordsRow.shortTexts.isNone) = true := by kernel_rfl
theorem words_j24 : (Tryz.prog.stopsHeard) = true := by kernel_rfl
theorem words_j25 : (Tryz.prog.mayEnter) = true := by kernel_rfl
theorem words_j26 : ((Rows.lexWordsRow.lifted == Tryz.prog.liftsFinal)) = true := by kernel_rfl
theorem words_j27 : ((Tryz.prog.make == some Rows.lexWordsRow.make)) = true := by kernel_rfl
theorem words_j29 : ((Rows.lexWordsRow.pinned == Rows.lexWordsRow.pinnedBy)) = true := by kernel_rfl
theorem words_j30 : ((Rows.lexWordsRow.veiled == (Tryz.f3.params.toList ++ Rows.lexWordsSpec.plain.varTypes Tryz.prog ++ Tryz.f3.resultTypes.toList).any (Tryz.prog.veiledRec ·))) = true := by kernel_rfl
theorem words_j31 : (Rows.lexWordsRow.veiledFits Tryz.prog Tryz.f3.params.toList (Tryz.f3.params.toList ++ Rows.lexWordsSpec.plain.varTypes Tryz.prog ++ Tryz.f3.resultTypes.toList)) = true := by kernel_rfl
end Go.Proofs.YtodpkhdfmcijnaaGreatDoor
