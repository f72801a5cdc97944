/-
  LexWords: closed facts, part 5. Conditions: none.
-/
import Derived.Test.YtodpkhdfmcijnaaGreatDoorRows
import Derived.KernelRfl
import Derived.JoinedOf
namespace Go.Proofs.YtodpkhdfmcijnaaGreatDoor
open Go
theorem words_j3 : (Tryz.f3.params.all (Tryz.prog.readableRec ·)) = true := by kernel_rfl
theorem words_j4 : (namedTie Tryz.prog Rows.lexWordsRow.named Rows.lexWordsSpec.vars) = true := by kernel_rfl
theorem words_j5 : ((Rows.lexWordsRow.stops == [])) = true := by kernel_rfl
theorem words_j6 : ((Tryz.prog.stops == [])) = true := by kernel_rfl
theorem words_j7 : ((Rows.lexWordsRow.knobs == [])) = true := by kernel_rfl
theorem words_j8 : ((Tryz.prog.stopKnobs == [])) = true := by kernel_rfl
theorem words_j13 : ((Rows.lexWordsRow.maps == (Tryz.f3.params.toList ++ Rows.lexWordsSpec.plain.varTypes Tryz.prog).any (Tryz.prog.mapsRec ·))) = true := by kernel_rfl
theorem words_j14 : ((Rows.lexWordsRow.ifaces == (Tryz.f3.params.toList ++ Rows.lexWordsSpec.plain.varTypes Tryz.prog).any (Tryz.prog.ifacesRec ·))) = true := by kernel_rfl
theorem words_j15 : ((Rows.lexWordsRow.mapsOut == Tryz.prog.mapsAmong Tryz.f3.resultTypes.toList)) = true := by kernel_rfl
theorem words_j16 : ((Rows.lexWordsRow.loops == (Tryz.f3.params.toList ++ Rows.lexWordsSpec.plain.varTypes Tryz.prog).any (Tryz.prog.loopsFrom ·))) = true := by kernel_rfl
theorem words_j17 : ((Rows.lexWordsRow.wideKeys == (Tryz.f3.params.toList ++ Rows.lexWordsSpec.plain.varTypes Tryz.prog ++ Tryz.f3.resultTypes.toList).any (Tryz.prog.wideKeysFrom ·))) = true := by kernel_rfl
end Go.Proofs.YtodpkhdfmcijnaaGreatDoor
