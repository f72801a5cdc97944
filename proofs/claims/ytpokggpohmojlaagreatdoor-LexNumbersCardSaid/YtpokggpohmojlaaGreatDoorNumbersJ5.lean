/-
  LexNumbers: closed facts, part 5. Conditions: none.
-/
import Derived.Test.YtpokggpohmojlaaGreatDoorRows
import Derived.KernelRfl
import Derived.JoinedOf
namespace Go.Proofs.YtpokggpohmojlaaGreatDoor
open Go
theorem numbers_j3 : (Tryz.f3.params.all (Tryz.prog.readableRec ·)) = true := by kernel_rfl
theorem numbers_j4 : (namedTie Tryz.prog Rows.lexNumbersRow.named Rows.lexNumbersSpec.vars) = true := by kernel_rfl
theorem numbers_j5 : ((Rows.lexNumbersRow.stops == [])) = true := by kernel_rfl
theorem numbers_j6 : ((Tryz.prog.stops == [])) = true := by kernel_rfl
theorem numbers_j7 : ((Rows.lexNumbersRow.knobs == [])) = true := by kernel_rfl
theorem numbers_j8 : ((Tryz.prog.stopKnobs == [])) = true := by kernel_rfl
theorem numbers_j13 : ((Rows.lexNumbersRow.maps == (Tryz.f3.params.toList ++ Rows.lexNumbersSpec.plain.varTypes Tryz.prog).any (Tryz.prog.mapsRec ·))) = true := by kernel_rfl
theorem numbers_j14 : ((Rows.lexNumbersRow.ifaces == (Tryz.f3.params.toList ++ Rows.lexNumbersSpec.plain.varTypes Tryz.prog).any (Tryz.prog.ifacesRec ·))) = true := by kernel_rfl
theorem numbers_j15 : ((Rows.lexNumbersRow.mapsOut == Tryz.prog.mapsAmong Tryz.f3.resultTypes.toList)) = true := by kernel_rfl
theorem numbers_j16 : ((Rows.lexNumbersRow.loops == (Tryz.f3.params.toList ++ Rows.lexNumbersSpec.plain.varTypes Tryz.prog).any (Tryz.prog.loopsFrom ·))) = true := by kernel_rfl
theorem numbers_j17 : ((Rows.lexNumbersRow.wideKeys == (Tryz.f3.params.toList ++ Rows.lexNumbersSpec.plain.varTypes Tryz.prog ++ Tryz.f3.resultTypes.toList).any (Tryz.prog.wideKeysFrom ·))) = true := by kernel_rfl
end Go.Proofs.YtpokggpohmojlaaGreatDoor
