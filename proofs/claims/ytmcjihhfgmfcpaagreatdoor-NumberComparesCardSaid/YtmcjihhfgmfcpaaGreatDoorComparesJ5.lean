/-
  NumberCompares: closed facts, part 5. Conditions: none.
-/
import Derived.Test.YtmcjihhfgmfcpaaGreatDoorRows
import Derived.KernelRfl
import Derived.JoinedOf
namespace Go.Proofs.YtmcjihhfgmfcpaaGreatDoor
open Go
theorem compares_j3 : (Tryz.f9.params.all (Tryz.prog.readableRec ·)) = true := by kernel_rfl
theorem compares_j4 : (namedTie Tryz.prog Rows.numberComparesRow.named Rows.numberComparesSpec.vars) = true := by kernel_rfl
theorem compares_j5 : ((Rows.numberComparesRow.stops == [])) = true := by kernel_rfl
theorem compares_j6 : ((Tryz.prog.stops == [])) = true := by kernel_rfl
theorem compares_j7 : ((Rows.numberComparesRow.knobs == [])) = true := by kernel_rfl
theorem compares_j8 : ((Tryz.prog.stopKnobs == [])) = true := by kernel_rfl
theorem compares_j13 : ((Rows.numberComparesRow.maps == (Tryz.f9.params.toList ++ Rows.numberComparesSpec.plain.varTypes Tryz.prog).any (Tryz.prog.mapsRec ·))) = true := by kernel_rfl
theorem compares_j14 : ((Rows.numberComparesRow.ifaces == (Tryz.f9.params.toList ++ Rows.numberComparesSpec.plain.varTypes Tryz.prog).any (Tryz.prog.ifacesRec ·))) = true := by kernel_rfl
theorem compares_j15 : ((Rows.numberComparesRow.mapsOut == Tryz.prog.mapsAmong Tryz.f9.resultTypes.toList)) = true := by kernel_rfl
theorem compares_j16 : ((Rows.numberComparesRow.loops == (Tryz.f9.params.toList ++ Rows.numberComparesSpec.plain.varTypes Tryz.prog).any (Tryz.prog.loopsFrom ·))) = true := by kernel_rfl
theorem compares_j17 : ((Rows.numberComparesRow.wideKeys == (Tryz.f9.params.toList ++ Rows.numberComparesSpec.plain.varTypes Tryz.prog ++ Tryz.f9.resultTypes.toList).any (Tryz.prog.wideKeysFrom ·))) = true := by kernel_rfl
end Go.Proofs.YtmcjihhfgmfcpaaGreatDoor
