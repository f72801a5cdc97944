/-
  NumberShifts: closed facts, part 5. Conditions: none.
-/
import Derived.Test.YtmcjihhfgmfcpaaGreatDoorRows
import Derived.KernelRfl
import Derived.JoinedOf
namespace Go.Proofs.YtmcjihhfgmfcpaaGreatDoor
open Go
theorem shifts_j3 : (Tryz.f5.params.all (Tryz.prog.readableRec ·)) = true := by kernel_rfl
theorem shifts_j4 : (namedTie Tryz.prog Rows.numberShiftsRow.named Rows.numberShiftsSpec.vars) = true := by kernel_rfl
theorem shifts_j5 : ((Rows.numberShiftsRow.stops == [])) = true := by kernel_rfl
theorem shifts_j6 : ((Tryz.prog.stops == [])) = true := by kernel_rfl
theorem shifts_j7 : ((Rows.numberShiftsRow.knobs == [])) = true := by kernel_rfl
theorem shifts_j8 : ((Tryz.prog.stopKnobs == [])) = true := by kernel_rfl
theorem shifts_j13 : ((Rows.numberShiftsRow.maps == (Tryz.f5.params.toList ++ Rows.numberShiftsSpec.plain.varTypes Tryz.prog).any (Tryz.prog.mapsRec ·))) = true := by kernel_rfl
theorem shifts_j14 : ((Rows.numberShiftsRow.ifaces == (Tryz.f5.params.toList ++ Rows.numberShiftsSpec.plain.varTypes Tryz.prog).any (Tryz.prog.ifacesRec ·))) = true := by kernel_rfl
theorem shifts_j15 : ((Rows.numberShiftsRow.mapsOut == Tryz.prog.mapsAmong Tryz.f5.resultTypes.toList)) = true := by kernel_rfl
theorem shifts_j16 : ((Rows.numberShiftsRow.loops == (Tryz.f5.params.toList ++ Rows.numberShiftsSpec.plain.varTypes Tryz.prog).any (Tryz.prog.loopsFrom ·))) = true := by kernel_rfl
theorem shifts_j17 : ((Rows.numberShiftsRow.wideKeys == (Tryz.f5.params.toList ++ Rows.numberShiftsSpec.plain.varTypes Tryz.prog ++ Tryz.f5.resultTypes.toList).any (Tryz.prog.wideKeysFrom ·))) = true := by kernel_rfl
end Go.Proofs.YtmcjihhfgmfcpaaGreatDoor
