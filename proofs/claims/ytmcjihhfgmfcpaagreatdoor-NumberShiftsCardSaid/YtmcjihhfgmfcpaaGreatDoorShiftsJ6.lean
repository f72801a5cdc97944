/-
  NumberShifts: closed facts, part 6. Conditions: none.
-/
import Derived.Test.YtmcjihhfgmfcpaaGreatDoorRows
import Derived.KernelRfl
import Derived.JoinedOf
namespace Go.Proofs.YtmcjihhfgmfcpaaGreatDoor
open Go
theorem shifts_j18 : (Rows.numberShiftsSpec.vars.all (Tryz.prog.varReadable ·)) = true := by kernel_rfl
theorem shifts_j19 : (Tryz.f5.resultTypes.all (fun t => Tryz.prog.readableRec t && decide (t < Tryz.prog.types.size))) = true := by kernel_rfl
theorem shifts_j20 : ((Rows.numberShiftsRow.ifacesOut == Tryz.f5.resultTypes.toList.any (Tryz.prog.ifacesRec ·))) = true := by kernel_rfl
theorem shifts_j21 : ((Rows.numberShiftsRow.loopsOut == Tryz.f5.resultTypes.toList.any (Tryz.prog.loopsFrom ·))) = true := by kernel_rfl
theorem shifts_j22 : ((Rows.numberShiftsRow.plainKeys == Tryz.prog.plainKeys)) = true := by kernel_rfl
theorem shifts_j23 : (Rows.numberShiftsRow.shortTexts.isNone) = true := by kernel_rfl
theorem shifts_j24 : (Tryz.prog.stopsHeard) = true := by kernel_rfl
theorem shifts_j25 : (Tryz.prog.mayEnter) = true := by kernel_rfl
theorem shifts_j26 : ((Rows.numberShiftsRow.lifted == Tryz.prog.liftsFinal)) = true := by kernel_rfl
theorem shifts_j27 : ((Tryz.prog.make == some Rows.numberShiftsRow.make)) = true := by kernel_rfl
theorem shifts_j29 : ((Rows.numberShiftsRow.pinned == Rows.numberShiftsRow.pinnedBy)) = true := by kernel_rfl
theorem shifts_j30 : ((Rows.numberShiftsRow.veiled == (Tryz.f5.params.toList ++ Rows.numberShiftsSpec.plain.varTypes Tryz.prog ++ Tryz.f5.resultTypes.toList).any (Tryz.prog.veiledRec ·))) = true := by kernel_rfl
theorem shifts_j31 : (Rows.numberShiftsRow.veiledFits Tryz.prog Tryz.f5.params.toList (Tryz.f5.params.toList ++ Rows.numberShiftsSpec.plain.varTypes Tryz.prog ++ Tryz.f5.resultTypes.toList)) = true := by kernel_rfl
end Go.Proofs.YtmcjihhfgmfcpaaGreatDoor
