/-
  NumberCompares: closed facts, part 6. Conditions: none.
-/
import Derived.Test.YtmcjihhfgmfcpaaGreatDoorRows
import Derived.KernelRfl
import Derived.JoinedOf
namespace Go.Proofs.YtmcjihhfgmfcpaaGreatDoor
open Go
theorem compares_j18 : (Rows.numberComparesSpec.vars.all (Tryz.prog.varReadable ·)) = true := by kernel_rfl
theorem compares_j19 : (Tryz.f9.resultTypes.all (fun t => Tryz.prog.readableRec t && decide (t < Tryz.prog.types.size))) = true := by kernel_rfl
theorem compares_j20 : ((Rows.numberComparesRow.ifacesOut == Tryz.f9.resultTypes.toList.any (Tryz.prog.ifacesRec ·))) = true := by kernel_rfl
theorem compares_j21 : ((Rows.numberComparesRow.loopsOut == Tryz.f9.resultTypes.toList.any (Tryz.prog.loopsFrom ·))) = true := by kernel_rfl
theorem compares_j22 : ((Rows.numberComparesRow.plainKeys == Tryz.prog.plainKeys)) = true := by kernel_rfl
theorem compares_j23 : (Rows.numberComparesRow.shortTexts.isNone) = true := by kernel_rfl
theorem compares_j24 : (Tryz.prog.stopsHeard) = true := by kernel_rfl
theorem compares_j25 : (Tryz.prog.mayEnter) = true := by kernel_rfl
theorem compares_j26 : ((Rows.numberComparesRow.lifted == Tryz.prog.liftsFinal)) = true := by kernel_rfl
theorem compares_j27 : ((Tryz.prog.make == some Rows.numberComparesRow.make)) = true := by kernel_rfl
theorem compares_j29 : ((Rows.numberComparesRow.pinned == Rows.numberComparesRow.pinnedBy)) = true := by kernel_rfl
theorem compares_j30 : ((Rows.numberComparesRow.veiled == (Tryz.f9.params.toList ++ Rows.numberComparesSpec.plain.varTypes Tryz.prog ++ Tryz.f9.resultTypes.toList).any (Tryz.prog.veiledRec ·))) = true := by kernel_rfl
theorem compares_j31 : (Rows.numberComparesRow.veiledFits Tryz.prog Tryz.f9.params.toList (Tryz.f9.params.toList ++ Rows.numberComparesSpec.plain.varTypes Tryz.prog ++ Tryz.f9.resultTypes.toList)) = true := by kernel_rfl
end Go.Proofs.YtmcjihhfgmfcpaaGreatDoor
