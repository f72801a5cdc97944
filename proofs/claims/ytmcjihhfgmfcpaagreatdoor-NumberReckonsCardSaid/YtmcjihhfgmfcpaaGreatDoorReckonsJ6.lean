/-
  NumberReckons: closed facts, part 6. Conditions: none.
-/
import Derived.Test.YtmcjihhfgmfcpaaGreatDoorRows
import Derived.KernelRfl
import Derived.JoinedOf
namespace Go.Proofs.YtmcjihhfgmfcpaaGreatDoor
open Go
theorem reckons_j18 : (Rows.numberReckonsSpec.vars.all (Tryz.prog.varReadable ·)) = true := by kernel_rfl
theorem reckons_j19 : (Tryz.f8.resultTypes.all (fun t => Tryz.prog.readableRec t && decide (t < Tryz.prog.types.size))) = true := by kernel_rfl
theorem reckons_j20 : ((Rows.numberReckonsRow.ifacesOut == Tryz.f8.resultTypes.toList.any (Tryz.prog.ifacesRec ·))) = true := by kernel_rfl
theorem reckons_j21 : ((Rows.numberReckonsRow.loopsOut == Tryz.f8.resultTypes.toList.any (Tryz.prog.loopsFrom ·))) = true := by kernel_rfl
theorem reckons_j22 : ((Rows.numberReckonsRow.plainKeys == Tryz.prog.plainKeys)) = true := by kernel_rfl
theorem reckons_j23 : (Rows.numberReckonsRow.shortTexts.isNone) = true := by kernel_rfl
theorem reckons_j24 : (Tryz.prog.stopsHeard) = true := by kernel_rfl
theorem reckons_j25 : (Tryz.prog.mayEnter) = true := by kernel_rfl
theorem reckons_j26 : ((Rows.numberReckonsRow.lifted == Tryz.prog.liftsFinal)) = true := by kernel_rfl
theorem reckons_j27 : ((Tryz.prog.make == some Rows.numberReckonsRow.make)) = true := by kernel_rfl
theorem reckons_j29 : ((Rows.numberReckonsRow.pinned == Rows.numberReckonsRow.pinnedBy)) = true := by kernel_rfl
theorem reckons_j30 : ((Rows.numberReckonsRow.veiled == (Tryz.f8.params.toList ++ Rows.numberReckonsSpec.plain.varTypes Tryz.prog ++ Tryz.f8.resultTypes.toList).any (Tryz.prog.veiledRec ·))) = true := by kernel_rfl
theorem reckons_j31 : (Rows.numberReckonsRow.veiledFits Tryz.prog Tryz.f8.params.toList (Tryz.f8.params.toList ++ Rows.numberReckonsSpec.plain.varTypes Tryz.prog ++ Tryz.f8.resultTypes.toList)) = true := by kernel_rfl
end Go.Proofs.YtmcjihhfgmfcpaaGreatDoor
