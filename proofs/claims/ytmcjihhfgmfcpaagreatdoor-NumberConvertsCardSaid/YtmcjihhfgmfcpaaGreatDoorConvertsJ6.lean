/-
  NumberConverts: closed facts, part 6. Conditions: none.
-/
import Derived.Test.YtmcjihhfgmfcpaaGreatDoorRows
import Derived.KernelRfl
import Derived.JoinedOf
namespace Go.Proofs.YtmcjihhfgmfcpaaGreatDoor
open Go
theorem converts_j18 : (Rows.numberConvertsSpec.vars.all (Tryz.prog.varReadable ·)) = true := by kernel_rfl
theorem converts_j19 : (Tryz.f11.resultTypes.all (fun t => Tryz.prog.readableRec t && decide (t < Tryz.prog.types.size))) = true := by kernel_rfl
theorem converts_j20 : ((Rows.numberConvertsRow.ifacesOut == Tryz.f11.resultTypes.toList.any (Tryz.prog.ifacesRec ·))) = true := by kernel_rfl
theorem converts_j21 : ((Rows.numberConvertsRow.loopsOut == Tryz.f11.resultTypes.toList.any (Tryz.prog.loopsFrom ·))) = true := by kernel_rfl
theorem converts_j22 : ((Rows.numberConvertsRow.plainKeys == Tryz.prog.plainKeys)) = true := by kernel_rfl
theorem converts_j23 : (Rows.numberConvertsRow.shortTexts.isNone) = true := by kernel_rfl
theorem converts_j24 : (Tryz.prog.stopsHeard) = true := by kernel_rfl
theorem converts_j25 : (Tryz.prog.mayEnter) = true := by kernel_rfl
theorem converts_j26 : ((Rows.numberConvertsRow.lifted == Tryz.prog.liftsFinal)) = true := by kernel_rfl
theorem converts_j27 : ((Tryz.prog.make == some Rows.numberConvertsRow.make)) = true := by kernel_rfl
theorem converts_j29 : ((Rows.numberConvertsRow.pinned == Rows.numberConvertsRow.pinnedBy)) = true := by kernel_rfl
theorem converts_j30 : ((Rows.numberConvertsRow.veiled == (Tryz.f11.params.toList ++ Rows.numberConvertsSpec.plain.varTypes Tryz.prog ++ Tryz.f11.resultTypes.toList).any (Tryz.prog.veiledRec ·))) = true := by kernel_rfl
theorem converts_j31 : (Rows.numberConvertsRow.veiledFits Tryz.prog Tryz.f11.params.toList (Tryz.f11.params.toList ++ Rows.numberConvertsSpec.plain.varTypes Tryz.prog ++ Tryz.f11.resultTypes.toList)) = true := by kernel_rfl
end Go.Proofs.YtmcjihhfgmfcpaaGreatDoor
