/-
  NumberOrders: closed facts, part 6. Conditions: none.
-/
import Derived.Test.YtmcjihhfgmfcpaaGreatDoorRows
import Derived.KernelRfl
import Derived.JoinedOf
namespace Go.Proofs.YtmcjihhfgmfcpaaGreatDoor
open Go
theorem orders_j18 : (Rows.numberOrdersSpec.vars.all (Tryz.prog.varReadable ·)) = true := by kernel_rfl
theorem orders_j19 : (Tryz.f10.resultTypes.all (fun t => Tryz.prog.readableRec t && decide (t < Tryz.prog.types.size))) = true := by kernel_rfl
theorem orders_j20 : ((Rows.numberOrdersRow.ifacesOut == Tryz.f10.resultTypes.toList.any (Tryz.prog.ifacesRec ·))) = true := by kernel_rfl
theorem orders_j21 : ((Rows.numberOrdersRow.loopsOut == Tryz.f10.resultTypes.toList.any (Tryz.prog.loopsFrom ·))) = true := by kernel_rfl
theorem orders_j22 : ((Rows.numberOrdersRow.plainKeys == Tryz.prog.plainKeys)) = true := by kernel_rfl
theorem orders_j23 : (Rows.numberOrdersRow.shortTexts.isNone) = true := by kernel_rfl
theorem orders_j24 : (Tryz.prog.stopsHeard) = true := by kernel_rfl
theorem orders_j25 : (Tryz.prog.mayEnter) = true := by kernel_rfl
theorem orders_j26 : ((Rows.numberOrdersRow.lifted == Tryz.prog.liftsFinal)) = true := by kernel_rfl
theorem orders_j27 : ((Tryz.prog.make == some Rows.numberOrdersRow.make)) = true := by kernel_rfl
theorem orders_j29 : ((Rows.numberOrdersRow.pinned == Rows.numberOrdersRow.pinnedBy)) = true := by kernel_rfl
theorem orders_j30 : ((Rows.numberOrdersRow.veiled == (Tryz.f10.params.toList ++ Rows.numberOrdersSpec.plain.varTypes Tryz.prog ++ Tryz.f10.resultTypes.toList).any (Tryz.prog.veiledRec ·))) = true := by kernel_rfl
theorem orders_j31 : (Rows.numberOrdersRow.veiledFits Tryz.prog Tryz.f10.params.toList (Tryz.f10.params.toList ++ Rows.numberOrdersSpec.plain.varTypes Tryz.prog ++ Tryz.f10.resultTypes.toList)) = true := by kernel_rfl
end Go.Proofs.YtmcjihhfgmfcpaaGreatDoor
