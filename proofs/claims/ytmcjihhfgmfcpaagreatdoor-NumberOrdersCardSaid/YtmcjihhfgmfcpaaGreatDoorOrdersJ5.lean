/-
  NumberOrders: closed facts, part 5. Conditions: none.
-/
import Derived.Test.YtmcjihhfgmfcpaaGreatDoorRows
import Derived.KernelRfl
import Derived.JoinedOf
namespace Go.Proofs.YtmcjihhfgmfcpaaGreatDoor
open Go
theorem orders_j3 : (Tryz.f10.params.all (Tryz.prog.readableRec ·)) = true := by kernel_rfl
theorem orders_j4 : (namedTie Tryz.prog Rows.numberOrdersRow.named Rows.numberOrdersSpec.vars) = true := by kernel_rfl
theorem orders_j5 : ((Rows.numberOrdersRow.stops == [])) = true := by kernel_rfl
theorem orders_j6 : ((Tryz.prog.stops == [])) = true := by kernel_rfl
theorem orders_j7 : ((Rows.numberOrdersRow.knobs == [])) = true := by kernel_rfl
theorem orders_j8 : ((Tryz.prog.stopKnobs == [])) = true := by kernel_rfl
theorem orders_j13 : ((Rows.numberOrdersRow.maps == (Tryz.f10.params.toList ++ Rows.numberOrdersSpec.plain.varTypes Tryz.prog).any (Tryz.prog.mapsRec ·))) = true := by kernel_rfl
theorem orders_j14 : ((Rows.numberOrdersRow.ifaces == (Tryz.f10.params.toList ++ Rows.numberOrdersSpec.plain.varTypes Tryz.prog).any (Tryz.prog.ifacesRec ·))) = true := by kernel_rfl
theorem orders_j15 : ((Rows.numberOrdersRow.mapsOut == Tryz.prog.mapsAmong Tryz.f10.resultTypes.toList)) = true := by kernel_rfl
theorem orders_j16 : ((Rows.numberOrdersRow.loops == (Tryz.f10.params.toList ++ Rows.numberOrdersSpec.plain.varTypes Tryz.prog).any (Tryz.prog.loopsFrom ·))) = true := by kernel_rfl
theorem orders_j17 : ((Rows.numberOrdersRow.wideKeys == (Tryz.f10.params.toList ++ Rows.numberOrdersSpec.plain.varTypes Tryz.prog ++ Tryz.f10.resultTypes.toList).any (Tryz.prog.wideKeysFrom ·))) = true := by kernel_rfl
end Go.Proofs.YtmcjihhfgmfcpaaGreatDoor
