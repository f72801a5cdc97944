/-
  NumberRing: closed facts, part 6. Conditions: none.
-/
import Derived.Test.YtmcjihhfgmfcpaaGreatDoorRows
import Derived.KernelRfl
import Derived.JoinedOf
namespace Go.Proofs.YtmcjihhfgmfcpaaGreatDoor
open Go
theorem ring_j18 : (Rows.numberRingSpec.vars.all (Tryz.prog.varReadable ·)) = true := by kernel_rfl
theorem ring_j19 : (Tryz.f6.resultTypes.all (fun t => Tryz.prog.readableRec t && decide (t < Tryz.prog.types.size))) = true := by kernel_rfl
theorem ring_j20 : ((Rows.numberRingRow.ifacesOut == Tryz.f6.resultTypes.toList.any (Tryz.prog.ifacesRec ·))) = true := by kernel_rfl
theorem ring_j21 : ((Rows.numberRingRow.loopsOut == Tryz.f6.resultTypes.toList.any (Tryz.prog.loopsFrom ·))) = true := by kernel_rfl
theorem ring_j22 : ((Rows.numberRingRow.plainKeys == Tryz.prog.plainKeys)) = true := by kernel_rfl
theorem ring_j23 : (Rows.numberRingRow.shortTexts.isNone) = true := by kernel_rfl
theorem ring_j24 : (Tryz.prog.stopsHeard) = true := by kernel_rfl
theorem ring_j25 : (Tryz.prog.mayEnter) = true := by kernel_rfl
theorem ring_j26 : ((Rows.numberRingRow.lifted == Tryz.prog.liftsFinal)) = true := by kernel_rfl
theorem ring_j27 : ((Tryz.prog.make == some Rows.numberRingRow.make)) = true := by kernel_rfl
theorem ring_j29 : ((Rows.numberRingRow.pinned == Rows.numberRingRow.pinnedBy)) = true := by kernel_rfl
theorem ring_j30 : ((Rows.numberRingRow.veiled == (Tryz.f6.params.toList ++ Rows.numberRingSpec.plain.varTypes Tryz.prog ++ Tryz.f6.resultTypes.toList).any (Tryz.prog.veiledRec ·))) = true := by kernel_rfl
theorem ring_j31 : (Rows.numberRingRow.veiledFits Tryz.prog Tryz.f6.params.toList (Tryz.f6.params.toList ++ Rows.numberRingSpec.plain.varTypes Tryz.prog ++ Tryz.f6.resultTypes.toList)) = true := by kernel_rfl
end Go.Proofs.YtmcjihhfgmfcpaaGreatDoor
