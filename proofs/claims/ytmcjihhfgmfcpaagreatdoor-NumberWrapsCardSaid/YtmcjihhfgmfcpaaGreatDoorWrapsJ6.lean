/-
  NumberWraps: closed facts, part 6. Conditions: none.
-/
import Derived.Test.YtmcjihhfgmfcpaaGreatDoorRows
import Derived.KernelRfl
import Derived.JoinedOf
namespace Go.Proofs.YtmcjihhfgmfcpaaGreatDoor
open Go
theorem wraps_j18 : (Rows.numberWrapsSpec.vars.all (Tryz.prog.varReadable ·)) = true := by kernel_rfl
theorem wraps_j19 : (Tryz.f7.resultTypes.all (fun t => Tryz.prog.readableRec t && decide (t < Tryz.prog.types.size))) = true := by kernel_rfl
theorem wraps_j20 : ((Rows.numberWrapsRow.ifacesOut == Tryz.f7.resultTypes.toList.any (Tryz.prog.ifacesRec ·))) = true := by kernel_rfl
theorem wraps_j21 : ((Rows.numberWrapsRow.loopsOut == Tryz.f7.resultTypes.toList.any (Tryz.prog.loopsFrom ·))) = true := by kernel_rfl
theorem wraps_j22 : ((Rows.numberWrapsRow.plainKeys == Tryz.prog.plainKeys)) = true := by kernel_rfl
theorem wraps_j23 : (Rows.numberWrapsRow.shortTexts.isNone) = true := by kernel_rfl
theorem wraps_j24 : (Tryz.prog.stopsHeard) = true := by kernel_rfl
theorem wraps_j25 : (Tryz.prog.mayEnter) = true := by kernel_rfl
theorem wraps_j26 : ((Rows.numberWrapsRow.lifted == Tryz.prog.liftsFinal)) = true := by kernel_rfl
theorem wraps_j27 : ((Tryz.prog.make == some Rows.numberWrapsRow.make)) = true := by kernel_rfl
theorem wraps_j29 : ((Rows.numberWrapsRow.pinned == Rows.numberWrapsRow.pinnedBy)) = true := by kernel_rfl
theorem wraps_j30 : ((Rows.numberWrapsRow.veiled == (Tryz.f7.params.toList ++ Rows.numberWrapsSpec.plain.varTypes Tryz.prog ++ Tryz.f7.resultTypes.toList).any (Tryz.prog.veiledRec ·))) = true := by kernel_rfl
theorem wraps_j31 : (Rows.numberWrapsRow.veiledFits Tryz.prog Tryz.f7.params.toList (Tryz.f7.params.toList ++ Rows.numberWrapsSpec.plain.varTypes Tryz.prog ++ Tryz.f7.resultTypes.toList)) = true := by kernel_rfl
end Go.Proofs.YtmcjihhfgmfcpaaGreatDoor
