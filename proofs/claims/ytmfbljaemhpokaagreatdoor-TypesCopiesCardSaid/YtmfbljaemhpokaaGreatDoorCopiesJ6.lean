/-
  TypesCopies: closed facts, part 6. Conditions: none.
-/
import Derived.Test.YtmfbljaemhpokaaGreatDoorRows
import Derived.KernelRfl
import Derived.JoinedOf
namespace Go.Proofs.YtmfbljaemhpokaaGreatDoor
open Go
theorem copies_j18 : (Rows.typesCopiesSpec.vars.all (Tryz.prog.varReadable ·)) = true := by kernel_rfl
theorem copies_j19 : (Tryz.f10.resultTypes.all (fun t => Tryz.prog.readableRec t && decide (t < Tryz.prog.types.size))) = true := by kernel_rfl
theorem copies_j20 : ((Rows.typesCopiesRow.ifacesOut == Tryz.f10.resultTypes.toList.any (Tryz.prog.ifacesRec ·))) = true := by kernel_rfl
theorem copies_j21 : ((Rows.typesCopiesRow.loopsOut == Tryz.f10.resultTypes.toList.any (Tryz.prog.loopsFrom ·))) = true := by kernel_rfl
theorem copies_j22 : ((Rows.typesCopiesRow.plainKeys == Tryz.prog.plainKeys)) = true := by kernel_rfl
theorem copies_j23 : (Rows.typesCopiesRow.shortTexts.isNone) = true := by kernel_rfl
theorem copies_j24 : (Tryz.prog.stopsHeard) = true := by kernel_rfl
theorem copies_j25 : (Tryz.prog.mayEnter) = true := by kernel_rfl
theorem copies_j26 : ((Rows.typesCopiesRow.lifted == Tryz.prog.liftsFinal)) = true := by kernel_rfl
theorem copies_j27 : ((Tryz.prog.make == some Rows.typesCopiesRow.make)) = true := by kernel_rfl
theorem copies_j29 : ((Rows.typesCopiesRow.pinned == Rows.typesCopiesRow.pinnedBy)) = true := by kernel_rfl
theorem copies_j30 : ((Rows.typesCopiesRow.veiled == (Tryz.f10.params.toList ++ Rows.typesCopiesSpec.plain.varTypes Tryz.prog ++ Tryz.f10.resultTypes.toList).any (Tryz.prog.veiledRec ·))) = true := by kernel_rfl
theorem copies_j31 : (Rows.typesCopiesRow.veiledFits Tryz.prog Tryz.f10.params.toList (Tryz.f10.params.toList ++ Rows.typesCopiesSpec.plain.varTypes Tryz.prog ++ Tryz.f10.resultTypes.toList)) = true := by kernel_rfl
end Go.Proofs.YtmfbljaemhpokaaGreatDoor
