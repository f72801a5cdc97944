/-
  TypesAcross: closed facts, part 6. Conditions: none.
-/
import Derived.Test.YtmfbljaemhpokaaGreatDoorRows
import Derived.KernelRfl
import Derived.JoinedOf
namespace Go.Proofs.YtmfbljaemhpokaaGreatDoor
open Go
theorem across_j18 : (Rows.typesAcrossSpec.vars.all (Tryz.prog.varReadable ·)) = true := by kernel_rfl
theorem across_j19 : (Tryz.f6.resultTypes.all (fun t => Tryz.prog.readableRec t && decide (t < Tryz.prog.types.size))) = true := by kernel_rfl
theorem across_j20 : ((Rows.typesAcrossRow.ifacesOut == Tryz.f6.resultTypes.toList.any (Tryz.prog.ifacesRec ·))) = true := by kernel_rfl
theorem across_j21 : ((Rows.typesAcrossRow.loopsOut == Tryz.f6.resultTypes.toList.any (Tryz.prog.loopsFrom ·))) = true := by kernel_rfl
theorem across_j22 : ((Rows.typesAcrossRow.plainKeys == Tryz.prog.plainKeys)) = true := by kernel_rfl
theorem across_j23 : (Rows.typesAcrossRow.shortTexts.isNone) = true := by kernel_rfl
theorem across_j24 : (Tryz.prog.stopsHeard) = true := by kernel_rfl
theorem across_j25 : (Tryz.prog.mayEnter) = true := by kernel_rfl
theorem across_j26 : ((Rows.typesAcrossRow.lifted == Tryz.prog.liftsFinal)) = true := by kernel_rfl
theorem across_j27 : ((Tryz.prog.make == some Rows.typesAcrossRow.make)) = true := by kernel_rfl
theorem across_j29 : ((Rows.typesAcrossRow.pinned == Rows.typesAcrossRow.pinnedBy)) = true := by kernel_rfl
theorem across_j30 : ((Rows.typesAcrossRow.veiled == (Tryz.f6.params.toList ++ Rows.typesAcrossSpec.plain.varTypes Tryz.prog ++ Tryz.f6.resultTypes.toList).any (Tryz.prog.veiledRec ·))) = true := by kernel_rfl
theorem across_j31 : (Rows.typesAcrossRow.veiledFits Tryz.prog Tryz.f6.params.toList (Tryz.f6.params.toList ++ Rows.typesAcrossSpec.plain.varTypes Tryz.prog ++ Tryz.f6.resultTypes.toList)) = true := by kernel_rfl
end Go.Proofs.YtmfbljaemhpokaaGreatDoor
