/-
  TypesEqual: closed facts, part 6. Conditions: none.
-/
import Derived.Test.YtmfbljaemhpokaaGreatDoorRows
import Derived.KernelRfl
import Derived.JoinedOf
namespace Go.Proofs.YtmfbljaemhpokaaGreatDoor
open Go
theorem teq_j18 : (Rows.typesEqualSpec.vars.all (Tryz.prog.varReadable ·)) = true := by kernel_rfl
theorem teq_j19 : (Tryz.f4.resultTypes.all (fun t => Tryz.prog.readableRec t && decide (t < Tryz.prog.types.size))) = true := by kernel_rfl
theorem teq_j20 : ((Rows.typesEqualRow.ifacesOut == Tryz.f4.resultTypes.toList.any (Tryz.prog.ifacesRec ·))) = true := by kernel_rfl
theorem teq_j21 : ((Rows.typesEqualRow.loopsOut == Tryz.f4.resultTypes.toList.any (Tryz.prog.loopsFrom ·))) = true := by kernel_rfl
theorem teq_j22 : ((Rows.typesEqualRow.plainKeys == Tryz.prog.plainKeys)) = true := by kernel_rfl
theorem teq_j23 : (Rows.typesEqualRow.shortTexts.isNone) = true := by kernel_rfl
theorem teq_j24 : (Tryz.prog.stopsHeard) = true := by kernel_rfl
theorem teq_j25 : (Tryz.prog.mayEnter) = true := by kernel_rfl
theorem teq_j26 : ((Rows.typesEqualRow.lifted == Tryz.prog.liftsFinal)) = true := by kernel_rfl
theorem teq_j27 : ((Tryz.prog.make == some Rows.typesEqualRow.make)) = true := by kernel_rfl
theorem teq_j29 : ((Rows.typesEqualRow.pinned == Rows.typesEqualRow.pinnedBy)) = true := by kernel_rfl
theorem teq_j30 : ((Rows.typesEqualRow.veiled == (Tryz.f4.params.toList ++ Rows.typesEqualSpec.plain.varTypes Tryz.prog ++ Tryz.f4.resultTypes.toList).any (Tryz.prog.veiledRec ·))) = true := by kernel_rfl
theorem teq_j31 : (Rows.typesEqualRow.veiledFits Tryz.prog Tryz.f4.params.toList (Tryz.f4.params.toList ++ Rows.typesEqualSpec.plain.varTypes Tryz.prog ++ Tryz.f4.resultTypes.toList)) = true := by kernel_rfl
end Go.Proofs.YtmfbljaemhpokaaGreatDoor
