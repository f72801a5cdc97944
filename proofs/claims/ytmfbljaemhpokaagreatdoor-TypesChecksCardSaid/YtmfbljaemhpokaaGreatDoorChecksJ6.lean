/-
  TypesChecks: closed facts, part 6. Conditions: none.
-/
import Derived.Test.YtmfbljaemhpokaaGreatDoorRows
import Derived.KernelRfl
import Derived.JoinedOf
namespace Go.Proofs.YtmfbljaemhpokaaGreatDoor
open Go
theorem checks_j18 : (Rows.typesChecksSpec.vars.all (Tryz.prog.varReadable ·)) = true := by kernel_rfl
theorem checks_j19 : (Tryz.f3.resultTypes.all (fun t => Tryz.prog.readableRec t && decide (t < Tryz.prog.types.size))) = true := by kernel_rfl
theorem checks_j20 : ((Rows.typesChecksRow.ifacesOut == Tryz.f3.resultTypes.toList.any (Tryz.prog.ifacesRec ·))) = true := by kernel_rfl
theorem checks_j21 : ((Rows.typesChecksRow.loopsOut == Tryz.f3.resultTypes.toList.any (Tryz.prog.loopsFrom ·))) = true := by kernel_rfl
theorem checks_j22 : ((Rows.typesChecksRow.plainKeys == Tryz.prog.plainKeys)) = true := by kernel_rfl
theorem checks_j23 : (Rows.typesChecksRow.shortTexts.isNone) = true := by kernel_rfl
theorem checks_j24 : (Tryz.prog.stopsHeard) = true := by kernel_rfl
theorem checks_j25 : (Tryz.prog.mayEnter) = true := by kernel_rfl
theorem checks_j26 : ((Rows.typesChecksRow.lifted == Tryz.prog.liftsFinal)) = true := by kernel_rfl
theorem checks_j27 : ((Tryz.prog.make == some Rows.typesChecksRow.make)) = true := by kernel_rfl
theorem checks_j29 : ((Rows.typesChecksRow.pinned == Rows.typesChecksRow.pinnedBy)) = true := by kernel_rfl
theorem checks_j30 : ((Rows.typesChecksRow.veiled == (Tryz.f3.params.toList ++ Rows.typesChecksSpec.plain.varTypes Tryz.prog ++ Tryz.f3.resultTypes.toList).any (Tryz.prog.veiledRec ·))) = true := by kernel_rfl
theorem checks_j31 : (Rows.typesChecksRow.veiledFits Tryz.prog Tryz.f3.params.toList (Tryz.f3.params.toList ++ Rows.typesChecksSpec.plain.varTypes Tryz.prog ++ Tryz.f3.resultTypes.toList)) = true := by kernel_rfl
end Go.Proofs.YtmfbljaemhpokaaGreatDoor
