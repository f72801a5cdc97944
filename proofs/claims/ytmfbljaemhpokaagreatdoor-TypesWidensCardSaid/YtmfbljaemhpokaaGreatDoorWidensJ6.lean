/-
  TypesWidens: closed facts, part 6. Conditions: none.
-/
import Derived.Test.YtmfbljaemhpokaaGreatDoorRows
import Derived.KernelRfl
import Derived.JoinedOf
namespace Go.Proofs.YtmfbljaemhpokaaGreatDoor
open Go
theorem widens_j18 : (Rows.typesWidensSpec.vars.all (Tryz.prog.varReadable ·)) = true := by kernel_rfl
theorem widens_j19 : (Tryz.f7.resultTypes.all (fun t => Tryz.prog.readableRec t && decide (t < Tryz.prog.types.size))) = true := by kernel_rfl
theorem widens_j20 : ((Rows.typesWidensRow.ifacesOut == Tryz.f7.resultTypes.toList.any (Tryz.prog.ifacesRec ·))) = true := by kernel_rfl
theorem widens_j21 : ((Rows.typesWidensRow.loopsOut == Tryz.f7.resultTypes.toList.any (Tryz.prog.loopsFrom ·))) = true := by kernel_rfl
theorem widens_j22 : ((Rows.typesWidensRow.plainKeys == Tryz.prog.plainKeys)) = true := by kernel_rfl
theorem widens_j23 : (Rows.typesWidensRow.shortTexts.isNone) = true := by kernel_rfl
theorem widens_j24 : (Tryz.prog.stopsHeard) = true := by kernel_rfl
theorem widens_j25 : (Tryz.prog.mayEnter) = true := by kernel_rfl
theorem widens_j26 : ((Rows.typesWidensRow.lifted == Tryz.prog.liftsFinal)) = true := by kernel_rfl
theorem widens_j27 : ((Tryz.prog.make == some Rows.typesWidensRow.make)) = true := by kernel_rfl
theorem widens_j29 : ((Rows.typesWidensRow.pinned == Rows.typesWidensRow.pinnedBy)) = true := by kernel_rfl
theorem widens_j30 : ((Rows.typesWidensRow.veiled == (Tryz.f7.params.toList ++ Rows.typesWidensSpec.plain.varTypes Tryz.prog ++ Tryz.f7.resultTypes.toList).any (Tryz.prog.veiledRec ·))) = true := by kernel_rfl
theorem widens_j31 : (Rows.typesWidensRow.veiledFits Tryz.prog Tryz.f7.params.toList (Tryz.f7.params.toList ++ Rows.typesWidensSpec.plain.varTypes Tryz.prog ++ Tryz.f7.resultTypes.toList)) = true := by kernel_rfl
end Go.Proofs.YtmfbljaemhpokaaGreatDoor
