/-
  TypesPlaces: closed facts, part 6. Conditions: none.
-/
import Derived.Test.YtmfbljaemhpokaaGreatDoorRows
import Derived.KernelRfl
import Derived.JoinedOf
namespace Go.Proofs.YtmfbljaemhpokaaGreatDoor
open Go
theorem places_j18 : (Rows.typesPlacesSpec.vars.all (Tryz.prog.varReadable ·)) = true := by kernel_rfl
theorem places_j19 : (Tryz.f8.resultTypes.all (fun t => Tryz.prog.readableRec t && decide (t < Tryz.prog.types.size))) = true := by kernel_rfl
theorem places_j20 : ((Rows.typesPlacesRow.ifacesOut == Tryz.f8.resultTypes.toList.any (Tryz.prog.ifacesRec ·))) = true := by kernel_rfl
theorem places_j21 : ((Rows.typesPlacesRow.loopsOut == Tryz.f8.resultTypes.toList.any (Tryz.prog.loopsFrom ·))) = true := by kernel_rfl
theorem places_j22 : ((Rows.typesPlacesRow.plainKeys == Tryz.prog.plainKeys)) = true := by kernel_rfl
theorem places_j23 : (Rows.typesPlacesRow.shortTexts.isNone) = true := by kernel_rfl
theorem places_j24 : (Tryz.prog.stopsHeard) = true := by kernel_rfl
theorem places_j25 : (Tryz.prog.mayEnter) = true := by kernel_rfl
theorem places_j26 : ((Rows.typesPlacesRow.lifted == Tryz.prog.liftsFinal)) = true := by kernel_rfl
theorem places_j27 : ((Tryz.prog.make == some Rows.typesPlacesRow.make)) = true := by kernel_rfl
theorem places_j29 : ((Rows.typesPlacesRow.pinned == Rows.typesPlacesRow.pinnedBy)) = true := by kernel_rfl
theorem places_j30 : ((Rows.typesPlacesRow.veiled == (Tryz.f8.params.toList ++ Rows.typesPlacesSpec.plain.varTypes Tryz.prog ++ Tryz.f8.resultTypes.toList).any (Tryz.prog.veiledRec ·))) = true := by kernel_rfl
theorem places_j31 : (Rows.typesPlacesRow.veiledFits Tryz.prog Tryz.f8.params.toList (Tryz.f8.params.toList ++ Rows.typesPlacesSpec.plain.varTypes Tryz.prog ++ Tryz.f8.resultTypes.toList)) = true := by kernel_rfl
end Go.Proofs.YtmfbljaemhpokaaGreatDoor
