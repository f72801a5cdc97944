/-
  TypesPlaces: closed facts, part 5. Conditions: none.
-/
import Derived.Test.YtmfbljaemhpokaaGreatDoorRows
import Derived.KernelRfl
import Derived.JoinedOf
namespace Go.Proofs.YtmfbljaemhpokaaGreatDoor
open Go
theorem places_j3 : (Tryz.f8.params.all (Tryz.prog.readableRec ·)) = true := by kernel_rfl
theorem places_j4 : (namedTie Tryz.prog Rows.typesPlacesRow.named Rows.typesPlacesSpec.vars) = true := by kernel_rfl
theorem places_j5 : ((Rows.typesPlacesRow.stops == [])) = true := by kernel_rfl
theorem places_j6 : ((Tryz.prog.stops == [])) = true := by kernel_rfl
theorem places_j7 : ((Rows.typesPlacesRow.knobs == [])) = true := by kernel_rfl
theorem places_j8 : ((Tryz.prog.stopKnobs == [])) = true := by kernel_rfl
theorem places_j13 : ((Rows.typesPlacesRow.maps == (Tryz.f8.params.toList ++ Rows.typesPlacesSpec.plain.varTypes Tryz.prog).any (Tryz.prog.mapsRec ·))) = true := by kernel_rfl
theorem places_j14 : ((Rows.typesPlacesRow.ifaces == (Tryz.f8.params.toList ++ Rows.typesPlacesSpec.plain.varTypes Tryz.prog).any (Tryz.prog.ifacesRec ·))) = true := by kernel_rfl
theorem places_j15 : ((Rows.typesPlacesRow.mapsOut == Tryz.prog.mapsAmong Tryz.f8.resultTypes.toList)) = true := by kernel_rfl
theorem places_j16 : ((Rows.typesPlacesRow.loops == (Tryz.f8.params.toList ++ Rows.typesPlacesSpec.plain.varTypes Tryz.prog).any (Tryz.prog.loopsFrom ·))) = true := by kernel_rfl
theorem places_j17 : ((Rows.typesPlacesRow.wideKeys == (Tryz.f8.params.toList ++ Rows.typesPlacesSpec.plain.varTypes Tryz.prog ++ Tryz.f8.resultTypes.toList).any (Tryz.prog.wideKeysFrom ·))) = true := by kernel_rfl
end Go.Proofs.YtmfbljaemhpokaaGreatDoor
