/-
  TypesAcross: closed facts, part 5. Conditions: none.
-/
import Derived.Test.YtmfbljaemhpokaaGreatDoorRows
import Derived.KernelRfl
import Derived.JoinedOf
namespace Go.Proofs.YtmfbljaemhpokaaGreatDoor
open Go
theorem across_j3 : (Tryz.f6.params.all (Tryz.prog.readableRec ·)) = true := by kernel_rfl
theorem across_j4 : (namedTie Tryz.prog Rows.typesAcrossRow.named Rows.typesAcrossSpec.vars) = true := by kernel_rfl
theorem across_j5 : ((Rows.typesAcrossRow.stops == [])) = true := by kernel_rfl
theorem across_j6 : ((Tryz.prog.stops == [])) = true := by kernel_rfl
theorem across_j7 : ((Rows.typesAcrossRow.knobs == [])) = true := by kernel_rfl
theorem across_j8 : ((Tryz.prog.stopKnobs == [])) = true := by kernel_rfl
theorem across_j13 : ((Rows.typesAcrossRow.maps == (Tryz.f6.params.toList ++ Rows.typesAcrossSpec.plain.varTypes Tryz.prog).any (Tryz.prog.mapsRec ·))) = true := by kernel_rfl
theorem across_j14 : ((Rows.typesAcrossRow.ifaces == (Tryz.f6.params.toList ++ Rows.typesAcrossSpec.plain.varTypes Tryz.prog).any (Tryz.prog.ifacesRec ·))) = true := by kernel_rfl
theorem across_j15 : ((Rows.typesAcrossRow.mapsOut == Tryz.prog.mapsAmong Tryz.f6.resultTypes.toList)) = true := by kernel_rfl
theorem across_j16 : ((Rows.typesAcrossRow.loops == (Tryz.f6.params.toList ++ Rows.typesAcrossSpec.plain.varTypes Tryz.prog).any (Tryz.prog.loopsFrom ·))) = true := by kernel_rfl
theorem across_j17 : ((Rows.typesAcrossRow.wideKeys == (Tryz.f6.params.toList ++ Rows.typesAcrossSpec.plain.varTypes Tryz.prog ++ Tryz.f6.resultTypes.toList).any (Tryz.prog.wideKeysFrom ·))) = true := by kernel_rfl
end Go.Proofs.YtmfbljaemhpokaaGreatDoor
