/-
  TypesEqual: closed facts, part 5. Conditions: none.
-/
import Derived.Test.YtmfbljaemhpokaaGreatDoorRows
import Derived.KernelRfl
import Derived.JoinedOf
namespace Go.Proofs.YtmfbljaemhpokaaGreatDoor
open Go
theorem teq_j3 : (Tryz.f4.params.all (Tryz.prog.readableRec ·)) = true := by kernel_rfl
theorem teq_j4 : (namedTie Tryz.prog Rows.typesEqualRow.named Rows.typesEqualSpec.vars) = true := by kernel_rfl
theorem teq_j5 : ((Rows.typesEqualRow.stops == [])) = true := by kernel_rfl
theorem teq_j6 : ((Tryz.prog.stops == [])) = true := by kernel_rfl
theorem teq_j7 : ((Rows.typesEqualRow.knobs == [])) = true := by kernel_rfl
theorem teq_j8 : ((Tryz.prog.stopKnobs == [])) = true := by kernel_rfl
theorem teq_j13 : ((Rows.typesEqualRow.maps == (Tryz.f4.params.toList ++ Rows.typesEqualSpec.plain.varTypes Tryz.prog).any (Tryz.prog.mapsRec ·))) = true := by kernel_rfl
theorem teq_j14 : ((Rows.typesEqualRow.ifaces == (Tryz.f4.params.toList ++ Rows.typesEqualSpec.plain.varTypes Tryz.prog).any (Tryz.prog.ifacesRec ·))) = true := by kernel_rfl
theorem teq_j15 : ((Rows.typesEqualRow.mapsOut == Tryz.prog.mapsAmong Tryz.f4.resultTypes.toList)) = true := by kernel_rfl
theorem teq_j16 : ((Rows.typesEqualRow.loops == (Tryz.f4.params.toList ++ Rows.typesEqualSpec.plain.varTypes Tryz.prog).any (Tryz.prog.loopsFrom ·))) = true := by kernel_rfl
theorem teq_j17 : ((Rows.typesEqualRow.wideKeys == (Tryz.f4.params.toList ++ Rows.typesEqualSpec.plain.varTypes Tryz.prog ++ Tryz.f4.resultTypes.toList).any (Tryz.prog.wideKeysFrom ·))) = true := by kernel_rfl
end Go.Proofs.YtmfbljaemhpokaaGreatDoor
