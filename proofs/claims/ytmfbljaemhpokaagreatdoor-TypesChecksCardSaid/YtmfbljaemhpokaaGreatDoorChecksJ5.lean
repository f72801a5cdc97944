/-
  TypesChecks: closed facts, part 5. Conditions: none.
-/
import Derived.Test.YtmfbljaemhpokaaGreatDoorRows
import Derived.KernelRfl
import Derived.JoinedOf
namespace Go.Proofs.YtmfbljaemhpokaaGreatDoor
open Go
theorem checks_j3 : (Tryz.f3.params.all (Tryz.prog.readableRec ·)) = true := by kernel_rfl
theorem checks_j4 : (namedTie Tryz.prog Rows.typesChecksRow.named Rows.typesChecksSpec.vars) = true := by kernel_rfl
theorem checks_j5 : ((Rows.typesChecksRow.stops == [])) = true := by kernel_rfl
theorem checks_j6 : ((Tryz.prog.stops == [])) = true := by kernel_rfl
theorem checks_j7 : ((Rows.typesChecksRow.knobs == [])) = true := by kernel_rfl
theorem checks_j8 : ((Tryz.prog.stopKnobs == [])) = true := by kernel_rfl
theorem checks_j13 : ((Rows.typesChecksRow.maps == (Tryz.f3.params.toList ++ Rows.typesChecksSpec.plain.varTypes Tryz.prog).any (Tryz.prog.mapsRec ·))) = true := by kernel_rfl
theorem checks_j14 : ((Rows.typesChecksRow.ifaces == (Tryz.f3.params.toList ++ Rows.typesChecksSpec.plain.varTypes Tryz.prog).any (Tryz.prog.ifacesRec ·))) = true := by kernel_rfl
theorem checks_j15 : ((Rows.typesChecksRow.mapsOut == Tryz.prog.mapsAmong Tryz.f3.resultTypes.toList)) = true := by kernel_rfl
theorem checks_j16 : ((Rows.typesChecksRow.loops == (Tryz.f3.params.toList ++ Rows.typesChecksSpec.plain.varTypes Tryz.prog).any (Tryz.prog.loopsFrom ·))) = true := by kernel_rfl
theorem checks_j17 : ((Rows.typesChecksRow.wideKeys == (Tryz.f3.params.toList ++ Rows.typesChecksSpec.plain.varTypes Tryz.prog ++ Tryz.f3.resultTypes.toList).any (Tryz.prog.wideKeysFrom ·))) = true := by kernel_rfl
end Go.Proofs.YtmfbljaemhpokaaGreatDoor
