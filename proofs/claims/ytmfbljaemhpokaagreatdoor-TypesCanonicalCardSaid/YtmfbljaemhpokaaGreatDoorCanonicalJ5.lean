/-
  TypesCanonical: closed facts, part 5. Conditions: none.
-/
import Derived.Test.YtmfbljaemhpokaaGreatDoorRows
import Derived.KernelRfl
import Derived.JoinedOf
namespace Go.Proofs.YtmfbljaemhpokaaGreatDoor
open Go
theorem canonical_j3 : (Tryz.f5.params.all (Tryz.prog.readableRec ·)) = true := by kernel_rfl
theorem canonical_j4 : (namedTie Tryz.prog Rows.typesCanonicalRow.named Rows.typesCanonicalSpec.vars) = true := by kernel_rfl
theorem canonical_j5 : ((Rows.typesCanonicalRow.stops == [])) = true := by kernel_rfl
theorem canonical_j6 : ((Tryz.prog.stops == [])) = true := by kernel_rfl
theorem canonical_j7 : ((Rows.typesCanonicalRow.knobs == [])) = true := by kernel_rfl
theorem canonical_j8 : ((Tryz.prog.stopKnobs == [])) = true := by kernel_rfl
theorem canonical_j13 : ((Rows.typesCanonicalRow.maps == (Tryz.f5.params.toList ++ Rows.typesCanonicalSpec.plain.varTypes Tryz.prog).any (Tryz.prog.mapsRec ·))) = true := by kernel_rfl
theorem canonical_j14 : ((Rows.typesCanonicalRow.ifaces == (Tryz.f5.params.toList ++ Rows.typesCanonicalSpec.plain.varTypes Tryz.prog).any (Tryz.prog.ifacesRec ·))) = true := by kernel_rfl
theorem canonical_j15 : ((Rows.typesCanonicalRow.mapsOut == Tryz.prog.mapsAmong Tryz.f5.resultTypes.toList)) = true := by kernel_rfl
theorem canonical_j16 : ((Rows.typesCanonicalRow.loops == (Tryz.f5.params.toList ++ Rows.typesCanonicalSpec.plain.varTypes Tryz.prog).any (Tryz.prog.loopsFrom ·))) = true := by kernel_rfl
theorem canonical_j17 : ((Rows.typesCanonicalRow.wideKeys == (Tryz.f5.params.toList ++ Rows.typesCanonicalSpec.plain.varTypes Tryz.prog ++ Tryz.f5.resultTypes.toList).any (Tryz.prog.wideKeysFrom ·))) = true := by kernel_rfl
end Go.Proofs.YtmfbljaemhpokaaGreatDoor
