/-
  TypesWidens: closed facts, part 5. Conditions: none.
-/
import Derived.Test.YtmfbljaemhpokaaGreatDoorRows
import Derived.KernelRfl
import Derived.JoinedOf
namespace Go.Proofs.YtmfbljaemhpokaaGreatDoor
open Go
theorem widens_j3 : (Tryz.f7.params.all (Tryz.prog.readableRec ·)) = true := by kernel_rfl
theorem widens_j4 : (namedTie Tryz.prog Rows.typesWidensRow.named Rows.typesWidensSpec.vars) = true := by kernel_rfl
theorem widens_j5 : ((Rows.typesWidensRow.stops == [])) = true := by kernel_rfl
theorem widens_j6 : ((Tryz.prog.stops == [])) = true := by kernel_rfl
theorem widens_j7 : ((Rows.typesWidensRow.knobs == [])) = true := by kernel_rfl
theorem widens_j8 : ((Tryz.prog.stopKnobs == [])) = true := by kernel_rfl
theorem widens_j13 : ((Rows.typesWidensRow.maps == (Tryz.f7.params.toList ++ Rows.typesWidensSpec.plain.varTypes Tryz.prog).any (Tryz.prog.mapsRec ·))) = true := by kernel_rfl
theorem widens_j14 : ((Rows.typesWidensRow.ifaces == (Tryz.f7.params.toList ++ Rows.typesWidensSpec.plain.varTypes Tryz.prog).any (Tryz.prog.ifacesRec ·))) = true := by kernel_rfl
theorem widens_j15 : ((Rows.typesWidensRow.mapsOut == Tryz.prog.mapsAmong Tryz.f7.resultTypes.toList)) = true := by kernel_rfl
theorem widens_j16 : ((Rows.typesWidensRow.loops == (Tryz.f7.params.toList ++ Rows.typesWidensSpec.plain.varTypes Tryz.prog).any (Tryz.prog.loopsFrom ·))) = true := by kernel_rfl
theorem widens_j17 : ((Rows.typesWidensRow.wideKeys == (Tryz.f7.params.toList ++ Rows.typesWidensSpec.plain.varTypes Tryz.prog ++ Tryz.f7.resultTypes.toList).any (Tryz.prog.wideKeysFrom ·))) = true := by kernel_rfl
end Go.Proofs.YtmfbljaemhpokaaGreatDoor
