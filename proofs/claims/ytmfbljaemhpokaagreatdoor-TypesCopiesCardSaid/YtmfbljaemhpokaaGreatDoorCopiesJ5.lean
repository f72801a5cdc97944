/-
  TypesCopies: closed facts, part 5. Conditions: none.
-/
import Derived.Test.YtmfbljaemhpokaaGreatDoorRows
import Derived.KernelRfl
import Derived.JoinedOf
namespace Go.Proofs.YtmfbljaemhpokaaGreatDoor
open Go
theorem copies_j3 : (Tryz.f10.params.all (Tryz.prog.readableRec ·)) = true := by kernel_rfl
theorem copies_j4 : (namedTie Tryz.prog Rows.typesCopiesRow.named Rows.typesCopiesSpec.vars) = true := by kernel_rfl
theorem copies_j5 : ((Rows.typesCopiesRow.stops == [])) = true := by kernel_rfl
theorem copies_j6 : ((Tryz.prog.stops == [])) = true := by kernel_rfl
theorem copies_j7 : ((Rows.typesCopiesRow.knobs == [])) = true := by kernel_rfl
theorem copies_j8 : ((Tryz.prog.stopKnobs == [])) = true := by kernel_rfl
theorem copies_j13 : ((Rows.typesCopiesRow.maps == (Tryz.f10.params.toList ++ Rows.typesCopiesSpec.plain.varTypes Tryz.prog).any (Tryz.prog.mapsRec ·))) = true := by kernel_rfl
theorem copies_j14 : ((Rows.typesCopiesRow.ifaces == (Tryz.f10.params.toList ++ Rows.typesCopiesSpec.plain.varTypes Tryz.prog).any (Tryz.prog.ifacesRec ·))) = true := by kernel_rfl
theorem copies_j15 : ((Rows.typesCopiesRow.mapsOut == Tryz.prog.mapsAmong Tryz.f10.resultTypes.toList)) = true := by kernel_rfl
theorem copies_j16 : ((Rows.typesCopiesRow.loops == (Tryz.f10.params.toList ++ Rows.typesCopiesSpec.plain.varTypes Tryz.prog).any (Tryz.prog.loopsFrom ·))) = true := by kernel_rfl
theorem copies_j17 : ((Rows.typesCopiesRow.wideKeys == (Tryz.f10.params.toList ++ Rows.typesCopiesSpec.plain.varTypes Tryz.prog ++ Tryz.f10.resultTypes.toList).any (Tryz.prog.wideKeysFrom ·))) = true := by kernel_rfl
end Go.Proofs.YtmfbljaemhpokaaGreatDoor
