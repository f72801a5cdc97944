/-
  NumberReckons: closed facts, part 5. Conditions: none.
-/
import Derived.Test.YtmcjihhfgmfcpaaGreatDoorRows
import Derived.KernelRfl
import Derived.JoinedOf
namespace Go.Proofs.YtmcjihhfgmfcpaaGreatDoor
open Go
theorem reckons_j3 : (Tryz.f8.params.all (Tryz.prog.readableRec ·)) = true := by kernel_rfl
theorem reckons_j4 : (namedTie Tryz.prog Rows.numberReckonsRow.named Rows.numberReckonsSpec.vars) = true := by kernel_rfl
theorem reckons_j5 : ((Rows.numberReckonsRow.stops == [])) = true := by kernel_rfl
theorem reckons_j6 : ((Tryz.prog.stops == [])) = true := by kernel_rfl
theorem reckons_j7 : ((Rows.numberReckonsRow.knobs == [])) = true := by kernel_rfl
theorem reckons_j8 : ((Tryz.prog.stopKnobs == [])) = true := by kernel_rfl
theorem reckons_j13 : ((Rows.numberReckonsRow.maps == (Tryz.f8.params.toList ++ Rows.numberReckonsSpec.plain.varTypes Tryz.prog).any (Tryz.prog.mapsRec ·))) = true := by kernel_rfl
theorem reckons_j14 : ((Rows.numberReckonsRow.ifaces == (Tryz.f8.params.toList ++ Rows.numberReckonsSpec.plain.varTypes Tryz.prog).any (Tryz.prog.ifacesRec ·))) = true := by kernel_rfl
theorem reckons_j15 : ((Rows.numberReckonsRow.mapsOut == Tryz.prog.mapsAmong Tryz.f8.resultTypes.toList)) = true := by kernel_rfl
theorem reckons_j16 : ((Rows.numberReckonsRow.loops == (Tryz.f8.params.toList ++ Rows.numberReckonsSpec.plain.varTypes Tryz.prog).any (Tryz.prog.loopsFrom ·))) = true := by kernel_rfl
theorem reckons_j17 : ((Rows.numberReckonsRow.wideKeys == (Tryz.f8.params.toList ++ Rows.numberReckonsSpec.plain.varTypes Tryz.prog ++ Tryz.f8.resultTypes.toList).any (Tryz.prog.wideKeysFrom ·))) = true := by kernel_rfl
end Go.Proofs.YtmcjihhfgmfcpaaGreatDoor
