/-
  NumberRing: closed facts, part 5. Conditions: none.
-/
import Derived.Test.YtmcjihhfgmfcpaaGreatDoorRows
import Derived.KernelRfl
import Derived.JoinedOf
namespace Go.Proofs.YtmcjihhfgmfcpaaGreatDoor
open Go
theorem ring_j3 : (Tryz.f6.params.all (Tryz.prog.readableRec ·)) = true := by kernel_rfl
theorem ring_j4 : (namedTie Tryz.prog Rows.numberRingRow.named Rows.numberRingSpec.vars) = true := by kernel_rfl
theorem ring_j5 : ((Rows.numberRingRow.stops == [])) = true := by kernel_rfl
theorem ring_j6 : ((Tryz.prog.stops == [])) = true := by kernel_rfl
theorem ring_j7 : ((Rows.numberRingRow.knobs == [])) = true := by kernel_rfl
theorem ring_j8 : ((Tryz.prog.stopKnobs == [])) = true := by kernel_rfl
theorem ring_j13 : ((Rows.numberRingRow.maps == (Tryz.f6.params.toList ++ Rows.numberRingSpec.plain.varTypes Tryz.prog).any (Tryz.prog.mapsRec ·))) = true := by kernel_rfl
theorem ring_j14 : ((Rows.numberRingRow.ifaces == (Tryz.f6.params.toList ++ Rows.numberRingSpec.plain.varTypes Tryz.prog).any (Tryz.prog.ifacesRec ·))) = true := by kernel_rfl
theorem ring_j15 : ((Rows.numberRingRow.mapsOut == Tryz.prog.mapsAmong Tryz.f6.resultTypes.toList)) = true := by kernel_rfl
theorem ring_j16 : ((Rows.numberRingRow.loops == (Tryz.f6.params.toList ++ Rows.numberRingSpec.plain.varTypes Tryz.prog).any (Tryz.prog.loopsFrom ·))) = true := by kernel_rfl
theorem ring_j17 : ((Rows.numberRingRow.wideKeys == (Tryz.f6.params.toList ++ Rows.numberRingSpec.plain.varTypes Tryz.prog ++ Tryz.f6.resultTypes.toList).any (Tryz.prog.wideKeysFrom ·))) = true := by kernel_rfl
end Go.Proofs.YtmcjihhfgmfcpaaGreatDoor
