/-
  NumberWraps: closed facts, part 5. Conditions: none.
-/
import Derived.Test.YtmcjihhfgmfcpaaGreatDoorRows
import Derived.KernelRfl
import Derived.JoinedOf
namespace Go.Proofs.YtmcjihhfgmfcpaaGreatDoor
open Go
theorem wraps_j3 : (Tryz.f7.params.all (Tryz.prog.readableRec ·)) = true := by kernel_rfl
theorem wraps_j4 : (namedTie Tryz.prog Rows.numberWrapsRow.named Rows.numberWrapsSpec.vars) = true := by kernel_rfl
theorem wraps_j5 : ((Rows.numberWrapsRow.stops == [])) = true := by kernel_rfl
theorem wraps_j6 : ((Tryz.prog.stops == [])) = true := by kernel_rfl
theorem wraps_j7 : ((Rows.numberWrapsRow.knobs == [])) = true := by kernel_rfl
theorem wraps_j8 : ((Tryz.prog.stopKnobs == [])) = true := by kernel_rfl
theorem wraps_j13 : ((Rows.numberWrapsRow.maps == (Tryz.f7.params.toList ++ Rows.numberWrapsSpec.plain.varTypes Tryz.prog).any (Tryz.prog.mapsRec ·))) = true := by kernel_rfl
theorem wraps_j14 : ((Rows.numberWrapsRow.ifaces == (Tryz.f7.params.toList ++ Rows.numberWrapsSpec.plain.varTypes Tryz.prog).any (Tryz.prog.ifacesRec ·))) = true := by kernel_rfl
theorem wraps_j15 : ((Rows.numberWrapsRow.mapsOut == Tryz.prog.mapsAmong Tryz.f7.resultTypes.toList)) = true := by kernel_rfl
theorem wraps_j16 : ((Rows.numberWrapsRow.loops == (Tryz.f7.params.toList ++ Rows.numberWrapsSpec.plain.varTypes Tryz.prog).any (Tryz.prog.loopsFrom ·))) = true := by kernel_rfl
theorem wraps_j17 : ((Rows.numberWrapsRow.wideKeys == (Tryz.f7.params.toList ++ Rows.numberWrapsSpec.plain.varTypes Tryz.prog ++ Tryz.f7.resultTypes.toList).any (Tryz.prog.wideKeysFrom ·))) = true := by kernel_rfl
end Go.Proofs.YtmcjihhfgmfcpaaGreatDoor
