/-
  NumberConverts: closed facts, part 5. Conditions: none.
-/
import Derived.Test.YtmcjihhfgmfcpaaGreatDoorRows
import Derived.KernelRfl
import Derived.JoinedOf
namespace Go.Proofs.YtmcjihhfgmfcpaaGreatDoor
open Go
theorem converts_j3 : (Tryz.f11.params.all (Tryz.prog.readableRec ·)) = true := by kernel_rfl
theorem converts_j4 : (namedTie Tryz.prog Rows.numberConvertsRow.named Rows.numberConvertsSpec.vars) = true := by kernel_rfl
theorem converts_j5 : ((Rows.numberConvertsRow.stops == [])) = true := by kernel_rfl
theorem converts_j6 : ((Tryz.prog.stops == [])) = true := by kernel_rfl
theorem converts_j7 : ((Rows.numberConvertsRow.knobs == [])) = true := by kernel_rfl
theorem converts_j8 : ((Tryz.prog.stopKnobs == [])) = true := by kernel_rfl
theorem converts_j13 : ((Rows.numberConvertsRow.maps == (Tryz.f11.params.toList ++ Rows.numberConvertsSpec.plain.varTypes Tryz.prog).any (Tryz.prog.mapsRec ·))) = true := by kernel_rfl
theorem converts_j14 : ((Rows.numberConvertsRow.ifaces == (Tryz.f11.params.toList ++ Rows.numberConvertsSpec.plain.varTypes Tryz.prog).any (Tryz.prog.ifacesRec ·))) = true := by kernel_rfl
theorem converts_j15 : ((Rows.numberConvertsRow.mapsOut == Tryz.prog.mapsAmong Tryz.f11.resultTypes.toList)) = true := by kernel_rfl
theorem converts_j16 : ((Rows.numberConvertsRow.loops == (Tryz.f11.params.toList ++ Rows.numberConvertsSpec.plain.varTypes Tryz.prog).any (Tryz.prog.loopsFrom ·))) = true := by kernel_rfl
theorem converts_j17 : ((Rows.numberConvertsRow.wideKeys == (Tryz.f11.params.toList ++ Rows.numberConvertsSpec.plain.varTypes Tryz.prog ++ Tryz.f11.resultTypes.toList).any (Tryz.prog.wideKeysFrom ·))) = true := by kernel_rfl
end Go.Proofs.YtmcjihhfgmfcpaaGreatDoor
