/-
  TypesCanonical: closed facts, part 6. Conditions: none.
-/
import Derived.Test.YtmfbljaemhpokaaGreatDoorRows
import Derived.KernelRfl
import Derived.JoinedOf
namespace Go.Proofs.YtmfbljaemhpokaaGreatDoor
open Go
theorem canonical_j18 : (Rows.typesCanonicalSpec.vars.all (Tryz.prog.varReadable ·)) = true := by kernel_rfl
theorem canonical_j19 : (Tryz.f5.resultTypes.all (fun t => Tryz.prog.readableRec t && decide (t < Tryz.prog.types.size))) = true := by kernel_rfl
theorem canonical_j20 : ((Rows.typesCanonicalRow.ifacesOut == Tryz.f5.resultTypes.toList.any (Tryz.prog.ifacesRec ·))) = true := by kernel_rfl
theorem canonical_j21 : ((Rows.typesCanonicalRow.loopsOut == Tryz.f5.resultTypes.toList.any (Tryz.prog.loopsFrom ·))) = true := by kernel_rfl
theorem canonical_j22 : ((Rows.typesCanonicalRow.plainKeys == Tryz.prog.plainKeys)) = true := by kernel_rfl
theorem canonical_j23 : (Rows.typesCanonicalRow.shortTexts.isNone) = true := by kernel_rfl
theorem canonical_j24 : (Tryz.prog.stopsHeard) = true := by kernel_rfl
theorem canonical_j25 : (Tryz.prog.mayEnter) = true := by kernel_rfl
theorem canonical_j26 : ((Rows.typesCanonicalRow.lifted == Tryz.prog.liftsFinal)) = true := by kernel_rfl
theorem canonical_j27 : ((Tryz.prog.make == some Rows.typesCanonicalRow.make)) = true := by kernel_rfl
theorem canonical_j29 : ((Rows.typesCanonicalRow.pinned == Rows.typesCanonicalRow.pinnedBy)) = true := by kernel_rfl
theorem canonical_j30 : ((Rows.typesCanonicalRow.veiled == (Tryz.f5.params.toList ++ Rows.typesCanonicalSpec.plain.varTypes Tryz.prog ++ Tryz.f5.resultTypes.toList).any (Tryz.prog.veiledRec ·))) = true := by kernel_rfl
theorem canonical_j31 : (Rows.typesCanonicalRow.veiledFits Tryz.prog Tryz.f5.params.toList (Tryz.f5.params.toList ++ Rows.typesCanonicalSpec.plain.varTypes Tryz.prog ++ Tryz.f5.resultTypes.toList)) = true := by kernel_rfl
end Go.Proofs.YtmfbljaemhpokaaGreatDoor
