/-
  Piece 0 of a run, reckoned by the kernel. Conditions: none.
-/
import Derived.Test.YtggjbnonefpcnaaGreatDoorNilData
namespace Go.Proofs.YtggjbnonefpcnaaGreatDoor
open Go Go.Ab
theorem p0 : cut 54 ids0 (@irun noVals Tryz.prog 100000 ⟨4, 54, argsT [] 0 .lf, none⟩ (.code (seqL c0)) ⟨laidT [(2, 447, usesV)], 100, 0, []⟩) = some (ex0, ts0, none, nx0, 0, [], objs0.map some) := by kernel_rfl
end Go.Proofs.YtggjbnonefpcnaaGreatDoor
