/-
  Piece 3 of a run, reckoned by the kernel. Conditions: none.
-/
import Derived.Test.YtggjbnonefpcnaaGreatDoorNilData
namespace Go.Proofs.YtggjbnonefpcnaaGreatDoor
open Go Go.Ab
theorem p3 : cut 54 ids3 (@irun noVals Tryz.prog 100000 ⟨4, 54, tmpsT ts2 0, none⟩ (.code (seqL c3)) ⟨listT (ids2.zip objs2), nx2, 0, []⟩) = some (ex3, ts3, none, nx3, 0, [], objs3.map some) := by kernel_rfl
end Go.Proofs.YtggjbnonefpcnaaGreatDoor
