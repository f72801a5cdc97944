/-
  Piece 4 of a run, reckoned by the kernel. Conditions: none.
-/
import Derived.Test.YtggjbnonefpcnaaGreatDoorNilData
namespace Go.Proofs.YtggjbnonefpcnaaGreatDoor
open Go Go.Ab
theorem p4 : cut 54 ids4 (@irun noVals Tryz.prog 100000 ⟨4, 54, tmpsT ts3 0, none⟩ (.code (c4)) ⟨listT (ids3.zip objs3), nx3, 0, []⟩) = some (ex4, ts4, none, nx4, 0, [], objs4.map some) := by kernel_rfl
end Go.Proofs.YtggjbnonefpcnaaGreatDoor
