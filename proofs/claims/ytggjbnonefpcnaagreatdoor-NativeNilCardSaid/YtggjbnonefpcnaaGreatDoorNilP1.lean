/-
  Piece 1 of a run, reckoned by the kernel. Conditions: none.
-/
import Derived.Test.YtggjbnonefpcnaaGreatDoorNilData
namespace Go.Proofs.YtggjbnonefpcnaaGreatDoor
open Go Go.Ab
theorem p1 : cut 54 ids1 (@irun noVals Tryz.prog 100000 ⟨4, 54, tmpsT ts0 0, none⟩ (.code (seqL c1)) ⟨listT (ids0.zip objs0), nx0, 0, []⟩) = some (ex1, ts1, none, nx1, 0, [], objs1.map some) := by kernel_rfl
end Go.Proofs.YtggjbnonefpcnaaGreatDoor
