/-
  Piece 2 of a run, reckoned by the kernel. Conditions: none.
-/
import Derived.Test.YtggjbnonefpcnaaGreatDoorNilData
namespace Go.Proofs.YtggjbnonefpcnaaGreatDoor
open Go Go.Ab
theorem p2 : cut 54 ids2 (@irun noVals Tryz.prog 100000 ⟨4, 54, tmpsT ts1 0, none⟩ (.code (seqL c2)) ⟨listT (ids1.zip objs1), nx1, 0, []⟩) = some (ex2, ts2, none, nx2, 0, [], objs2.map some) := by kernel_rfl
end Go.Proofs.YtggjbnonefpcnaaGreatDoor
