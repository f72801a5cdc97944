/-
  TypesNil, reckoned by the kernel: it answers true. Conditions: none.
-/
import Derived.Test.YtmfbljaemhpokaaGreatDoorEng3
import Derived.Test.YtmfbljaemhpokaaGreatDoorProg
import Derived.KernelRfl
namespace Go.Proofs.YtmfbljaemhpokaaGreatDoor
open Go Go.Ab
theorem names : plainNamesB Tryz.prog = true := by kernel_rfl
theorem mixed : Tryz.prog.follows .mixedOrders = true := by kernel_rfl
theorem few : Nat.ble Tryz.prog.globals.size 100 = true := by kernel_rfl
theorem more : Nat.blt Tryz.prog.globals.size (begin Tryz.prog (fun _ _ => 0) default).world.heap.size = true := by kernel_rfl
theorem nil_run (t : Int) (s : ByteArray) : saysB true (irun Tryz.prog 100000 noFr (.fn 11 [.int .i64 t, .string s]) ⟨.lf, 100, 0, []⟩) = true := by kernel_rfl
end Go.Proofs.YtmfbljaemhpokaaGreatDoor
