/-
  awake() is known. Conditions: none.
-/
import Derived.Test.YtmfbljaemhpokaaGreatDoorEng6
import Derived.Test.YtmfbljaemhpokaaGreatDoorProg
import Derived.KernelRfl
namespace Go.Proofs.YtmfbljaemhpokaaGreatDoor
open Go Go.Ab
set_option linter.unusedVariables false
set_option linter.unusedSimpArgs false
set_option linter.unusedSectionVars false
instance V : Vals := { noVals with
 call := fun f args => match args with
  | [] => bif Nat.beq f 13 then some (.bool true) else none
  | _ => none }
theorem fewer : Nat.ble Tryz.prog.globals.size laidEnd = true := by kernel_rfl
end Go.Proofs.YtmfbljaemhpokaaGreatDoor
