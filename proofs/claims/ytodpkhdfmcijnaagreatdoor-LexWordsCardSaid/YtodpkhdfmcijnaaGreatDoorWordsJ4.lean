/-
  LexWords: closed facts, part 4. Conditions: none.
-/
import Derived.Test.YtodpkhdfmcijnaaGreatDoorRows
import Derived.KernelRfl
import Derived.JoinedOf
namespace Go.Proofs.YtodpkhdfmcijnaaGreatDoor
open Go
theorem words_j12 : ((Rows.lexWordsRow.named == Tryz.prog.varsNamed 3)) = true := by kernel_rfl
end Go.Proofs.YtodpkhdfmcijnaaGreatDoor
