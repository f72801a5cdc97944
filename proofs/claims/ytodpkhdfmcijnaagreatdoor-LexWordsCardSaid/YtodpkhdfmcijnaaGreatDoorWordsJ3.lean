/-
  LexWords: closed facts, part 3. Conditions: none.
-/
import Derived.Test.YtodpkhdfmcijnaaGreatDoorRows
import Derived.KernelRfl
import Derived.JoinedOf
namespace Go.Proofs.YtodpkhdfmcijnaaGreatDoor
open Go
theorem words_j11 : ((Rows.lexWordsRow.recurses == Tryz.prog.recurses 3)) = true := by kernel_rfl
end Go.Proofs.YtodpkhdfmcijnaaGreatDoor
