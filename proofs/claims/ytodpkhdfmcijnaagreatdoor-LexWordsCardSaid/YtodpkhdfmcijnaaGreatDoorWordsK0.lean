/-
  LexWords: closed facts of the card, part 0. Conditions: none.
-/
import Derived.Test.YtodpkhdfmcijnaaGreatDoorRows
import Derived.KernelRfl
import Derived.SevenTiedAt
namespace Go.Proofs.YtodpkhdfmcijnaaGreatDoor
open Go
theorem words_k0 : Rows.lexWordsRow.wfByText (OpenSpec.ofChange Rows.lexWordsSpec) = true := by kernel_rfl
end Go.Proofs.YtodpkhdfmcijnaaGreatDoor
