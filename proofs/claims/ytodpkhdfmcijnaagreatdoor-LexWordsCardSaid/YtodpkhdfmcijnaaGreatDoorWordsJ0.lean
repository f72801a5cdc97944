/-
  LexWords: closed facts, part 0. Conditions: none.
-/
import Derived.Test.YtodpkhdfmcijnaaGreatDoorRows
import Derived.KernelRfl
import Derived.JoinedOf
namespace Go.Proofs.YtodpkhdfmcijnaaGreatDoor
open Go
theorem words_j0 : (Rows.lexWordsRow.wf (OpenSpec.ofChange Rows.lexWordsSpec)) = true := by kernel_rfl
theorem words_j1 : (laidOutB Tryz.prog) = true := by kernel_rfl
theorem words_j2 : (mapsRowed Tryz.prog) = true := by kernel_rfl
end Go.Proofs.YtodpkhdfmcijnaaGreatDoor
