/-
  LexNumbers: closed facts, part 0. Conditions: none.
-/
import Derived.Test.YtpokggpohmojlaaGreatDoorRows
import Derived.KernelRfl
import Derived.JoinedOf
namespace Go.Proofs.YtpokggpohmojlaaGreatDoor
open Go
theorem numbers_j0 : (Rows.lexNumbersRow.wf (OpenSpec.ofChange Rows.lexNumbersSpec)) = true := by kernel_rfl
theorem numbers_j1 : (laidOutB Tryz.prog) = true := by kernel_rfl
theorem numbers_j2 : (mapsRowed Tryz.prog) = true := by kernel_rfl
end Go.Proofs.YtpokggpohmojlaaGreatDoor
