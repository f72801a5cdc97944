/-
  LexNumbers: the row. Conditions: those that the given row bears, and no others.
-/
import Derived.Test.YtpokggpohmojlaaGreatDoorLawNums
import Derived.Test.YtpokggpohmojlaaGreatDoorNumbersJ0
import Derived.Test.YtpokggpohmojlaaGreatDoorNumbersJ1
import Derived.Test.YtpokggpohmojlaaGreatDoorNumbersJ2
import Derived.Test.YtpokggpohmojlaaGreatDoorNumbersJ3
import Derived.Test.YtpokggpohmojlaaGreatDoorNumbersJ4
import Derived.Test.YtpokggpohmojlaaGreatDoorNumbersJ5
import Derived.Test.YtpokggpohmojlaaGreatDoorNumbersJ6
import Derived.ProofKit
import Derived.SevenTiedAt
import Derived.Stop.Joined
namespace Go.Proofs.YtpokggpohmojlaaGreatDoor
open Go
theorem numbers_jf : joinedFacts Tryz.prog 3 Tryz.f3 Rows.lexNumbersSpec Rows.lexNumbersRow = true := by
  unfold joinedFacts
  simp only [Bool.and_eq_true]
  exact ⟨⟨⟨⟨⟨⟨⟨⟨⟨⟨⟨⟨⟨⟨⟨⟨⟨⟨⟨⟨⟨⟨⟨⟨⟨⟨⟨⟨⟨⟨⟨numbers_j0, numbers_j1⟩, numbers_j2⟩, numbers_j3⟩, numbers_j4⟩, numbers_j5⟩, numbers_j6⟩, numbers_j7⟩, numbers_j8⟩, numbers_j9⟩, numbers_j10⟩, numbers_j11⟩, numbers_j12⟩, numbers_j13⟩, numbers_j14⟩, numbers_j15⟩, numbers_j16⟩, numbers_j17⟩, numbers_j18⟩, numbers_j19⟩, numbers_j20⟩, numbers_j21⟩, numbers_j22⟩, numbers_j23⟩, numbers_j24⟩, numbers_j25⟩, numbers_j26⟩, numbers_j27⟩, by kernel_rfl⟩, numbers_j29⟩, numbers_j30⟩, numbers_j31⟩

theorem numbers_holds : Rows.LexNumbersSaid :=
  OpenClaim.holds_of_wide 3 Tryz.f3 rfl rfl rfl rfl rfl rfl rfl ⟨rfl, rfl, rfl, rfl, rfl⟩ rfl rfl rfl rfl rfl (by kernel_rfl) Tryz.func3 numbers_jf
    (of_decide_eq_true (by kernel_rfl)) (by unfold Func.isWrapper; first | (rw [if_pos (by decide +kernel)]; kernel_rfl) | (rw [if_neg (by decide +kernel)]; exact ⟨rfl, rfl⟩))
    (fun os started H enc _ => numbers_lifted os started H enc)

end Go.Proofs.YtpokggpohmojlaaGreatDoor
