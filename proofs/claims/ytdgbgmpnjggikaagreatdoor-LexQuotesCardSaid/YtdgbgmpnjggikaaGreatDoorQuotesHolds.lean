/-
  LexQuotes: the row. Conditions: those that the given row bears, and no others.
-/
import Derived.Test.YtdgbgmpnjggikaaGreatDoorLawQuotes
import Derived.Test.YtdgbgmpnjggikaaGreatDoorQuotesJ0
import Derived.Test.YtdgbgmpnjggikaaGreatDoorQuotesJ1
import Derived.Test.YtdgbgmpnjggikaaGreatDoorQuotesJ2
import Derived.Test.YtdgbgmpnjggikaaGreatDoorQuotesJ3
import Derived.Test.YtdgbgmpnjggikaaGreatDoorQuotesJ4
import Derived.Test.YtdgbgmpnjggikaaGreatDoorQuotesJ5
import Derived.Test.YtdgbgmpnjggikaaGreatDoorQuotesJ6
import Derived.ProofKit
import Derived.SevenTiedAt
import Derived.Stop.Joined
namespace Go.Proofs.YtdgbgmpnjggikaaGreatDoor
open Go
theorem quotes_jf : joinedFacts Tryz.prog 3 Tryz.f3 Rows.lexQuotesSpec Rows.lexQuotesRow = true := by
  unfold joinedFacts
  simp only [Bool.and_eq_true]
  exact ⟨⟨⟨⟨⟨⟨⟨⟨⟨⟨⟨⟨⟨⟨⟨⟨⟨⟨⟨⟨⟨⟨⟨⟨⟨⟨⟨⟨⟨⟨⟨quotes_j0, quotes_j1⟩, quotes_j2⟩, quotes_j3⟩, quotes_j4⟩, quotes_j5⟩, quotes_j6⟩, quotes_j7⟩, quotes_j8⟩, quotes_j9⟩, quotes_j10⟩, quotes_j11⟩, quotes_j12⟩, quotes_j13⟩, quotes_j14⟩, quotes_j15⟩, quotes_j16⟩, quotes_j17⟩, quotes_j18⟩, quotes_j19⟩, quotes_j20⟩, quotes_j21⟩, quotes_j22⟩, quotes_j23⟩, quotes_j24⟩, quotes_j25⟩, quotes_j26⟩, quotes_j27⟩, by kernel_rfl⟩, quotes_j29⟩, quotes_j30⟩, quotes_j31⟩

theorem quotes_holds : Rows.LexQuotesSaid :=
  OpenClaim.holds_of_wide 3 Tryz.f3 rfl rfl rfl rfl rfl rfl rfl ⟨rfl, rfl, rfl, rfl, rfl⟩ rfl rfl rfl rfl rfl (by kernel_rfl) Tryz.func3 quotes_jf
    (of_decide_eq_true (by kernel_rfl)) (by unfold Func.isWrapper; first | (rw [if_pos (by decide +kernel)]; kernel_rfl) | (rw [if_neg (by decide +kernel)]; exact ⟨rfl, rfl⟩))
    (fun os started H enc _ => quotes_lifted os started H enc)

end Go.Proofs.YtdgbgmpnjggikaaGreatDoor
