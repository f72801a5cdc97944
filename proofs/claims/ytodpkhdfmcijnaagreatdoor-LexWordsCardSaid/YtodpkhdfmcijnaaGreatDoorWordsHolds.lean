/-
  LexWords: the row. Conditions: those that the given row bears, and no others.
-/
import Derived.Test.YtodpkhdfmcijnaaGreatDoorLawWords
import Derived.Test.YtodpkhdfmcijnaaGreatDoorWordsJ0
import Derived.Test.YtodpkhdfmcijnaaGreatDoorWordsJ1
import Derived.Test.YtodpkhdfmcijnaaGreatDoorWordsJ2
import Derived.Test.YtodpkhdfmcijnaaGreatDoorWordsJ3
import Derived.Test.YtodpkhdfmcijnaaGreatDoorWordsJ4
import Derived.Test.YtodpkhdfmcijnaaGreatDoorWordsJ5
import Derived.Test.YtodpkhdfmcijnaaGreatDoorWordsJ6
import Derived.ProofKit
import Derived.SevenTiedAt
import Derived.Stop.Joined
namespace Go.Proofs.YtodpkhdfmcijnaaGreatDoor
open Go
theorem words_jf : joinedFacts Tryz.prog 3 Tryz.f3 Rows.lexWordsSpec Rows.lexWordsRow = true := by
  unfold joinedFacts
  simp only [Bool.and_eq_true]
  exact ⟨⟨⟨⟨⟨⟨⟨⟨⟨⟨⟨⟨⟨⟨⟨⟨⟨⟨⟨⟨⟨⟨⟨⟨⟨⟨⟨⟨⟨⟨⟨words_j0, words_j1⟩, words_j2⟩, words_j3⟩, words_j4⟩, words_j5⟩, words_j6⟩, words_j7⟩, words_j8⟩, words_j9⟩, words_j10⟩, words_j11⟩, words_j12⟩, words_j13⟩, words_j14⟩, words_j15⟩, words_j16⟩, words_j17⟩, words_j18⟩, words_j19⟩, words_j20⟩, words_j21⟩, words_j22⟩, words_j23⟩, words_j24⟩, words_j25⟩, words_j26⟩, words_j27⟩, by kernel_rfl⟩, words_j29⟩, words_j30⟩, words_j31⟩

theorem words_holds : Rows.LexWordsSaid :=
  OpenClaim.holds_of_wide 3 Tryz.f3 rfl rfl rfl rfl rfl rfl rfl ⟨rfl, rfl, rfl, rfl, rfl⟩ rfl rfl rfl rfl rfl (by kernel_rfl) Tryz.func3 words_jf
    (of_decide_eq_true (by kernel_rfl)) (by unfold Func.isWrapper; first | (rw [if_pos (by decide +kernel)]; kernel_rfl) | (rw [if_neg (by decide +kernel)]; exact ⟨rfl, rfl⟩))
    (fun os started H enc _ => words_lifted os started H enc)

end Go.Proofs.YtodpkhdfmcijnaaGreatDoor
