/-
  TypesCopies: the row. Conditions: those that the given row bears, and no others.
-/
import Derived.Test.YtmfbljaemhpokaaGreatDoorLawCopies
import Derived.Test.YtmfbljaemhpokaaGreatDoorCopiesJ0
import Derived.Test.YtmfbljaemhpokaaGreatDoorCopiesJ1
import Derived.Test.YtmfbljaemhpokaaGreatDoorCopiesJ2
import Derived.Test.YtmfbljaemhpokaaGreatDoorCopiesJ3
import Derived.Test.YtmfbljaemhpokaaGreatDoorCopiesJ4
import Derived.Test.YtmfbljaemhpokaaGreatDoorCopiesJ5
import Derived.Test.YtmfbljaemhpokaaGreatDoorCopiesJ6
import Derived.ProofKit
import Derived.SevenTiedAt
import Derived.Stop.Joined
namespace Go.Proofs.YtmfbljaemhpokaaGreatDoor
open Go
theorem copies_jf : joinedFacts Tryz.prog 10 Tryz.f10 Rows.typesCopiesSpec Rows.typesCopiesRow = true := by
  unfold joinedFacts
  simp only [Bool.and_eq_true]
  exact ⟨⟨⟨⟨⟨⟨⟨⟨⟨⟨⟨⟨⟨⟨⟨⟨⟨⟨⟨⟨⟨⟨⟨⟨⟨⟨⟨⟨⟨⟨⟨copies_j0, copies_j1⟩, copies_j2⟩, copies_j3⟩, copies_j4⟩, copies_j5⟩, copies_j6⟩, copies_j7⟩, copies_j8⟩, copies_j9⟩, copies_j10⟩, copies_j11⟩, copies_j12⟩, copies_j13⟩, copies_j14⟩, copies_j15⟩, copies_j16⟩, copies_j17⟩, copies_j18⟩, copies_j19⟩, copies_j20⟩, copies_j21⟩, copies_j22⟩, copies_j23⟩, copies_j24⟩, copies_j25⟩, copies_j26⟩, copies_j27⟩, by kernel_rfl⟩, copies_j29⟩, copies_j30⟩, copies_j31⟩

theorem copies_holds : Rows.TypesCopiesSaid :=
  OpenClaim.holds_of_wide 10 Tryz.f10 rfl rfl rfl rfl rfl rfl rfl ⟨rfl, rfl, rfl, rfl, rfl⟩ rfl rfl rfl rfl rfl (by kernel_rfl) Tryz.func10 copies_jf
    (of_decide_eq_true (by kernel_rfl)) (by unfold Func.isWrapper; first | (rw [if_pos (by decide +kernel)]; kernel_rfl) | (rw [if_neg (by decide +kernel)]; exact ⟨rfl, rfl⟩))
    (fun os started H enc _ => copies_lifted os started H enc)

end Go.Proofs.YtmfbljaemhpokaaGreatDoor
