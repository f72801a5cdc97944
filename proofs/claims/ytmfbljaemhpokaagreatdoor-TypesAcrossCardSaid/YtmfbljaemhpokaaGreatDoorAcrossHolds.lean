/-
  TypesAcross: the row. Conditions: those that the given row bears, and no others.
-/
import Derived.Test.YtmfbljaemhpokaaGreatDoorLawAcross
import Derived.Test.YtmfbljaemhpokaaGreatDoorAcrossJ0
import Derived.Test.YtmfbljaemhpokaaGreatDoorAcrossJ1
import Derived.Test.YtmfbljaemhpokaaGreatDoorAcrossJ2
import Derived.Test.YtmfbljaemhpokaaGreatDoorAcrossJ3
import Derived.Test.YtmfbljaemhpokaaGreatDoorAcrossJ4
import Derived.Test.YtmfbljaemhpokaaGreatDoorAcrossJ5
import Derived.Test.YtmfbljaemhpokaaGreatDoorAcrossJ6
import Derived.ProofKit
import Derived.SevenTiedAt
import Derived.Stop.Joined
namespace Go.Proofs.YtmfbljaemhpokaaGreatDoor
open Go
theorem across_jf : joinedFacts Tryz.prog 6 Tryz.f6 Rows.typesAcrossSpec Rows.typesAcrossRow = true := by
  unfold joinedFacts
  simp only [Bool.and_eq_true]
  exact ⟨⟨⟨⟨⟨⟨⟨⟨⟨⟨⟨⟨⟨⟨⟨⟨⟨⟨⟨⟨⟨⟨⟨⟨⟨⟨⟨⟨⟨⟨⟨across_j0, across_j1⟩, across_j2⟩, across_j3⟩, across_j4⟩, across_j5⟩, across_j6⟩, across_j7⟩, across_j8⟩, across_j9⟩, across_j10⟩, across_j11⟩, across_j12⟩, across_j13⟩, across_j14⟩, across_j15⟩, across_j16⟩, across_j17⟩, across_j18⟩, across_j19⟩, across_j20⟩, across_j21⟩, across_j22⟩, across_j23⟩, across_j24⟩, across_j25⟩, across_j26⟩, across_j27⟩, by kernel_rfl⟩, across_j29⟩, across_j30⟩, across_j31⟩

theorem across_holds : Rows.TypesAcrossSaid :=
  OpenClaim.holds_of_wide 6 Tryz.f6 rfl rfl rfl rfl rfl rfl rfl ⟨rfl, rfl, rfl, rfl, rfl⟩ rfl rfl rfl rfl rfl (by kernel_rfl) Tryz.func6 across_jf
    (of_decide_eq_true (by kernel_rfl)) (by unfold Func.isWrapper; first | (rw [if_pos (by decide +kernel)]; kernel_rfl) | (rw [if_neg (by decide +kernel)]; exact ⟨rfl, rfl⟩))
    (fun os started H enc _ => across_lifted os started H enc)

end Go.Proofs.YtmfbljaemhpokaaGreatDoor
