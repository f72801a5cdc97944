/-
  TypesEqual: the row. Conditions: those that the given row bears, and no others.
-/
import Derived.Test.YtmfbljaemhpokaaGreatDoorLawTeq
import Derived.Test.YtmfbljaemhpokaaGreatDoorTeqJ0
import Derived.Test.YtmfbljaemhpokaaGreatDoorTeqJ1
import Derived.Test.YtmfbljaemhpokaaGreatDoorTeqJ2
import Derived.Test.YtmfbljaemhpokaaGreatDoorTeqJ3
import Derived.Test.YtmfbljaemhpokaaGreatDoorTeqJ4
import Derived.Test.YtmfbljaemhpokaaGreatDoorTeqJ5
import Derived.Test.YtmfbljaemhpokaaGreatDoorTeqJ6
import Derived.ProofKit
import Derived.SevenTiedAt
import Derived.Stop.Joined
namespace Go.Proofs.YtmfbljaemhpokaaGreatDoor
open Go
theorem teq_jf : joinedFacts Tryz.prog 4 Tryz.f4 Rows.typesEqualSpec Rows.typesEqualRow = true := by
  unfold joinedFacts
  simp only [Bool.and_eq_true]
  exact ⟨⟨⟨⟨⟨⟨⟨⟨⟨⟨⟨⟨⟨⟨⟨⟨⟨⟨⟨⟨⟨⟨⟨⟨⟨⟨⟨⟨⟨⟨⟨teq_j0, teq_j1⟩, teq_j2⟩, teq_j3⟩, teq_j4⟩, teq_j5⟩, teq_j6⟩, teq_j7⟩, teq_j8⟩, teq_j9⟩, teq_j10⟩, teq_j11⟩, teq_j12⟩, teq_j13⟩, teq_j14⟩, teq_j15⟩, teq_j16⟩, teq_j17⟩, teq_j18⟩, teq_j19⟩, teq_j20⟩, teq_j21⟩, teq_j22⟩, teq_j23⟩, teq_j24⟩, teq_j25⟩, teq_j26⟩, teq_j27⟩, by kernel_rfl⟩, teq_j29⟩, teq_j30⟩, teq_j31⟩

theorem teq_holds : Rows.TypesEqualSaid :=
  OpenClaim.holds_of_wide 4 Tryz.f4 rfl rfl rfl rfl rfl rfl rfl ⟨rfl, rfl, rfl, rfl, rfl⟩ rfl rfl rfl rfl rfl (by kernel_rfl) Tryz.func4 teq_jf
    (of_decide_eq_true (by kernel_rfl)) (by unfold Func.isWrapper; first | (rw [if_pos (by decide +kernel)]; kernel_rfl) | (rw [if_neg (by decide +kernel)]; exact ⟨rfl, rfl⟩))
    (fun os started H enc _ => teq_lifted os started H enc)

end Go.Proofs.YtmfbljaemhpokaaGreatDoor
