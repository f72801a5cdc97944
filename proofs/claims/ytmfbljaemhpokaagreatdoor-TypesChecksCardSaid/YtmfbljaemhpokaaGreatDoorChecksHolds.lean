/-
  TypesChecks: the row. Conditions: those that the given row bears, and no others.
-/
import Derived.Test.YtmfbljaemhpokaaGreatDoorLawChecks
import Derived.Test.YtmfbljaemhpokaaGreatDoorChecksJ0
import Derived.Test.YtmfbljaemhpokaaGreatDoorChecksJ1
import Derived.Test.YtmfbljaemhpokaaGreatDoorChecksJ2
import Derived.Test.YtmfbljaemhpokaaGreatDoorChecksJ3
import Derived.Test.YtmfbljaemhpokaaGreatDoorChecksJ4
import Derived.Test.YtmfbljaemhpokaaGreatDoorChecksJ5
import Derived.Test.YtmfbljaemhpokaaGreatDoorChecksJ6
import Derived.ProofKit
import Derived.SevenTiedAt
import Derived.Stop.Joined
namespace Go.Proofs.YtmfbljaemhpokaaGreatDoor
open Go
theorem checks_jf : joinedFacts Tryz.prog 3 Tryz.f3 Rows.typesChecksSpec Rows.typesChecksRow = true := by
  unfold joinedFacts
  simp only [Bool.and_eq_true]
  exact ⟨⟨⟨⟨⟨⟨⟨⟨⟨⟨⟨⟨⟨⟨⟨⟨⟨⟨⟨⟨⟨⟨⟨⟨⟨⟨⟨⟨⟨⟨⟨checks_j0, checks_j1⟩, checks_j2⟩, checks_j3⟩, checks_j4⟩, checks_j5⟩, checks_j6⟩, checks_j7⟩, checks_j8⟩, checks_j9⟩, checks_j10⟩, checks_j11⟩, checks_j12⟩, checks_j13⟩, checks_j14⟩, checks_j15⟩, checks_j16⟩, checks_j17⟩, checks_j18⟩, checks_j19⟩, checks_j20⟩, checks_j21⟩, checks_j22⟩, checks_j23⟩, checks_j24⟩, checks_j25⟩, checks_j26⟩, checks_j27⟩, by kernel_rfl⟩, checks_j29⟩, checks_j30⟩, checks_j31⟩

theorem checks_holds : Rows.TypesChecksSaid :=
  OpenClaim.holds_of_wide 3 Tryz.f3 rfl rfl rfl rfl rfl rfl rfl ⟨rfl, rfl, rfl, rfl, rfl⟩ rfl rfl rfl rfl rfl (by kernel_rfl) Tryz.func3 checks_jf
    (of_decide_eq_true (by kernel_rfl)) (by unfold Func.isWrapper; first | (rw [if_pos (by decide +kernel)]; kernel_rfl) | (rw [if_neg (by decide +kernel)]; exact ⟨rfl, rfl⟩))
    (fun os started H enc _ => checks_lifted os started H enc)

end Go.Proofs.YtmfbljaemhpokaaGreatDoor
