/-
  TypesWidens: the row. Conditions: those that the given row bears, and no others.
-/
import Derived.Test.YtmfbljaemhpokaaGreatDoorLawWidens
import Derived.Test.YtmfbljaemhpokaaGreatDoorWidensJ0
import Derived.Test.YtmfbljaemhpokaaGreatDoorWidensJ1
import Derived.Test.YtmfbljaemhpokaaGreatDoorWidensJ2
import Derived.Test.YtmfbljaemhpokaaGreatDoorWidensJ3
import Derived.Test.YtmfbljaemhpokaaGreatDoorWidensJ4
import Derived.Test.YtmfbljaemhpokaaGreatDoorWidensJ5
import Derived.Test.YtmfbljaemhpokaaGreatDoorWidensJ6
import Derived.ProofKit
import Derived.SevenTiedAt
import Derived.Stop.Joined
namespace Go.Proofs.YtmfbljaemhpokaaGreatDoor
open Go
theorem widens_jf : joinedFacts Tryz.prog 7 Tryz.f7 Rows.typesWidensSpec Rows.typesWidensRow = true := by
  unfold joinedFacts
  simp only [Bool.and_eq_true]
  exact ⟨⟨⟨⟨⟨⟨⟨⟨⟨⟨⟨⟨⟨⟨⟨⟨⟨⟨⟨⟨⟨⟨⟨⟨⟨⟨⟨⟨⟨⟨⟨widens_j0, widens_j1⟩, widens_j2⟩, widens_j3⟩, widens_j4⟩, widens_j5⟩, widens_j6⟩, widens_j7⟩, widens_j8⟩, widens_j9⟩, widens_j10⟩, widens_j11⟩, widens_j12⟩, widens_j13⟩, widens_j14⟩, widens_j15⟩, widens_j16⟩, widens_j17⟩, widens_j18⟩, widens_j19⟩, widens_j20⟩, widens_j21⟩, widens_j22⟩, widens_j23⟩, widens_j24⟩, widens_j25⟩, widens_j26⟩, widens_j27⟩, by kernel_rfl⟩, widens_j29⟩, widens_j30⟩, widens_j31⟩

theorem widens_holds : Rows.TypesWidensSaid :=
  OpenClaim.holds_of_wide 7 Tryz.f7 rfl rfl rfl rfl rfl rfl rfl ⟨rfl, rfl, rfl, rfl, rfl⟩ rfl rfl rfl rfl rfl (by kernel_rfl) Tryz.func7 widens_jf
    (of_decide_eq_true (by kernel_rfl)) (by unfold Func.isWrapper; first | (rw [if_pos (by decide +kernel)]; kernel_rfl) | (rw [if_neg (by decide +kernel)]; exact ⟨rfl, rfl⟩))
    (fun os started H enc _ => widens_lifted os started H enc)

end Go.Proofs.YtmfbljaemhpokaaGreatDoor
