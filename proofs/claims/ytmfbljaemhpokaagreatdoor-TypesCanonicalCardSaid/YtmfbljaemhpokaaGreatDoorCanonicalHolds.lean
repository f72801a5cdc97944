/-
  TypesCanonical: the row. Conditions: those that the given row bears, and no others.
-/
import Derived.Test.YtmfbljaemhpokaaGreatDoorLawCanonical
import Derived.Test.YtmfbljaemhpokaaGreatDoorCanonicalJ0
import Derived.Test.YtmfbljaemhpokaaGreatDoorCanonicalJ1
import Derived.Test.YtmfbljaemhpokaaGreatDoorCanonicalJ2
import Derived.Test.YtmfbljaemhpokaaGreatDoorCanonicalJ3
import Derived.Test.YtmfbljaemhpokaaGreatDoorCanonicalJ4
import Derived.Test.YtmfbljaemhpokaaGreatDoorCanonicalJ5
import Derived.Test.YtmfbljaemhpokaaGreatDoorCanonicalJ6
import Derived.ProofKit
import Derived.SevenTiedAt
import Derived.Stop.Joined
namespace Go.Proofs.YtmfbljaemhpokaaGreatDoor
open Go
theorem canonical_jf : joinedFacts Tryz.prog 5 Tryz.f5 Rows.typesCanonicalSpec Rows.typesCanonicalRow = true := by
  unfold joinedFacts
  simp only [Bool.and_eq_true]
  exact ⟨⟨⟨⟨⟨⟨⟨⟨⟨⟨⟨⟨⟨⟨⟨⟨⟨⟨⟨⟨⟨⟨⟨⟨⟨⟨⟨⟨⟨⟨⟨canonical_j0, canonical_j1⟩, canonical_j2⟩, canonical_j3⟩, canonical_j4⟩, canonical_j5⟩, canonical_j6⟩, canonical_j7⟩, canonical_j8⟩, canonical_j9⟩, canonical_j10⟩, canonical_j11⟩, canonical_j12⟩, canonical_j13⟩, canonical_j14⟩, canonical_j15⟩, canonical_j16⟩, canonical_j17⟩, canonical_j18⟩, canonical_j19⟩, canonical_j20⟩, canonical_j21⟩, canonical_j22⟩, canonical_j23⟩, canonical_j24⟩, canonical_j25⟩, canonical_j26⟩, canonical_j27⟩, by kernel_rfl⟩, canonical_j29⟩, canonical_j30⟩, canonical_j31⟩

theorem canonical_holds : Rows.TypesCanonicalSaid :=
  OpenClaim.holds_of_wide 5 Tryz.f5 rfl rfl rfl rfl rfl rfl rfl ⟨rfl, rfl, rfl, rfl, rfl⟩ rfl rfl rfl rfl rfl (by kernel_rfl) Tryz.func5 canonical_jf
    (of_decide_eq_true (by kernel_rfl)) (by unfold Func.isWrapper; first | (rw [if_pos (by decide +kernel)]; kernel_rfl) | (rw [if_neg (by decide +kernel)]; exact ⟨rfl, rfl⟩))
    (fun os started H enc _ => canonical_lifted os started H enc)

end Go.Proofs.YtmfbljaemhpokaaGreatDoor
