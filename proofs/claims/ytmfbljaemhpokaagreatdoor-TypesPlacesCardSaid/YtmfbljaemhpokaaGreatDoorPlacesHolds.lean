/-
  TypesPlaces: the row. Conditions: those that the given row bears, and no others.
-/
import Derived.Test.YtmfbljaemhpokaaGreatDoorLawPlaces
import Derived.Test.YtmfbljaemhpokaaGreatDoorPlacesJ0
import Derived.Test.YtmfbljaemhpokaaGreatDoorPlacesJ1
import Derived.Test.YtmfbljaemhpokaaGreatDoorPlacesJ2
import Derived.Test.YtmfbljaemhpokaaGreatDoorPlacesJ3
import Derived.Test.YtmfbljaemhpokaaGreatDoorPlacesJ4
import Derived.Test.YtmfbljaemhpokaaGreatDoorPlacesJ5
import Derived.Test.YtmfbljaemhpokaaGreatDoorPlacesJ6
import Derived.ProofKit
import Derived.SevenTiedAt
import Derived.Stop.Joined
namespace Go.Proofs.YtmfbljaemhpokaaGreatDoor
open Go
theorem places_jf : joinedFacts Tryz.prog 8 Tryz.f8 Rows.typesPlacesSpec Rows.typesPlacesRow = true := by
  unfold joinedFacts
  simp only [Bool.and_eq_true]
  exact ⟨⟨⟨⟨⟨⟨⟨⟨⟨⟨⟨⟨⟨⟨⟨⟨⟨⟨⟨⟨⟨⟨⟨⟨⟨⟨⟨⟨⟨⟨⟨places_j0, places_j1⟩, places_j2⟩, places_j3⟩, places_j4⟩, places_j5⟩, places_j6⟩, places_j7⟩, places_j8⟩, places_j9⟩, places_j10⟩, places_j11⟩, places_j12⟩, places_j13⟩, places_j14⟩, places_j15⟩, places_j16⟩, places_j17⟩, places_j18⟩, places_j19⟩, places_j20⟩, places_j21⟩, places_j22⟩, places_j23⟩, places_j24⟩, places_j25⟩, places_j26⟩, places_j27⟩, by kernel_rfl⟩, places_j29⟩, places_j30⟩, places_j31⟩

theorem places_holds : Rows.TypesPlacesSaid :=
  OpenClaim.holds_of_wide 8 Tryz.f8 rfl rfl rfl rfl rfl rfl rfl ⟨rfl, rfl, rfl, rfl, rfl⟩ rfl rfl rfl rfl rfl (by kernel_rfl) Tryz.func8 places_jf
    (of_decide_eq_true (by kernel_rfl)) (by unfold Func.isWrapper; first | (rw [if_pos (by decide +kernel)]; kernel_rfl) | (rw [if_neg (by decide +kernel)]; exact ⟨rfl, rfl⟩))
    (fun os started H enc _ => places_lifted os started H enc)

end Go.Proofs.YtmfbljaemhpokaaGreatDoor
