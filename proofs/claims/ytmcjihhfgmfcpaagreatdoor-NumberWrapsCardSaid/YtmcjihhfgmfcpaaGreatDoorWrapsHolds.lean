/-
  NumberWraps: the row. Conditions: those that the given row bears, and no others.
-/
import Derived.Test.YtmcjihhfgmfcpaaGreatDoorLawWraps
import Derived.Test.YtmcjihhfgmfcpaaGreatDoorWrapsJ0
import Derived.Test.YtmcjihhfgmfcpaaGreatDoorWrapsJ1
import Derived.Test.YtmcjihhfgmfcpaaGreatDoorWrapsJ2
import Derived.Test.YtmcjihhfgmfcpaaGreatDoorWrapsJ3
import Derived.Test.YtmcjihhfgmfcpaaGreatDoorWrapsJ4
import Derived.Test.YtmcjihhfgmfcpaaGreatDoorWrapsJ5
import Derived.Test.YtmcjihhfgmfcpaaGreatDoorWrapsJ6
import Derived.ProofKit
import Derived.SevenTiedAt
import Derived.Stop.Joined
namespace Go.Proofs.YtmcjihhfgmfcpaaGreatDoor
open Go
theorem wraps_jf : joinedFacts Tryz.prog 7 Tryz.f7 Rows.numberWrapsSpec Rows.numberWrapsRow = true := by
  unfold joinedFacts
  simp only [Bool.and_eq_true]
  exact ⟨⟨⟨⟨⟨⟨⟨⟨⟨⟨⟨⟨⟨⟨⟨⟨⟨⟨⟨⟨⟨⟨⟨⟨⟨⟨⟨⟨⟨⟨⟨wraps_j0, wraps_j1⟩, wraps_j2⟩, wraps_j3⟩, wraps_j4⟩, wraps_j5⟩, wraps_j6⟩, wraps_j7⟩, wraps_j8⟩, wraps_j9⟩, wraps_j10⟩, wraps_j11⟩, wraps_j12⟩, wraps_j13⟩, wraps_j14⟩, wraps_j15⟩, wraps_j16⟩, wraps_j17⟩, wraps_j18⟩, wraps_j19⟩, wraps_j20⟩, wraps_j21⟩, wraps_j22⟩, wraps_j23⟩, wraps_j24⟩, wraps_j25⟩, wraps_j26⟩, wraps_j27⟩, by kernel_rfl⟩, wraps_j29⟩, wraps_j30⟩, wraps_j31⟩

theorem wraps_holds : Rows.NumberWrapsSaid :=
  OpenClaim.holds_of_wide 7 Tryz.f7 rfl rfl rfl rfl rfl rfl rfl ⟨rfl, rfl, rfl, rfl, rfl⟩ rfl rfl rfl rfl rfl (by kernel_rfl) Tryz.func7 wraps_jf
    (of_decide_eq_true (by kernel_rfl)) (by unfold Func.isWrapper; first | (rw [if_pos (by decide +kernel)]; kernel_rfl) | (rw [if_neg (by decide +kernel)]; exact ⟨rfl, rfl⟩))
    (fun os started H enc _ => wraps_lifted os started H enc)

end Go.Proofs.YtmcjihhfgmfcpaaGreatDoor
