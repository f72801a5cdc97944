/-
  NumberReckons: the row. Conditions: those that the given row bears, and no others.
-/
import Derived.Test.YtmcjihhfgmfcpaaGreatDoorLawReckons
import Derived.Test.YtmcjihhfgmfcpaaGreatDoorReckonsJ0
import Derived.Test.YtmcjihhfgmfcpaaGreatDoorReckonsJ1
import Derived.Test.YtmcjihhfgmfcpaaGreatDoorReckonsJ2
import Derived.Test.YtmcjihhfgmfcpaaGreatDoorReckonsJ3
import Derived.Test.YtmcjihhfgmfcpaaGreatDoorReckonsJ4
import Derived.Test.YtmcjihhfgmfcpaaGreatDoorReckonsJ5
import Derived.Test.YtmcjihhfgmfcpaaGreatDoorReckonsJ6
import Derived.ProofKit
import Derived.SevenTiedAt
import Derived.Stop.Joined
namespace Go.Proofs.YtmcjihhfgmfcpaaGreatDoor
open Go
theorem reckons_jf : joinedFacts Tryz.prog 8 Tryz.f8 Rows.numberReckonsSpec Rows.numberReckonsRow = true := by
  unfold joinedFacts
  simp only [Bool.and_eq_true]
  exact ⟨⟨⟨⟨⟨⟨⟨⟨⟨⟨⟨⟨⟨⟨⟨⟨⟨⟨⟨⟨⟨⟨⟨⟨⟨⟨⟨⟨⟨⟨⟨reckons_j0, reckons_j1⟩, reckons_j2⟩, reckons_j3⟩, reckons_j4⟩, reckons_j5⟩, reckons_j6⟩, reckons_j7⟩, reckons_j8⟩, reckons_j9⟩, reckons_j10⟩, reckons_j11⟩, reckons_j12⟩, reckons_j13⟩, reckons_j14⟩, reckons_j15⟩, reckons_j16⟩, reckons_j17⟩, reckons_j18⟩, reckons_j19⟩, reckons_j20⟩, reckons_j21⟩, reckons_j22⟩, reckons_j23⟩, reckons_j24⟩, reckons_j25⟩, reckons_j26⟩, reckons_j27⟩, by kernel_rfl⟩, reckons_j29⟩, reckons_j30⟩, reckons_j31⟩

theorem reckons_holds : Rows.NumberReckonsSaid :=
  OpenClaim.holds_of_wide 8 Tryz.f8 rfl rfl rfl rfl rfl rfl rfl ⟨rfl, rfl, rfl, rfl, rfl⟩ rfl rfl rfl rfl rfl (by kernel_rfl) Tryz.func8 reckons_jf
    (of_decide_eq_true (by kernel_rfl)) (by unfold Func.isWrapper; first | (rw [if_pos (by decide +kernel)]; kernel_rfl) | (rw [if_neg (by decide +kernel)]; exact ⟨rfl, rfl⟩))
    (fun os started H enc _ => reckons_lifted os started H enc)

end Go.Proofs.YtmcjihhfgmfcpaaGreatDoor
