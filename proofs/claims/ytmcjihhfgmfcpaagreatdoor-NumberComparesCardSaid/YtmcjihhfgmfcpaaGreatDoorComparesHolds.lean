/-
  NumberCompares: the row. Conditions: those that the given row bears, and no others.
-/
import Derived.Test.YtmcjihhfgmfcpaaGreatDoorLawCompares
import Derived.Test.YtmcjihhfgmfcpaaGreatDoorComparesJ0
import Derived.Test.YtmcjihhfgmfcpaaGreatDoorComparesJ1
import Derived.Test.YtmcjihhfgmfcpaaGreatDoorComparesJ2
import Derived.Test.YtmcjihhfgmfcpaaGreatDoorComparesJ3
import Derived.Test.YtmcjihhfgmfcpaaGreatDoorComparesJ4
import Derived.Test.YtmcjihhfgmfcpaaGreatDoorComparesJ5
import Derived.Test.YtmcjihhfgmfcpaaGreatDoorComparesJ6
import Derived.ProofKit
import Derived.SevenTiedAt
import Derived.Stop.Joined
namespace Go.Proofs.YtmcjihhfgmfcpaaGreatDoor
open Go
theorem compares_jf : joinedFacts Tryz.prog 9 Tryz.f9 Rows.numberComparesSpec Rows.numberComparesRow = true := by
  unfold joinedFacts
  simp only [Bool.and_eq_true]
  exact ⟨⟨⟨⟨⟨⟨⟨⟨⟨⟨⟨⟨⟨⟨⟨⟨⟨⟨⟨⟨⟨⟨⟨⟨⟨⟨⟨⟨⟨⟨⟨compares_j0, compares_j1⟩, compares_j2⟩, compares_j3⟩, compares_j4⟩, compares_j5⟩, compares_j6⟩, compares_j7⟩, compares_j8⟩, compares_j9⟩, compares_j10⟩, compares_j11⟩, compares_j12⟩, compares_j13⟩, compares_j14⟩, compares_j15⟩, compares_j16⟩, compares_j17⟩, compares_j18⟩, compares_j19⟩, compares_j20⟩, compares_j21⟩, compares_j22⟩, compares_j23⟩, compares_j24⟩, compares_j25⟩, compares_j26⟩, compares_j27⟩, by kernel_rfl⟩, compares_j29⟩, compares_j30⟩, compares_j31⟩

theorem compares_holds : Rows.NumberComparesSaid :=
  OpenClaim.holds_of_wide 9 Tryz.f9 rfl rfl rfl rfl rfl rfl rfl ⟨rfl, rfl, rfl, rfl, rfl⟩ rfl rfl rfl rfl rfl (by kernel_rfl) Tryz.func9 compares_jf
    (of_decide_eq_true (by kernel_rfl)) (by unfold Func.isWrapper; first | (rw [if_pos (by decide +kernel)]; kernel_rfl) | (rw [if_neg (by decide +kernel)]; exact ⟨rfl, rfl⟩))
    (fun os started H enc _ => compares_lifted os started H enc)

end Go.Proofs.YtmcjihhfgmfcpaaGreatDoor
