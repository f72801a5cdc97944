/-
  NumberRing: the row. Conditions: those that the given row bears, and no others.
-/
import Derived.Test.YtmcjihhfgmfcpaaGreatDoorLawRing
import Derived.Test.YtmcjihhfgmfcpaaGreatDoorRingJ0
import Derived.Test.YtmcjihhfgmfcpaaGreatDoorRingJ1
import Derived.Test.YtmcjihhfgmfcpaaGreatDoorRingJ2
import Derived.Test.YtmcjihhfgmfcpaaGreatDoorRingJ3
import Derived.Test.YtmcjihhfgmfcpaaGreatDoorRingJ4
import Derived.Test.YtmcjihhfgmfcpaaGreatDoorRingJ5
import Derived.Test.YtmcjihhfgmfcpaaGreatDoorRingJ6
import Derived.ProofKit
import Derived.SevenTiedAt
import Derived.Stop.Joined
namespace Go.Proofs.YtmcjihhfgmfcpaaGreatDoor
open Go
theorem ring_jf : joinedFacts Tryz.prog 6 Tryz.f6 Rows.numberRingSpec Rows.numberRingRow = true := by
  unfold joinedFacts
  simp only [Bool.and_eq_true]
  exact ⟨⟨⟨⟨⟨⟨⟨⟨⟨⟨⟨⟨⟨⟨⟨⟨⟨⟨⟨⟨⟨⟨⟨⟨⟨⟨⟨⟨⟨⟨⟨ring_j0, ring_j1⟩, ring_j2⟩, ring_j3⟩, ring_j4⟩, ring_j5⟩, ring_j6⟩, ring_j7⟩, ring_j8⟩, ring_j9⟩, ring_j10⟩, ring_j11⟩, ring_j12⟩, ring_j13⟩, ring_j14⟩, ring_j15⟩, ring_j16⟩, ring_j17⟩, ring_j18⟩, ring_j19⟩, ring_j20⟩, ring_j21⟩, ring_j22⟩, ring_j23⟩, ring_j24⟩, ring_j25⟩, ring_j26⟩, ring_j27⟩, by kernel_rfl⟩, ring_j29⟩, ring_j30⟩, ring_j31⟩

theorem ring_holds : Rows.NumberRingSaid :=
  OpenClaim.holds_of_wide 6 Tryz.f6 rfl rfl rfl rfl rfl rfl rfl ⟨rfl, rfl, rfl, rfl, rfl⟩ rfl rfl rfl rfl rfl (by kernel_rfl) Tryz.func6 ring_jf
    (of_decide_eq_true (by kernel_rfl)) (by unfold Func.isWrapper; first | (rw [if_pos (by decide +kernel)]; kernel_rfl) | (rw [if_neg (by decide +kernel)]; exact ⟨rfl, rfl⟩))
    (fun os started H enc _ => ring_lifted os started H enc)

end Go.Proofs.YtmcjihhfgmfcpaaGreatDoor
