/-
  NumberConverts: the row. Conditions: those that the given row bears, and no others.
-/
import Derived.Test.YtmcjihhfgmfcpaaGreatDoorLawConverts
import Derived.Test.YtmcjihhfgmfcpaaGreatDoorConvertsJ0
import Derived.Test.YtmcjihhfgmfcpaaGreatDoorConvertsJ1
import Derived.Test.YtmcjihhfgmfcpaaGreatDoorConvertsJ2
import Derived.Test.YtmcjihhfgmfcpaaGreatDoorConvertsJ3
import Derived.Test.YtmcjihhfgmfcpaaGreatDoorConvertsJ4
import Derived.Test.YtmcjihhfgmfcpaaGreatDoorConvertsJ5
import Derived.Test.YtmcjihhfgmfcpaaGreatDoorConvertsJ6
import Derived.ProofKit
import Derived.SevenTiedAt
import Derived.Stop.Joined
namespace Go.Proofs.YtmcjihhfgmfcpaaGreatDoor
open Go
theorem converts_jf : joinedFacts Tryz.prog 11 Tryz.f11 Rows.numberConvertsSpec Rows.numberConvertsRow = true := by
  unfold joinedFacts
  simp only [Bool.and_eq_true]
  exact ⟨⟨⟨⟨⟨⟨⟨⟨⟨⟨⟨⟨⟨⟨⟨⟨⟨⟨⟨⟨⟨⟨⟨⟨⟨⟨⟨⟨⟨⟨⟨converts_j0, converts_j1⟩, converts_j2⟩, converts_j3⟩, converts_j4⟩, converts_j5⟩, converts_j6⟩, converts_j7⟩, converts_j8⟩, converts_j9⟩, converts_j10⟩, converts_j11⟩, converts_j12⟩, converts_j13⟩, converts_j14⟩, converts_j15⟩, converts_j16⟩, converts_j17⟩, converts_j18⟩, converts_j19⟩, converts_j20⟩, converts_j21⟩, converts_j22⟩, converts_j23⟩, converts_j24⟩, converts_j25⟩, converts_j26⟩, converts_j27⟩, by kernel_rfl⟩, converts_j29⟩, converts_j30⟩, converts_j31⟩

theorem converts_holds : Rows.NumberConvertsSaid :=
  OpenClaim.holds_of_wide 11 Tryz.f11 rfl rfl rfl rfl rfl rfl rfl ⟨rfl, rfl, rfl, rfl, rfl⟩ rfl rfl rfl rfl rfl (by kernel_rfl) Tryz.func11 converts_jf
    (of_decide_eq_true (by kernel_rfl)) (by unfold Func.isWrapper; first | (rw [if_pos (by decide +kernel)]; kernel_rfl) | (rw [if_neg (by decide +kernel)]; exact ⟨rfl, rfl⟩))
    (fun os started H enc _ => converts_lifted os started H enc)

end Go.Proofs.YtmcjihhfgmfcpaaGreatDoor
