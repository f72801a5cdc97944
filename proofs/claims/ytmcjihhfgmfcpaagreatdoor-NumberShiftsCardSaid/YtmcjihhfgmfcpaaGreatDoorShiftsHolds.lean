/-
  NumberShifts: the row. Conditions: those that the given row bears, and no others.
-/
import Derived.Test.YtmcjihhfgmfcpaaGreatDoorLawShifts
import Derived.Test.YtmcjihhfgmfcpaaGreatDoorShiftsJ0
import Derived.Test.YtmcjihhfgmfcpaaGreatDoorShiftsJ1
import Derived.Test.YtmcjihhfgmfcpaaGreatDoorShiftsJ2
import Derived.Test.YtmcjihhfgmfcpaaGreatDoorShiftsJ3
import Derived.Test.YtmcjihhfgmfcpaaGreatDoorShiftsJ4
import Derived.Test.YtmcjihhfgmfcpaaGreatDoorShiftsJ5
import Derived.Test.YtmcjihhfgmfcpaaGreatDoorShiftsJ6
import Derived.ProofKit
import Derived.SevenTiedAt
import Derived.Stop.Joined
namespace Go.Proofs.YtmcjihhfgmfcpaaGreatDoor
open Go
theorem shifts_jf : joinedFacts Tryz.prog 5 Tryz.f5 Rows.numberShiftsSpec Rows.numberShiftsRow = true := by
  unfold joinedFacts
  simp only [Bool.and_eq_true]
  exact ⟨⟨⟨⟨⟨⟨⟨⟨⟨⟨⟨⟨⟨⟨⟨⟨⟨⟨⟨⟨⟨⟨⟨⟨⟨⟨⟨⟨⟨⟨⟨shifts_j0, shifts_j1⟩, shifts_j2⟩, shifts_j3⟩, shifts_j4⟩, shifts_j5⟩, shifts_j6⟩, shifts_j7⟩, shifts_j8⟩, shifts_j9⟩, shifts_j10⟩, shifts_j11⟩, shifts_j12⟩, shifts_j13⟩, shifts_j14⟩, shifts_j15⟩, shifts_j16⟩, shifts_j17⟩, shifts_j18⟩, shifts_j19⟩, shifts_j20⟩, shifts_j21⟩, shifts_j22⟩, shifts_j23⟩, shifts_j24⟩, shifts_j25⟩, shifts_j26⟩, shifts_j27⟩, by kernel_rfl⟩, shifts_j29⟩, shifts_j30⟩, shifts_j31⟩

theorem shifts_holds : Rows.NumberShiftsSaid :=
  OpenClaim.holds_of_wide 5 Tryz.f5 rfl rfl rfl rfl rfl rfl rfl ⟨rfl, rfl, rfl, rfl, rfl⟩ rfl rfl rfl rfl rfl (by kernel_rfl) Tryz.func5 shifts_jf
    (of_decide_eq_true (by kernel_rfl)) (by unfold Func.isWrapper; first | (rw [if_pos (by decide +kernel)]; kernel_rfl) | (rw [if_neg (by decide +kernel)]; exact ⟨rfl, rfl⟩))
    (fun os started H enc _ => shifts_lifted os started H enc)

end Go.Proofs.YtmcjihhfgmfcpaaGreatDoor
