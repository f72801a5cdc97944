/-
  NumberOrders: the row. Conditions: those that the given row bears, and no others.
-/
import Derived.Test.YtmcjihhfgmfcpaaGreatDoorLawOrders
import Derived.Test.YtmcjihhfgmfcpaaGreatDoorOrdersJ0
import Derived.Test.YtmcjihhfgmfcpaaGreatDoorOrdersJ1
import Derived.Test.YtmcjihhfgmfcpaaGreatDoorOrdersJ2
import Derived.Test.YtmcjihhfgmfcpaaGreatDoorOrdersJ3
import Derived.Test.YtmcjihhfgmfcpaaGreatDoorOrdersJ4
import Derived.Test.YtmcjihhfgmfcpaaGreatDoorOrdersJ5
import Derived.Test.YtmcjihhfgmfcpaaGreatDoorOrdersJ6
import Derived.ProofKit
import Derived.SevenTiedAt
import Derived.Stop.Joined
namespace Go.Proofs.YtmcjihhfgmfcpaaGreatDoor
open Go
theorem orders_jf : joinedFacts Tryz.prog 10 Tryz.f10 Rows.numberOrdersSpec Rows.numberOrdersRow = true := by
  unfold joinedFacts
  simp only [Bool.and_eq_true]
  exact ⟨⟨⟨⟨⟨⟨⟨⟨⟨⟨⟨⟨⟨⟨⟨⟨⟨⟨⟨⟨⟨⟨⟨⟨⟨⟨⟨⟨⟨⟨⟨orders_j0, orders_j1⟩, orders_j2⟩, orders_j3⟩, orders_j4⟩, orders_j5⟩, orders_j6⟩, orders_j7⟩, orders_j8⟩, orders_j9⟩, orders_j10⟩, orders_j11⟩, orders_j12⟩, orders_j13⟩, orders_j14⟩, orders_j15⟩, orders_j16⟩, orders_j17⟩, orders_j18⟩, orders_j19⟩, orders_j20⟩, orders_j21⟩, orders_j22⟩, orders_j23⟩, orders_j24⟩, orders_j25⟩, orders_j26⟩, orders_j27⟩, by kernel_rfl⟩, orders_j29⟩, orders_j30⟩, orders_j31⟩

theorem orders_holds : Rows.NumberOrdersSaid :=
  OpenClaim.holds_of_wide 10 Tryz.f10 rfl rfl rfl rfl rfl rfl rfl ⟨rfl, rfl, rfl, rfl, rfl⟩ rfl rfl rfl rfl rfl (by kernel_rfl) Tryz.func10 orders_jf
    (of_decide_eq_true (by kernel_rfl)) (by unfold Func.isWrapper; first | (rw [if_pos (by decide +kernel)]; kernel_rfl) | (rw [if_neg (by decide +kernel)]; exact ⟨rfl, rfl⟩))
    (fun os started H enc _ => orders_lifted os started H enc)

end Go.Proofs.YtmcjihhfgmfcpaaGreatDoor
