/-
  NativeNil: the row's statement. Conditions: those that the given row bears, and no others.
-/
import Derived.Test.YtggjbnonefpcnaaGreatDoorNil
import Derived.Test.YtggjbnonefpcnaaGreatDoorNilJ0
import Derived.Test.YtggjbnonefpcnaaGreatDoorNilJ1
import Derived.Test.YtggjbnonefpcnaaGreatDoorNilJ2
import Derived.Test.YtggjbnonefpcnaaGreatDoorNilJ3
import Derived.Test.YtggjbnonefpcnaaGreatDoorNilJ4
import Derived.Test.YtggjbnonefpcnaaGreatDoorNilJ5
import Derived.Test.YtggjbnonefpcnaaGreatDoorNilJ6
import Derived.SevenTiedAt
import Derived.Stop.Joined
namespace Go.Proofs.YtggjbnonefpcnaaGreatDoor
open Go Go.ChangeShapes Go.WideShapes Go.ChangeAt Go.RowKit
open Go.ChangeMaps (open_string shut_string)
theorem jf : joinedFacts Tryz.prog 3 Tryz.f3 Rows.nativeNilSpec Rows.nativeNilRow = true := by
  unfold joinedFacts
  simp only [Bool.and_eq_true]
  exact ⟨⟨⟨⟨⟨⟨⟨⟨⟨⟨⟨⟨⟨⟨⟨⟨⟨⟨⟨⟨⟨⟨⟨⟨⟨⟨⟨⟨⟨⟨⟨j0, j1⟩, j2⟩, j3⟩, j4⟩, j5⟩, j6⟩, j7⟩, j8⟩, j9⟩, j10⟩, j11⟩, j12⟩, j13⟩, j14⟩, j15⟩, j16⟩, j17⟩, j18⟩, j19⟩, j20⟩, j21⟩, j22⟩, j23⟩, j24⟩, j25⟩, j26⟩, j27⟩, by kernel_rfl⟩, j29⟩, j30⟩, j31⟩

theorem nil_holds : Rows.NativeNilSaid :=
  OpenClaim.holds_of_wide 3 Tryz.f3 rfl rfl rfl rfl rfl rfl rfl ⟨rfl, rfl, rfl, rfl, rfl⟩ rfl rfl rfl rfl rfl (by kernel_rfl) Tryz.func3 jf
    (of_decide_eq_true (by kernel_rfl)) (by unfold Func.isWrapper; first | (rw [if_pos (by decide +kernel)]; kernel_rfl) | (rw [if_neg (by decide +kernel)]; exact ⟨rfl, rfl⟩))
    (fun os started H enc _ => nil_lifted os started H enc)

end Go.Proofs.YtggjbnonefpcnaaGreatDoor
