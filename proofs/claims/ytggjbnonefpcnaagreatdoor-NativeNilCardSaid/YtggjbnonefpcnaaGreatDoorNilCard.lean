/-
  NativeNil (a machine that is nil behaves as that of layer 23): the card: it answers true for every input, and changes nothing. Conditions: those that the given row and card bear, and no others.
-/
import Derived.Test.YtggjbnonefpcnaaGreatDoorNilHolds
import Derived.Test.YtggjbnonefpcnaaGreatDoorNilK0
import Derived.Test.YtggjbnonefpcnaaGreatDoorNilK1
import Derived.Test.YtggjbnonefpcnaaGreatDoorNilK2
import Derived.SevenTiedAt
import Derived.Stop.Joined
namespace Go.Proofs.YtggjbnonefpcnaaGreatDoor
open Go Go.ChangeShapes Go.WideShapes Go.ChangeAt Go.RowKit
open Go.ChangeMaps (open_string shut_string)
theorem nil_card : Rows.NativeNilCardSaid :=
  Claim7.holds_tied_plain_at .later [] [.data, .data, .pinned] true (true, "386a53aac351b0704d1f861a57e6979e39943afcfb0310c77a478ce2f79405ce") true nil_holds (fun _ h => by cases h) k0 (fun _ h => by cases h) nativeNil_row_tie rfl ⟨rfl, rfl⟩ k1 rfl
    (fun f fn hf hfn => by
      obtain rfl : f = 3 := Option.some.inj (k2.symm.trans hf) |>.symm
      obtain rfl : fn = Tryz.f3 := (Option.some.inj (Tryz.func3.symm.trans hfn)).symm
      exact ⟨k3, fun j t ht => by
        rw [Tryz.params3] at ht
        have hm : t ∈ [3, 9] := by simpa using Array.mem_of_getElem? ht
        exact (show Tryz.prog.wantsStandIn t = false by simpa using List.all_eq_true.1 k4 t hm)⟩)
    k5
#print axioms nil_card
end Go.Proofs.YtggjbnonefpcnaaGreatDoor
