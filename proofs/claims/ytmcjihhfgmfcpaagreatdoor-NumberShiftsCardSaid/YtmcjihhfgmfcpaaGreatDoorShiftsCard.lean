/-
  NumberShifts: the card: it answers true for every input, and changes nothing. Conditions: those that the given row and card bear, and no others.
-/
import Derived.Test.YtmcjihhfgmfcpaaGreatDoorShiftsHolds
import Derived.Test.YtmcjihhfgmfcpaaGreatDoorShiftsK0
import Derived.Test.YtmcjihhfgmfcpaaGreatDoorShiftsK1
import Derived.Test.YtmcjihhfgmfcpaaGreatDoorShiftsK2
import Derived.Test.YtmcjihhfgmfcpaaGreatDoorCards
import Derived.Test.YtmcjihhfgmfcpaaGreatDoorTie
import Derived.SevenTiedAt
import Derived.Stop.Joined
namespace Go.Proofs.YtmcjihhfgmfcpaaGreatDoor
open Go
theorem shifts_card : Rows.NumberShiftsCardSaid :=
  Claim7.holds_tied_plain_at .later [] [.data, .data, .widerDeep, .widerDeep, .data, .data, .data, .data, .data, .data, .sentinel, .sentinel, .pinned, .pinned, .pinned] true (true, "918abb3e81c2fe7dd50410bac959e12192b0491706b51825c57714e17fbeef02") true shifts_holds (fun _ h => by cases h) shifts_k0 (fun _ h => by cases h) numberShifts_row_tie rfl ⟨rfl, rfl⟩ shifts_k1 rfl
    (fun f fn hf hfn => by
      obtain rfl : f = 5 := Option.some.inj (shifts_k2.symm.trans hf) |>.symm
      obtain rfl : fn = Tryz.f5 := (Option.some.inj (Tryz.func5.symm.trans hfn)).symm
      exact ⟨shifts_k3, fun j t ht => by
        rw [Tryz.params5] at ht
        have hm : t ∈ [3, 2, 5] := by simpa using Array.mem_of_getElem? ht
        exact (show Tryz.prog.wantsStandIn t = false by simpa using List.all_eq_true.1 shifts_k4 t hm)⟩)
    shifts_k5
#print axioms shifts_card
end Go.Proofs.YtmcjihhfgmfcpaaGreatDoor
