/-
  NumberReckons: the card: it answers true for every input, and changes nothing. Conditions: those that the given row and card bear, and no others.
-/
import Derived.Test.YtmcjihhfgmfcpaaGreatDoorReckonsHolds
import Derived.Test.YtmcjihhfgmfcpaaGreatDoorReckonsK0
import Derived.Test.YtmcjihhfgmfcpaaGreatDoorReckonsK1
import Derived.Test.YtmcjihhfgmfcpaaGreatDoorReckonsK2
import Derived.Test.YtmcjihhfgmfcpaaGreatDoorCards
import Derived.Test.YtmcjihhfgmfcpaaGreatDoorTie
import Derived.SevenTiedAt
import Derived.Stop.Joined
namespace Go.Proofs.YtmcjihhfgmfcpaaGreatDoor
open Go
theorem reckons_card : Rows.NumberReckonsCardSaid :=
  Claim7.holds_tied_plain_at .later [] [.data, .data, .widerDeep, .widerDeep, .data, .data, .data, .data, .data, .data, .sentinel, .sentinel, .pinned, .pinned, .pinned] true (true, "918abb3e81c2fe7dd50410bac959e12192b0491706b51825c57714e17fbeef02") true reckons_holds (fun _ h => by cases h) reckons_k0 (fun _ h => by cases h) numberReckons_row_tie rfl ⟨rfl, rfl⟩ reckons_k1 rfl
    (fun f fn hf hfn => by
      obtain rfl : f = 8 := Option.some.inj (reckons_k2.symm.trans hf) |>.symm
      obtain rfl : fn = Tryz.f8 := (Option.some.inj (Tryz.func8.symm.trans hfn)).symm
      exact ⟨reckons_k3, fun j t ht => by
        rw [Tryz.params8] at ht
        have hm : t ∈ [43] := by simpa using Array.mem_of_getElem? ht
        exact (show Tryz.prog.wantsStandIn t = false by simpa using List.all_eq_true.1 reckons_k4 t hm)⟩)
    reckons_k5
#print axioms reckons_card
end Go.Proofs.YtmcjihhfgmfcpaaGreatDoor
