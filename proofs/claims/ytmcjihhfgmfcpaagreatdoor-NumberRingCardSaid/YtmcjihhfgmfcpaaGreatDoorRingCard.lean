/-
  NumberRing: the card: it answers true for every input, and changes nothing. Conditions: those that the given row and card bear, and no others.
-/
import Derived.Test.YtmcjihhfgmfcpaaGreatDoorRingHolds
import Derived.Test.YtmcjihhfgmfcpaaGreatDoorRingK0
import Derived.Test.YtmcjihhfgmfcpaaGreatDoorRingK1
import Derived.Test.YtmcjihhfgmfcpaaGreatDoorRingK2
import Derived.Test.YtmcjihhfgmfcpaaGreatDoorCards
import Derived.Test.YtmcjihhfgmfcpaaGreatDoorTie
import Derived.SevenTiedAt
import Derived.Stop.Joined
namespace Go.Proofs.YtmcjihhfgmfcpaaGreatDoor
open Go
theorem ring_card : Rows.NumberRingCardSaid :=
  Claim7.holds_tied_plain_at .later [] [.data, .data, .widerDeep, .widerDeep, .data, .data, .data, .data, .data, .data, .sentinel, .sentinel, .pinned, .pinned, .pinned] true (true, "918abb3e81c2fe7dd50410bac959e12192b0491706b51825c57714e17fbeef02") true ring_holds (fun _ h => by cases h) ring_k0 (fun _ h => by cases h) numberRing_row_tie rfl ⟨rfl, rfl⟩ ring_k1 rfl
    (fun f fn hf hfn => by
      obtain rfl : f = 6 := Option.some.inj (ring_k2.symm.trans hf) |>.symm
      obtain rfl : fn = Tryz.f6 := (Option.some.inj (Tryz.func6.symm.trans hfn)).symm
      exact ⟨ring_k3, fun j t ht => by
        rw [Tryz.params6] at ht
        have hm : t ∈ [3, 2, 2] := by simpa using Array.mem_of_getElem? ht
        exact (show Tryz.prog.wantsStandIn t = false by simpa using List.all_eq_true.1 ring_k4 t hm)⟩)
    ring_k5
#print axioms ring_card
end Go.Proofs.YtmcjihhfgmfcpaaGreatDoor
