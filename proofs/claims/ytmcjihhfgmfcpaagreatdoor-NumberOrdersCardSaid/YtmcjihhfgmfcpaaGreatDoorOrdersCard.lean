/-
  NumberOrders: the card: it answers true for every input, and changes nothing. Conditions: those that the given row and card bear, and no others.
-/
import Derived.Test.YtmcjihhfgmfcpaaGreatDoorOrdersHolds
import Derived.Test.YtmcjihhfgmfcpaaGreatDoorOrdersK0
import Derived.Test.YtmcjihhfgmfcpaaGreatDoorOrdersK1
import Derived.Test.YtmcjihhfgmfcpaaGreatDoorOrdersK2
import Derived.Test.YtmcjihhfgmfcpaaGreatDoorCards
import Derived.Test.YtmcjihhfgmfcpaaGreatDoorTie
import Derived.SevenTiedAt
import Derived.Stop.Joined
namespace Go.Proofs.YtmcjihhfgmfcpaaGreatDoor
open Go
theorem orders_card : Rows.NumberOrdersCardSaid :=
  Claim7.holds_tied_plain_at .later [] [.data, .data, .widerDeep, .widerDeep, .data, .data, .data, .data, .data, .data, .sentinel, .sentinel, .pinned, .pinned, .pinned] true (true, "918abb3e81c2fe7dd50410bac959e12192b0491706b51825c57714e17fbeef02") true orders_holds (fun _ h => by cases h) orders_k0 (fun _ h => by cases h) numberOrders_row_tie rfl ⟨rfl, rfl⟩ orders_k1 rfl
    (fun f fn hf hfn => by
      obtain rfl : f = 10 := Option.some.inj (orders_k2.symm.trans hf) |>.symm
      obtain rfl : fn = Tryz.f10 := (Option.some.inj (Tryz.func10.symm.trans hfn)).symm
      exact ⟨orders_k3, fun j t ht => by
        rw [Tryz.params10] at ht
        have hm : t ∈ [3, 2, 2] := by simpa using Array.mem_of_getElem? ht
        exact (show Tryz.prog.wantsStandIn t = false by simpa using List.all_eq_true.1 orders_k4 t hm)⟩)
    orders_k5
#print axioms orders_card
end Go.Proofs.YtmcjihhfgmfcpaaGreatDoor
