/-
  NumberWraps: the card: it answers true for every input, and changes nothing. Conditions: those that the given row and card bear, and no others.
-/
import Derived.Test.YtmcjihhfgmfcpaaGreatDoorWrapsHolds
import Derived.Test.YtmcjihhfgmfcpaaGreatDoorWrapsK0
import Derived.Test.YtmcjihhfgmfcpaaGreatDoorWrapsK1
import Derived.Test.YtmcjihhfgmfcpaaGreatDoorWrapsK2
import Derived.Test.YtmcjihhfgmfcpaaGreatDoorCards
import Derived.Test.YtmcjihhfgmfcpaaGreatDoorTie
import Derived.SevenTiedAt
import Derived.Stop.Joined
namespace Go.Proofs.YtmcjihhfgmfcpaaGreatDoor
open Go
theorem wraps_card : Rows.NumberWrapsCardSaid :=
  Claim7.holds_tied_plain_at .later [] [.data, .data, .widerDeep, .widerDeep, .data, .data, .data, .data, .data, .data, .sentinel, .sentinel, .pinned, .pinned, .pinned] true (true, "918abb3e81c2fe7dd50410bac959e12192b0491706b51825c57714e17fbeef02") true wraps_holds (fun _ h => by cases h) wraps_k0 (fun _ h => by cases h) numberWraps_row_tie rfl ⟨rfl, rfl⟩ wraps_k1 rfl
    (fun f fn hf hfn => by
      obtain rfl : f = 7 := Option.some.inj (wraps_k2.symm.trans hf) |>.symm
      obtain rfl : fn = Tryz.f7 := (Option.some.inj (Tryz.func7.symm.trans hfn)).symm
      exact ⟨wraps_k3, fun j t ht => by
        rw [Tryz.params7] at ht
        have hm : t ∈ [3, 2] := by simpa using Array.mem_of_getElem? ht
        exact (show Tryz.prog.wantsStandIn t = false by simpa using List.all_eq_true.1 wraps_k4 t hm)⟩)
    wraps_k5
#print axioms wraps_card
end Go.Proofs.YtmcjihhfgmfcpaaGreatDoor
