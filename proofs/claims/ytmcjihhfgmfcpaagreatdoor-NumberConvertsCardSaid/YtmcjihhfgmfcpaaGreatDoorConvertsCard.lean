/-
  NumberConverts: the card: it answers true for every input, and changes nothing. Conditions: those that the given row and card bear, and no others.
-/
import Derived.Test.YtmcjihhfgmfcpaaGreatDoorConvertsHolds
import Derived.Test.YtmcjihhfgmfcpaaGreatDoorConvertsK0
import Derived.Test.YtmcjihhfgmfcpaaGreatDoorConvertsK1
import Derived.Test.YtmcjihhfgmfcpaaGreatDoorConvertsK2
import Derived.Test.YtmcjihhfgmfcpaaGreatDoorCards
import Derived.Test.YtmcjihhfgmfcpaaGreatDoorTie
import Derived.SevenTiedAt
import Derived.Stop.Joined
namespace Go.Proofs.YtmcjihhfgmfcpaaGreatDoor
open Go
theorem converts_card : Rows.NumberConvertsCardSaid :=
  Claim7.holds_tied_plain_at .later [] [.data, .data, .widerDeep, .widerDeep, .data, .data, .data, .data, .data, .data, .sentinel, .sentinel, .pinned, .pinned, .pinned] true (true, "918abb3e81c2fe7dd50410bac959e12192b0491706b51825c57714e17fbeef02") true converts_holds (fun _ h => by cases h) converts_k0 (fun _ h => by cases h) numberConverts_row_tie rfl ⟨rfl, rfl⟩ converts_k1 rfl
    (fun f fn hf hfn => by
      obtain rfl : f = 11 := Option.some.inj (converts_k2.symm.trans hf) |>.symm
      obtain rfl : fn = Tryz.f11 := (Option.some.inj (Tryz.func11.symm.trans hfn)).symm
      exact ⟨converts_k3, fun j t ht => by
        rw [Tryz.params11] at ht
        have hm : t ∈ [3, 3, 2] := by simpa using Array.mem_of_getElem? ht
        exact (show Tryz.prog.wantsStandIn t = false by simpa using List.all_eq_true.1 converts_k4 t hm)⟩)
    converts_k5
#print axioms converts_card
end Go.Proofs.YtmcjihhfgmfcpaaGreatDoor
