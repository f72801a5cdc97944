/-
  NumberCompares: the card: it answers true for every input, and changes nothing. Conditions: those that the given row and card bear, and no others.
-/
import Derived.Test.YtmcjihhfgmfcpaaGreatDoorComparesHolds
import Derived.Test.YtmcjihhfgmfcpaaGreatDoorComparesK0
import Derived.Test.YtmcjihhfgmfcpaaGreatDoorComparesK1
import Derived.Test.YtmcjihhfgmfcpaaGreatDoorComparesK2
import Derived.Test.YtmcjihhfgmfcpaaGreatDoorCards
import Derived.Test.YtmcjihhfgmfcpaaGreatDoorTie
import Derived.SevenTiedAt
import Derived.Stop.Joined
namespace Go.Proofs.YtmcjihhfgmfcpaaGreatDoor
open Go
theorem compares_card : Rows.NumberComparesCardSaid :=
  Claim7.holds_tied_plain_at .later [] [.data, .data, .widerDeep, .widerDeep, .data, .data, .data, .data, .data, .data, .sentinel, .sentinel, .pinned, .pinned, .pinned] true (true, "918abb3e81c2fe7dd50410bac959e12192b0491706b51825c57714e17fbeef02") true compares_holds (fun _ h => by cases h) compares_k0 (fun _ h => by cases h) numberCompares_row_tie rfl ⟨rfl, rfl⟩ compares_k1 rfl
    (fun f fn hf hfn => by
      obtain rfl : f = 9 := Option.some.inj (compares_k2.symm.trans hf) |>.symm
      obtain rfl : fn = Tryz.f9 := (Option.some.inj (Tryz.func9.symm.trans hfn)).symm
      exact ⟨compares_k3, fun j t ht => by
        rw [Tryz.params9] at ht
        have hm : t ∈ [43] := by simpa using Array.mem_of_getElem? ht
        exact (show Tryz.prog.wantsStandIn t = false by simpa using List.all_eq_true.1 compares_k4 t hm)⟩)
    compares_k5
#print axioms compares_card
end Go.Proofs.YtmcjihhfgmfcpaaGreatDoor
