/-
  TypesCopies: the card: it answers true for every input, and changes nothing. Conditions: those that the given row and card bear, and no others.
-/
import Derived.Test.YtmfbljaemhpokaaGreatDoorCopiesHolds
import Derived.Test.YtmfbljaemhpokaaGreatDoorCopiesK0
import Derived.Test.YtmfbljaemhpokaaGreatDoorCopiesK1
import Derived.Test.YtmfbljaemhpokaaGreatDoorCopiesK2
import Derived.Test.YtmfbljaemhpokaaGreatDoorCards
import Derived.Test.YtmfbljaemhpokaaGreatDoorTie
import Derived.SevenTiedAt
import Derived.Stop.Joined
namespace Go.Proofs.YtmfbljaemhpokaaGreatDoor
open Go
theorem copies_card : Rows.TypesCopiesCardSaid :=
  Claim7.holds_tied_plain_at .later [] [.data, .data, .data] true (true, "5c379b04abaf1a6f567460b020edf34b42b6ebbffee1a9e6e29a2fd064d52401") false copies_holds (fun _ h => by cases h) copies_k0 (fun _ h => by cases h) typesCopies_row_tie rfl ⟨rfl, rfl⟩ copies_k1 rfl
    (fun f fn hf hfn => by
      obtain rfl : f = 10 := Option.some.inj (copies_k2.symm.trans hf) |>.symm
      obtain rfl : fn = Tryz.f10 := (Option.some.inj (Tryz.func10.symm.trans hfn)).symm
      exact ⟨copies_k3, fun j t ht => by
        rw [Tryz.params10] at ht
        have hm : t ∈ [22] := by simpa using Array.mem_of_getElem? ht
        exact (show Tryz.prog.wantsStandIn t = false by simpa using List.all_eq_true.1 copies_k4 t hm)⟩)
    copies_k5
#print axioms copies_card
end Go.Proofs.YtmfbljaemhpokaaGreatDoor
