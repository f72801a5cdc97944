/-
  TypesPlaces: the card: it answers true for every input, and changes nothing. Conditions: those that the given row and card bear, and no others.
-/
import Derived.Test.YtmfbljaemhpokaaGreatDoorPlacesHolds
import Derived.Test.YtmfbljaemhpokaaGreatDoorPlacesK0
import Derived.Test.YtmfbljaemhpokaaGreatDoorPlacesK1
import Derived.Test.YtmfbljaemhpokaaGreatDoorPlacesK2
import Derived.Test.YtmfbljaemhpokaaGreatDoorCards
import Derived.Test.YtmfbljaemhpokaaGreatDoorTie
import Derived.SevenTiedAt
import Derived.Stop.Joined
namespace Go.Proofs.YtmfbljaemhpokaaGreatDoor
open Go
theorem places_card : Rows.TypesPlacesCardSaid :=
  Claim7.holds_tied_plain_at .later [] [.data, .data, .data] true (true, "5c379b04abaf1a6f567460b020edf34b42b6ebbffee1a9e6e29a2fd064d52401") false places_holds (fun _ h => by cases h) places_k0 (fun _ h => by cases h) typesPlaces_row_tie rfl ⟨rfl, rfl⟩ places_k1 rfl
    (fun f fn hf hfn => by
      obtain rfl : f = 8 := Option.some.inj (places_k2.symm.trans hf) |>.symm
      obtain rfl : fn = Tryz.f8 := (Option.some.inj (Tryz.func8.symm.trans hfn)).symm
      exact ⟨places_k3, fun j t ht => by
        rw [Tryz.params8] at ht
        have hm : t ∈ [22, 61] := by simpa using Array.mem_of_getElem? ht
        exact (show Tryz.prog.wantsStandIn t = false by simpa using List.all_eq_true.1 places_k4 t hm)⟩)
    places_k5
#print axioms places_card
end Go.Proofs.YtmfbljaemhpokaaGreatDoor
