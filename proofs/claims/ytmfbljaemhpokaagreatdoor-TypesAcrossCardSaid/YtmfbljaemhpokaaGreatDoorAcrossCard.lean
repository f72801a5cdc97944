/-
  TypesAcross: the card: it answers true for every input, and changes nothing. Conditions: those that the given row and card bear, and no others.
-/
import Derived.Test.YtmfbljaemhpokaaGreatDoorAcrossHolds
import Derived.Test.YtmfbljaemhpokaaGreatDoorAcrossK0
import Derived.Test.YtmfbljaemhpokaaGreatDoorAcrossK1
import Derived.Test.YtmfbljaemhpokaaGreatDoorAcrossK2
import Derived.Test.YtmfbljaemhpokaaGreatDoorCards
import Derived.Test.YtmfbljaemhpokaaGreatDoorTie
import Derived.SevenTiedAt
import Derived.Stop.Joined
namespace Go.Proofs.YtmfbljaemhpokaaGreatDoor
open Go
theorem across_card : Rows.TypesAcrossCardSaid :=
  Claim7.holds_tied_plain_at .later [] [.data, .data, .data] true (true, "5c379b04abaf1a6f567460b020edf34b42b6ebbffee1a9e6e29a2fd064d52401") false across_holds (fun _ h => by cases h) across_k0 (fun _ h => by cases h) typesAcross_row_tie rfl ⟨rfl, rfl⟩ across_k1 rfl
    (fun f fn hf hfn => by
      obtain rfl : f = 6 := Option.some.inj (across_k2.symm.trans hf) |>.symm
      obtain rfl : fn = Tryz.f6 := (Option.some.inj (Tryz.func6.symm.trans hfn)).symm
      exact ⟨across_k3, fun j t ht => by
        rw [Tryz.params6] at ht
        have hm : t ∈ [38, 3, 3] := by simpa using Array.mem_of_getElem? ht
        exact (show Tryz.prog.wantsStandIn t = false by simpa using List.all_eq_true.1 across_k4 t hm)⟩)
    across_k5
#print axioms across_card
end Go.Proofs.YtmfbljaemhpokaaGreatDoor
