/-
  TypesEqual: the card: it answers true for every input, and changes nothing. Conditions: those that the given row and card bear, and no others.
-/
import Derived.Test.YtmfbljaemhpokaaGreatDoorTeqHolds
import Derived.Test.YtmfbljaemhpokaaGreatDoorTeqK0
import Derived.Test.YtmfbljaemhpokaaGreatDoorTeqK1
import Derived.Test.YtmfbljaemhpokaaGreatDoorTeqK2
import Derived.Test.YtmfbljaemhpokaaGreatDoorCards
import Derived.Test.YtmfbljaemhpokaaGreatDoorTie
import Derived.SevenTiedAt
import Derived.Stop.Joined
namespace Go.Proofs.YtmfbljaemhpokaaGreatDoor
open Go
theorem teq_card : Rows.TypesEqualCardSaid :=
  Claim7.holds_tied_plain_at .later [] [.data, .data, .data] true (true, "5c379b04abaf1a6f567460b020edf34b42b6ebbffee1a9e6e29a2fd064d52401") false teq_holds (fun _ h => by cases h) teq_k0 (fun _ h => by cases h) typesEqual_row_tie rfl ⟨rfl, rfl⟩ teq_k1 rfl
    (fun f fn hf hfn => by
      obtain rfl : f = 4 := Option.some.inj (teq_k2.symm.trans hf) |>.symm
      obtain rfl : fn = Tryz.f4 := (Option.some.inj (Tryz.func4.symm.trans hfn)).symm
      exact ⟨teq_k3, fun j t ht => by
        rw [Tryz.params4] at ht
        have hm : t ∈ [22, 3, 3] := by simpa using Array.mem_of_getElem? ht
        exact (show Tryz.prog.wantsStandIn t = false by simpa using List.all_eq_true.1 teq_k4 t hm)⟩)
    teq_k5
#print axioms teq_card
end Go.Proofs.YtmfbljaemhpokaaGreatDoor
