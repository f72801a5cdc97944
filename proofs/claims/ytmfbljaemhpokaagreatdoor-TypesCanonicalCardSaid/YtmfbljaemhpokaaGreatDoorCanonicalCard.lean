/-
  TypesCanonical: the card: it answers true for every input, and changes nothing. Conditions: those that the given row and card bear, and no others.
-/
import Derived.Test.YtmfbljaemhpokaaGreatDoorCanonicalHolds
import Derived.Test.YtmfbljaemhpokaaGreatDoorCanonicalK0
import Derived.Test.YtmfbljaemhpokaaGreatDoorCanonicalK1
import Derived.Test.YtmfbljaemhpokaaGreatDoorCanonicalK2
import Derived.Test.YtmfbljaemhpokaaGreatDoorCards
import Derived.Test.YtmfbljaemhpokaaGreatDoorTie
import Derived.SevenTiedAt
import Derived.Stop.Joined
namespace Go.Proofs.YtmfbljaemhpokaaGreatDoor
open Go
theorem canonical_card : Rows.TypesCanonicalCardSaid :=
  Claim7.holds_tied_plain_at .later [] [.data, .data, .data] true (true, "5c379b04abaf1a6f567460b020edf34b42b6ebbffee1a9e6e29a2fd064d52401") false canonical_holds (fun _ h => by cases h) canonical_k0 (fun _ h => by cases h) typesCanonical_row_tie rfl ⟨rfl, rfl⟩ canonical_k1 rfl
    (fun f fn hf hfn => by
      obtain rfl : f = 5 := Option.some.inj (canonical_k2.symm.trans hf) |>.symm
      obtain rfl : fn = Tryz.f5 := (Option.some.inj (Tryz.func5.symm.trans hfn)).symm
      exact ⟨canonical_k3, fun j t ht => by
        rw [Tryz.params5] at ht
        have hm : t ∈ [22, 3, 3] := by simpa using Array.mem_of_getElem? ht
        exact (show Tryz.prog.wantsStandIn t = false by simpa using List.all_eq_true.1 canonical_k4 t hm)⟩)
    canonical_k5
#print axioms canonical_card
end Go.Proofs.YtmfbljaemhpokaaGreatDoor
