/-
  TypesWidens: the card: it answers true for every input, and changes nothing. Conditions: those that the given row and card bear, and no others.
-/
import Derived.Test.YtmfbljaemhpokaaGreatDoorWidensHolds
import Derived.Test.YtmfbljaemhpokaaGreatDoorWidensK0
import Derived.Test.YtmfbljaemhpokaaGreatDoorWidensK1
import Derived.Test.YtmfbljaemhpokaaGreatDoorWidensK2
import Derived.Test.YtmfbljaemhpokaaGreatDoorCards
import Derived.Test.YtmfbljaemhpokaaGreatDoorTie
import Derived.SevenTiedAt
import Derived.Stop.Joined
namespace Go.Proofs.YtmfbljaemhpokaaGreatDoor
open Go
theorem widens_card : Rows.TypesWidensCardSaid :=
  Claim7.holds_tied_plain_at .later [] [.data, .data, .data] true (true, "5c379b04abaf1a6f567460b020edf34b42b6ebbffee1a9e6e29a2fd064d52401") false widens_holds (fun _ h => by cases h) widens_k0 (fun _ h => by cases h) typesWidens_row_tie rfl ⟨rfl, rfl⟩ widens_k1 rfl
    (fun f fn hf hfn => by
      obtain rfl : f = 7 := Option.some.inj (widens_k2.symm.trans hf) |>.symm
      obtain rfl : fn = Tryz.f7 := (Option.some.inj (Tryz.func7.symm.trans hfn)).symm
      exact ⟨widens_k3, fun j t ht => by
        rw [Tryz.params7] at ht
        have hm : t ∈ [22, 3, 3] := by simpa using Array.mem_of_getElem? ht
        exact (show Tryz.prog.wantsStandIn t = false by simpa using List.all_eq_true.1 widens_k4 t hm)⟩)
    widens_k5
#print axioms widens_card
end Go.Proofs.YtmfbljaemhpokaaGreatDoor
