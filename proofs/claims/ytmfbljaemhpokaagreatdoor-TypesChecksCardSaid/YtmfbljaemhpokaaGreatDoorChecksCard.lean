/-
  TypesChecks: the card: it answers true for every input, and changes nothing. Conditions: those that the given row and card bear, and no others.
-/
import Derived.Test.YtmfbljaemhpokaaGreatDoorChecksHolds
import Derived.Test.YtmfbljaemhpokaaGreatDoorChecksK0
import Derived.Test.YtmfbljaemhpokaaGreatDoorChecksK1
import Derived.Test.YtmfbljaemhpokaaGreatDoorChecksK2
import Derived.Test.YtmfbljaemhpokaaGreatDoorCards
import Derived.Test.YtmfbljaemhpokaaGreatDoorTie
import Derived.SevenTiedAt
import Derived.Stop.Joined
namespace Go.Proofs.YtmfbljaemhpokaaGreatDoor
open Go
theorem checks_card : Rows.TypesChecksCardSaid :=
  Claim7.holds_tied_plain_at .later [] [.data, .data, .data] true (true, "5c379b04abaf1a6f567460b020edf34b42b6ebbffee1a9e6e29a2fd064d52401") false checks_holds (fun _ h => by cases h) checks_k0 (fun _ h => by cases h) typesChecks_row_tie rfl ⟨rfl, rfl⟩ checks_k1 rfl
    (fun f fn hf hfn => by
      obtain rfl : f = 3 := Option.some.inj (checks_k2.symm.trans hf) |>.symm
      obtain rfl : fn = Tryz.f3 := (Option.some.inj (Tryz.func3.symm.trans hfn)).symm
      exact ⟨checks_k3, fun j t ht => by
        rw [Tryz.params3] at ht
        have hm : t ∈ [22, 3] := by simpa using Array.mem_of_getElem? ht
        exact (show Tryz.prog.wantsStandIn t = false by simpa using List.all_eq_true.1 checks_k4 t hm)⟩)
    checks_k5
#print axioms checks_card
end Go.Proofs.YtmfbljaemhpokaaGreatDoor
