/-
  LexWords: the card: it answers true for every input, and changes nothing. Conditions: those that the given row and card bear, and no others.
-/
import Derived.Test.YtodpkhdfmcijnaaGreatDoorWordsHolds
import Derived.Test.YtodpkhdfmcijnaaGreatDoorWordsK0
import Derived.Test.YtodpkhdfmcijnaaGreatDoorWordsK1
import Derived.Test.YtodpkhdfmcijnaaGreatDoorWordsK2
import Derived.Test.YtodpkhdfmcijnaaGreatDoorCards
import Derived.Test.YtodpkhdfmcijnaaGreatDoorTie
import Derived.SevenTiedAt
import Derived.Stop.Joined
namespace Go.Proofs.YtodpkhdfmcijnaaGreatDoor
open Go
theorem words_card : Rows.LexWordsCardSaid :=
  Claim7.holds_tied_plain_at .later [] [.data, .data, .widerDeep, .widerDeep, .data, .data, .data, .data, .data, .data, .sentinel, .sentinel, .widerDeep, .pinned, .pinned, .pinned] true (true, "2d8733a35c2fa978642a0d91bcf0bcd389ea386260d78155824592a3e31bb471") true words_holds (fun _ h => by cases h) words_k0 (fun _ h => by cases h) lexWords_row_tie rfl ⟨rfl, rfl⟩ words_k1 rfl
    (fun f fn hf hfn => by
      obtain rfl : f = 3 := Option.some.inj (words_k2.symm.trans hf) |>.symm
      obtain rfl : fn = Tryz.f3 := (Option.some.inj (Tryz.func3.symm.trans hfn)).symm
      exact ⟨words_k3, fun j t ht => by
        rw [Tryz.params3] at ht
        have hm : t ∈ [9] := by simpa using Array.mem_of_getElem? ht
        exact (show Tryz.prog.wantsStandIn t = false by simpa using List.all_eq_true.1 words_k4 t hm)⟩)
    words_k5
#print axioms words_card
end Go.Proofs.YtodpkhdfmcijnaaGreatDoor
