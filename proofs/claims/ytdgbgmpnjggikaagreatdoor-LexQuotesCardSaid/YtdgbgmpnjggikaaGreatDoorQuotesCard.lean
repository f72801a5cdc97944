/-
  LexQuotes: the card: it answers true for every input, and changes nothing. Conditions: those that the given row and card bear, and no others.
-/
import Derived.Test.YtdgbgmpnjggikaaGreatDoorQuotesHolds
import Derived.Test.YtdgbgmpnjggikaaGreatDoorQuotesK0
import Derived.Test.YtdgbgmpnjggikaaGreatDoorQuotesK1
import Derived.Test.YtdgbgmpnjggikaaGreatDoorQuotesK2
import Derived.Test.YtdgbgmpnjggikaaGreatDoorCards
import Derived.Test.YtdgbgmpnjggikaaGreatDoorTie
import Derived.SevenTiedAt
import Derived.Stop.Joined
namespace Go.Proofs.YtdgbgmpnjggikaaGreatDoor
open Go
theorem quotes_card : Rows.LexQuotesCardSaid :=
  Claim7.holds_tied_plain_at .later [] [.data, .data, .widerDeep, .widerDeep, .data, .data, .data, .data, .data, .data, .sentinel, .sentinel, .widerDeep, .pinned, .pinned, .pinned] true (true, "b204dd66e29361a893dee84e090eeb2a680843b5e68644ec72c374fec7de27e4") true quotes_holds (fun _ h => by cases h) quotes_k0 (fun _ h => by cases h) lexQuotes_row_tie rfl ⟨rfl, rfl⟩ quotes_k1 rfl
    (fun f fn hf hfn => by
      obtain rfl : f = 3 := Option.some.inj (quotes_k2.symm.trans hf) |>.symm
      obtain rfl : fn = Tryz.f3 := (Option.some.inj (Tryz.func3.symm.trans hfn)).symm
      exact ⟨quotes_k3, fun j t ht => by
        rw [Tryz.params3] at ht
        have hm : t ∈ [9] := by simpa using Array.mem_of_getElem? ht
        exact (show Tryz.prog.wantsStandIn t = false by simpa using List.all_eq_true.1 quotes_k4 t hm)⟩)
    quotes_k5
#print axioms quotes_card
end Go.Proofs.YtdgbgmpnjggikaaGreatDoor
