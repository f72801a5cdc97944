/-
  LexNumbers: the card: it answers true for every input, and changes nothing. Conditions: those that the given row and card bear, and no others.
-/
import Derived.Test.YtpokggpohmojlaaGreatDoorNumbersHolds
import Derived.Test.YtpokggpohmojlaaGreatDoorNumbersK0
import Derived.Test.YtpokggpohmojlaaGreatDoorNumbersK1
import Derived.Test.YtpokggpohmojlaaGreatDoorNumbersK2
import Derived.Test.YtpokggpohmojlaaGreatDoorCards
import Derived.Test.YtpokggpohmojlaaGreatDoorTie
import Derived.SevenTiedAt
import Derived.Stop.Joined
namespace Go.Proofs.YtpokggpohmojlaaGreatDoor
open Go
theorem numbers_card : Rows.LexNumbersCardSaid :=
  Claim7.holds_tied_plain_at .later [] [.data, .data, .widerDeep, .widerDeep, .data, .data, .data, .data, .data, .data, .sentinel, .sentinel, .widerDeep, .pinned, .pinned, .pinned] true (true, "2da5969ecc14c517ae7bf849857b9e43bd136142d8583905f864989a56e48c45") true numbers_holds (fun _ h => by cases h) numbers_k0 (fun _ h => by cases h) lexNumbers_row_tie rfl ⟨rfl, rfl⟩ numbers_k1 rfl
    (fun f fn hf hfn => by
      obtain rfl : f = 3 := Option.some.inj (numbers_k2.symm.trans hf) |>.symm
      obtain rfl : fn = Tryz.f3 := (Option.some.inj (Tryz.func3.symm.trans hfn)).symm
      exact ⟨numbers_k3, fun j t ht => by
        rw [Tryz.params3] at ht
        have hm : t ∈ [2, 5, 5] := by simpa using Array.mem_of_getElem? ht
        exact (show Tryz.prog.wantsStandIn t = false by simpa using List.all_eq_true.1 numbers_k4 t hm)⟩)
    numbers_k5
#print axioms numbers_card
end Go.Proofs.YtpokggpohmojlaaGreatDoor
