/-
  LexQuotes: closed facts of the card, part 2. Conditions: none.
-/
import Derived.Test.YtdgbgmpnjggikaaGreatDoorRows
import Derived.KernelRfl
import Derived.SevenTiedAt
namespace Go.Proofs.YtdgbgmpnjggikaaGreatDoor
open Go
theorem quotes_k3 : true = Tryz.pinned.checked.prog.looks [] := by kernel_rfl
theorem quotes_k6 : Tryz.prog.funcs.toList.all (fun fn => !Func.goes fn) = true := by kernel_rfl

theorem quotes_goes {P : Program} (h : P.funcs.toList.all (fun fn => !Func.goes fn) = true) (f : FuncId) : P.goes f = false := by
  have hm : ∀ fn ∈ P.funcs.toList, Func.goes fn = false := fun fn hf => by simpa using List.all_eq_true.1 h fn hf
  unfold Program.goes
  have h2 : P.funcs.any Func.goes = false := by
    rw [← Array.any_toList, List.any_eq_false]
    exact fun fn hf => by rw [hm fn hf]; decide
  rw [h2, Bool.and_false, Bool.or_false, List.any_eq_false]
  intro g _
  cases hg : P.funcs[g]? with
  | none => decide
  | some fn =>
    have := hm fn (Array.mem_toList_iff.2 (Array.mem_of_getElem? hg))
    simp [this]

theorem quotes_goesBy {P : Program} {c : OpenClaim} (hs : c.start = .entering) (h : P.funcs.toList.all (fun fn => !Func.goes fn) = true) : false = c.goesBy P := by
  unfold OpenClaim.goesBy Program.goesAt Program.goesFrom
  rw [hs]
  cases P.funcNamed c.func with
  | none => rfl
  | some f => simp [quotes_goes h f]

theorem quotes_k5 : false = Rows.lexQuotesRow.goesBy Tryz.pinned.checked.prog := quotes_goesBy (P := Tryz.prog) rfl quotes_k6
end Go.Proofs.YtdgbgmpnjggikaaGreatDoor
