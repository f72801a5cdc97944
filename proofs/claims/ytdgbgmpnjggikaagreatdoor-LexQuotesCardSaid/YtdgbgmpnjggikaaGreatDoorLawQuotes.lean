/-
  LexQuotes (the literal of any string, and back) answers true for every input, and changes nothing. Conditions: those that the given row and card bear, and no others.
-/
import Derived.Test.YtdgbgmpnjggikaaGreatDoorQuotes0
import Derived.Test.YtdgbgmpnjggikaaGreatDoorLie
import Derived.Test.YtdgbgmpnjggikaaGreatDoorCards
import Derived.Test.YtdgbgmpnjggikaaGreatDoorTie
import Derived.ProofKit
import Derived.OpenShut
import Derived.ChangeMaps
import Derived.LaidMore
import Derived.Lay
import Derived.SevenTiedAt
import Derived.Stop.Joined
namespace Go.Proofs.YtdgbgmpnjggikaaGreatDoor
open Go Go.Ab Go.ChangeShapes Go.WideShapes Go.ChangeAt Go.RowKit
open Go.ChangeMaps (open_string shut_string)

theorem quotes_calls (s : ByteArray) (ws : s.size ≤ maxLen) {W : World} (hl : ∃ m, @LiesBy (V0 m) Tryz.prog W lays) : Calls Tryz.prog 3 #[.string s] W fun e W' => e = .returned (.bool true) ∧ Still W W' := by
  obtain ⟨m, hl⟩ := hl
  letI : Mx := ⟨m⟩
  exact calls_fc (plainNames_of names) mixed (fun tt => (quotes_ok (Nat.zero_le _) (laid0 tt)).mono fun _ _ h => h.1) Tryz.func3 (by kernel_rfl) hl (by kernel_rfl) (fun _ => .cons (.string _) (.nil))

set_option maxRecDepth 100000 in
theorem quotes_lifted (os : Os) (started : os.Started) (H : Type) (enc : TypeId × Value → H) :
    ReturnsInHanded {} Tryz.checked os 3 .any (fun w args => (Rows.lexQuotesSpec.pre enc Tryz.prog Tryz.f3 Rows.lexQuotesRow.domain false w args ∧ laidMetH Tryz.prog Rows.lexQuotesRow.laid w) ∧ sizedMet enc Tryz.prog Tryz.f3 (OpenSpec.ofChange Rows.lexQuotesSpec) false w args)
      (Rows.lexQuotesSpec.post enc Tryz.prog Tryz.f3 false true false false) := by
  refine Ab.returns_shaped (C := Tryz.checked) (X := fun w _ => laidMetH Tryz.prog Rows.lexQuotesRow.laid w) (fun _ _ _ hh h => h.of_heap hh) own started (by kernel_rfl) Tryz.func3
    (ChangeSpec.witness_shaped (enc := enc) (C := Tryz.checked) (os := os) (X := fun w _ => laidMetH Tryz.prog Rows.lexQuotesRow.laid w) false (World.laidAll Tryz.prog os Rows.lexQuotesRow.laid) #[.string ⟨#[]⟩] 8 (World.laidAll_os _ _ _)
      (World.shaped_of_ZipB (by kernel_rfl) (by kernel_rfl)) (by kernel_rfl) (by kernel_rfl) (by kernel_rfl)
      (by rw [MakeChecks.laidMetH_plain _ _ _ (by kernel_rfl)]; exact laidMet_laidAll _ (by kernel_rfl) (by kernel_rfl))) ?_
  intro W base args ds gs before hsh hval0 hW _ _ hL
  have hval : ∀ (j : Nat) t v, Tryz.f3.params[j]? = some t → args[j]? = some v → Value.okWide Tryz.prog W .any base t v := hval0
  have hW' := hW
  obtain ⟨p, q, hA0, hV, rfl, _, _⟩ := hW
  have hA : DataW.TrodAll enc Tryz.prog W 0 (fun _ => true) true Tryz.f3.params.toList args.toList ds p := hA0
  rw [Tryz.params3] at hA hval
  obtain ⟨v0, d0, rfl, rfl, h0⟩ := trodAll_one hA
  obtain ⟨rfl, rfl⟩ := trodVars_none hV
  obtain ⟨s, rfl, rfl, rfl, ws⟩ := open_string Tryz.underlying9 (hval 0 9 v0 rfl rfl) h0
  simp only [List.append_nil] at hW'
  refine (quotes_calls s ws (lies hsh hL)).mono fun e W' ⟨he, hk⟩ => ?_
  subst he
  exact ⟨_, rfl, Ab.post_law (pa := []) (pv := []) hW' (fun _ _ _ => trodAll_mk1 (shut_bool Tryz.underlying4 _)) (fun sp _ => trodAll_mk1 (shut_string Tryz.underlying9 ws)) (fun _ _ => rfl) rfl hk (ok_one (by kernel_rfl) rfl (okWide_bool_mk Tryz.underlying4 _))⟩

end Go.Proofs.YtdgbgmpnjggikaaGreatDoor
