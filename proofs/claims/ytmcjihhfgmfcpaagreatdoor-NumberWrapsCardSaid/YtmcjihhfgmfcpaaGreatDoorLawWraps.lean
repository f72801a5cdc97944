/-
  NumberWraps (wrapping, and the number 1) answers true for every input, and changes nothing. Conditions: those that the given row and card bear, and no others.
-/
import Derived.Test.YtmcjihhfgmfcpaaGreatDoorWraps0
import Derived.Test.YtmcjihhfgmfcpaaGreatDoorCards
import Derived.Test.YtmcjihhfgmfcpaaGreatDoorTie
import Derived.ProofKit
import Derived.OpenShut
import Derived.ChangeMaps
import Derived.LaidMore
import Derived.Lay
import Derived.SevenTiedAt
import Derived.Stop.Joined
namespace Go.Proofs.YtmcjihhfgmfcpaaGreatDoor
open Go Go.Ab Go.ChangeShapes Go.WideShapes Go.ChangeAt Go.RowKit
open Go.ChangeMaps (open_string shut_string)
theorem wraps_fc (kind n : Int) (hn : Fit .i64 n) {m : AW} (hm : m.lo ≤ m.next) (hl : LaidAt lays m) : Fc Tryz.prog 7 [.int .i64 kind, .int .i64 n] m fun v _ => v = .bool true := by
  by_cases h1 : kind = 1
  · subst h1
    exact (wraps_u8 hm hl hn).mono fun _ _ h => h.1
  by_cases h2 : kind = 2
  · subst h2
    exact (wraps_i32 hm hl hn).mono fun _ _ h => h.1
  by_cases h3 : kind = 3
  · subst h3
    exact (wraps_i64 hm hl hn).mono fun _ _ h => h.1
  by_cases h4 : kind = 4
  · subst h4
    exact (wraps_real hm hl hn).mono fun _ _ h => h.1
  exact (wraps_none hm hl h1 h2 h3 h4).mono fun _ _ h => h.1
theorem wraps_calls (kind : Int) (n : Int) (wkind : (Lit.int .i64 kind).wf = true) (wn : (Lit.int .i64 n).wf = true) {W : World} (hl : LiesBy Tryz.prog W lays) : Calls Tryz.prog 7 #[.int .i64 kind, .int .i64 n] W fun e W' => e = .returned (.bool true) ∧ Still W W' :=
  calls_fc (plainNames_of names) mixed (fun tt => wraps_fc kind n (fit_wf wn) (Nat.zero_le _) (laid0 tt)) Tryz.func7 (by kernel_rfl) hl (by kernel_rfl) (fun _ => .cons (.int _ _) (.cons (.int _ _) (.nil)))

set_option maxRecDepth 100000 in
theorem wraps_lifted (os : Os) (started : os.Started) (H : Type) (enc : TypeId × Value → H) :
    ReturnsInHanded {} Tryz.checked os 7 .any (fun w args => (Rows.numberWrapsSpec.pre enc Tryz.prog Tryz.f7 Rows.numberWrapsRow.domain false w args ∧ laidMetH Tryz.prog Rows.numberWrapsRow.laid w) ∧ sizedMet enc Tryz.prog Tryz.f7 (OpenSpec.ofChange Rows.numberWrapsSpec) false w args)
      (Rows.numberWrapsSpec.post enc Tryz.prog Tryz.f7 false true false false) := by
  refine Ab.returns_shaped (C := Tryz.checked) (X := fun w _ => laidMetH Tryz.prog Rows.numberWrapsRow.laid w) (fun _ _ _ hh h => h.of_heap hh) own started (by kernel_rfl) Tryz.func7
    (ChangeSpec.witness_shaped (enc := enc) (C := Tryz.checked) (os := os) (X := fun w _ => laidMetH Tryz.prog Rows.numberWrapsRow.laid w) false (World.laidAll Tryz.prog os Rows.numberWrapsRow.laid) #[.int .i64 0, .int .i64 0] 8 (World.laidAll_os _ _ _)
      (World.shaped_of_ZipB (by kernel_rfl) (by kernel_rfl)) (by kernel_rfl) (by kernel_rfl) (by kernel_rfl)
      (by rw [MakeChecks.laidMetH_plain _ _ _ (by kernel_rfl)]; exact laidMet_laidAll _ (by kernel_rfl) (by kernel_rfl))) ?_
  intro W base args ds gs before hsh hval0 hW _ _ hL
  have hval : ∀ (j : Nat) t v, Tryz.f7.params[j]? = some t → args[j]? = some v → Value.okWide Tryz.prog W .any base t v := hval0
  have hW' := hW
  obtain ⟨p, q, hA0, hV, rfl, _, _⟩ := hW
  have hA : DataW.TrodAll enc Tryz.prog W 0 (fun _ => true) true Tryz.f7.params.toList args.toList ds p := hA0
  rw [Tryz.params7] at hA hval
  obtain ⟨v0, v1, d0, d1, p0, p1, rfl, rfl, rfl, h0, h1⟩ := trodAll_two hA
  obtain ⟨rfl, rfl⟩ := trodVars_none hV
  obtain ⟨kind, rfl, rfl, rfl, wkind⟩ := open_int Tryz.underlying3 (hval 0 3 v0 rfl rfl) h0
  obtain ⟨n, rfl, rfl, rfl, wn⟩ := open_int Tryz.underlying2 (hval 1 2 v1 rfl rfl) h1
  simp only [List.append_nil] at hW'
  refine (wraps_calls kind n wkind wn (lies hsh hL)).mono fun e W' ⟨he, hk⟩ => ?_
  subst he
  exact ⟨_, rfl, Ab.post_law (pa := []) (pv := []) hW' (fun _ _ _ => trodAll_mk1 (shut_bool Tryz.underlying4 _)) (fun sp _ => trodAll_mk2 (shut_int Tryz.underlying3 wkind) (shut_int Tryz.underlying2 wn)) (fun _ _ => rfl) rfl hk (ok_one (by kernel_rfl) rfl (okWide_bool_mk Tryz.underlying4 _))⟩

end Go.Proofs.YtmcjihhfgmfcpaaGreatDoor
