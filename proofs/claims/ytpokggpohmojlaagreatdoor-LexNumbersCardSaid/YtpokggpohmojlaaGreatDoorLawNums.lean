/-
  LexNumbers (numbers read back what was written, in any base) answers true for every input, and changes nothing. Conditions: those that the given row and card bear, and no others.
-/
import Derived.Test.YtpokggpohmojlaaGreatDoorNums0
import Derived.Test.YtpokggpohmojlaaGreatDoorLie
import Derived.Test.YtpokggpohmojlaaGreatDoorCards
import Derived.Test.YtpokggpohmojlaaGreatDoorTie
import Derived.ProofKit
import Derived.OpenShut
import Derived.ChangeMaps
import Derived.LaidMore
import Derived.Lay
import Derived.SevenTiedAt
import Derived.Stop.Joined
namespace Go.Proofs.YtpokggpohmojlaaGreatDoor
open Go Go.Ab Go.ChangeShapes Go.WideShapes Go.ChangeAt Go.RowKit
open Go.ChangeMaps (open_string shut_string)

theorem numbers_calls (n : Int) (base : Int) (zeros : Int) (wn : (Lit.int .i64 n).wf = true) (wbase : (Lit.int .u8 base).wf = true) (wzeros : (Lit.int .u8 zeros).wf = true) {W : World} (hl : ∃ m, @LiesBy (V0 m) Tryz.prog W lays) : Calls Tryz.prog 3 #[.int .i64 n, .int .u8 base, .int .u8 zeros] W fun e W' => e = .returned (.bool true) ∧ Still W W' := by
  obtain ⟨m, hl⟩ := hl
  letI : Mx := ⟨m⟩
  obtain ⟨bz, rfl, hbz⟩ := u8N wbase
  obtain ⟨zz, rfl, hzz⟩ := u8N wzeros
  exact calls_fc (plainNames_of names) mixed (fun tt => (numbers_ok (Nat.zero_le _) (i64R wn) hbz hzz (laid0 tt)).mono fun _ _ h => h.1) Tryz.func3 (by kernel_rfl) hl (by kernel_rfl) (fun _ => .cons (.int _ _) (.cons (.int _ _) (.cons (.int _ _) (.nil))))

set_option maxRecDepth 100000 in
theorem numbers_lifted (os : Os) (started : os.Started) (H : Type) (enc : TypeId × Value → H) :
    ReturnsInHanded {} Tryz.checked os 3 .any (fun w args => (Rows.lexNumbersSpec.pre enc Tryz.prog Tryz.f3 Rows.lexNumbersRow.domain false w args ∧ laidMetH Tryz.prog Rows.lexNumbersRow.laid w) ∧ sizedMet enc Tryz.prog Tryz.f3 (OpenSpec.ofChange Rows.lexNumbersSpec) false w args)
      (Rows.lexNumbersSpec.post enc Tryz.prog Tryz.f3 false true false false) := by
  refine Ab.returns_shaped (C := Tryz.checked) (X := fun w _ => laidMetH Tryz.prog Rows.lexNumbersRow.laid w) (fun _ _ _ hh h => h.of_heap hh) own started (by kernel_rfl) Tryz.func3
    (ChangeSpec.witness_shaped (enc := enc) (C := Tryz.checked) (os := os) (X := fun w _ => laidMetH Tryz.prog Rows.lexNumbersRow.laid w) false (World.laidAll Tryz.prog os Rows.lexNumbersRow.laid) #[.int .i64 0, .int .u8 0, .int .u8 0] 8 (World.laidAll_os _ _ _)
      (World.shaped_of_ZipB (by kernel_rfl) (by kernel_rfl)) (by kernel_rfl) (by kernel_rfl) (by kernel_rfl)
      (by rw [MakeChecks.laidMetH_plain _ _ _ (by kernel_rfl)]; exact laidMet_laidAll _ (by kernel_rfl) (by kernel_rfl))) ?_
  intro W base args ds gs before hsh hval0 hW _ _ hL
  have hval : ∀ (j : Nat) t v, Tryz.f3.params[j]? = some t → args[j]? = some v → Value.okWide Tryz.prog W .any base t v := hval0
  have hW' := hW
  obtain ⟨p, q, hA0, hV, rfl, _, _⟩ := hW
  have hA : DataW.TrodAll enc Tryz.prog W 0 (fun _ => true) true Tryz.f3.params.toList args.toList ds p := hA0
  rw [Tryz.params3] at hA hval
  obtain ⟨v0, v1, v2, d0, d1, d2, p0, p1, p2, rfl, rfl, rfl, h0, h1, h2⟩ := trodAll_three hA
  obtain ⟨rfl, rfl⟩ := trodVars_none hV
  obtain ⟨n, rfl, rfl, rfl, wn⟩ := open_int Tryz.underlying2 (hval 0 2 v0 rfl rfl) h0
  obtain ⟨base, rfl, rfl, rfl, wbase⟩ := open_int Tryz.underlying5 (hval 1 5 v1 rfl rfl) h1
  obtain ⟨zeros, rfl, rfl, rfl, wzeros⟩ := open_int Tryz.underlying5 (hval 2 5 v2 rfl rfl) h2
  simp only [List.append_nil] at hW'
  refine (numbers_calls n base zeros wn wbase wzeros (lies hsh hL)).mono fun e W' ⟨he, hk⟩ => ?_
  subst he
  exact ⟨_, rfl, Ab.post_law (pa := []) (pv := []) hW' (fun _ _ _ => trodAll_mk1 (shut_bool Tryz.underlying4 _)) (fun sp _ => trodAll_mk3 (shut_int Tryz.underlying2 wn) (shut_int Tryz.underlying5 wbase) (shut_int Tryz.underlying5 wzeros)) (fun _ _ => rfl) rfl hk (ok_one (by kernel_rfl) rfl (okWide_bool_mk Tryz.underlying4 _))⟩

end Go.Proofs.YtpokggpohmojlaaGreatDoor
