/-
  NativeNil (a machine that is nil behaves as that of layer 23) answers true for every input, and changes nothing. Conditions: those that the given row and card bear, and no others.
-/
import Derived.Test.YtggjbnonefpcnaaGreatDoorNilRun
import Derived.Test.YtggjbnonefpcnaaGreatDoorCards
import Derived.Test.YtggjbnonefpcnaaGreatDoorTie
import Derived.ProofKit
import Derived.OpenShut
import Derived.ChangeMaps
import Derived.LaidMore
import Derived.Lay
import Derived.SevenTiedAt
import Derived.Stop.Joined
namespace Go.Proofs.YtggjbnonefpcnaaGreatDoor
open Go Go.ChangeShapes Go.WideShapes Go.ChangeAt Go.RowKit
open Go.ChangeMaps (open_string shut_string)
theorem own : ownKnob Tryz.prog.godebug = none := by kernel_rfl

theorem lies {W : World} (hsh : W.ShapedOpen Tryz.prog) (h : laidMetH Tryz.prog Rows.nativeNilRow.laid W) : Ab.LiesSo Tryz.prog W [(2, 447, usesV)] := by
  rw [MakeChecks.laidMetH_plain _ _ _ (by kernel_rfl)] at h
  obtain ⟨_, ⟨_, _, _, _, _, _, _, _, _, _, ⟨g, t, cs, fuel, p, q, hg, ht, hv, hd, _, _⟩, _⟩, _, _⟩ := h
  obtain rfl := Option.some.inj ((show Tryz.prog.globalNamed "acheron/cpu.uses" = some 2 by kernel_rfl).symm.trans hg)
  obtain rfl := Option.some.inj ((show (Tryz.prog.globals[2]?).map (·.type) = some 447 by kernel_rfl).symm.trans ht)
  have hcs := Ab.strings_laid (n := 32) (e := 9) Tryz.underlying447 Tryz.underlying9 (by kernel_rfl) (by kernel_rfl) hd (ls := uses) (by kernel_rfl)
  obtain ⟨fr, hb⟩ := Ab.block_of_var hsh hg (by kernel_rfl) hv (k := 32) (t := 447) (by kernel_rfl)
  intro g t vs hm
  obtain ⟨rfl, rfl, rfl⟩ : g = 2 ∧ t = 447 ∧ vs = usesV := by simpa using hm
  refine ⟨Nat.le_of_ble_eq_true (by kernel_rfl), by kernel_rfl, fr, ?_⟩
  rw [hb]
  have : cs = ⟨usesV⟩ := Array.ext' hcs
  rw [this]

theorem nil_calls (n : Int) (s : ByteArray) {W : World} (hW : Tryz.prog.globals.size ≤ W.heap.size) (hl : Ab.LiesSo Tryz.prog W [(2, 447, usesV)]) : Calls Tryz.prog 3 #[.int .i64 n, .string s] W fun e W' => e = .returned (.bool true) ∧ Ab.Still W W' :=
  @Ab.calls_laid nilVals Tryz.prog nilFacts (Ab.plainNames_of names) mixed 100000 Ab.noFr 3 _ _ _ 100 0 true (nil_run n s) Tryz.f3 Tryz.func3 (by kernel_rfl) W hW hl (Nat.le_of_ble_eq_true few) (by letI : Ab.Vals := nilVals; exact .cons (.int _ _) (.cons (.string _) .nil))

set_option maxRecDepth 100000 in
theorem nil_lifted (os : Os) (started : os.Started) (H : Type) (enc : TypeId × Value → H) :
    ReturnsInHanded {} Tryz.checked os 3 .any (fun w args => (Rows.nativeNilSpec.pre enc Tryz.prog Tryz.f3 Rows.nativeNilRow.domain false w args ∧ laidMetH Tryz.prog Rows.nativeNilRow.laid w) ∧ sizedMet enc Tryz.prog Tryz.f3 (OpenSpec.ofChange Rows.nativeNilSpec) false w args)
      (Rows.nativeNilSpec.post enc Tryz.prog Tryz.f3 false true false false) := by
  refine Ab.returns_shaped (C := Tryz.checked) (X := fun w _ => laidMetH Tryz.prog Rows.nativeNilRow.laid w) (fun _ _ _ hh h => h.of_heap hh) own started (by kernel_rfl) Tryz.func3
    (ChangeSpec.witness_shaped (enc := enc) (C := Tryz.checked) (os := os) (X := fun w _ => laidMetH Tryz.prog Rows.nativeNilRow.laid w) false (World.laidAll Tryz.prog os Rows.nativeNilRow.laid) #[.int .i64 0, .string ⟨#[]⟩] 8 (World.laidAll_os _ _ _)
      (World.shaped_of_ZipB (by kernel_rfl) (by kernel_rfl)) (by kernel_rfl) (by kernel_rfl) (by kernel_rfl)
      (by rw [MakeChecks.laidMetH_plain _ _ _ (by kernel_rfl)]; exact laidMet_laidAll _ (by kernel_rfl) (by kernel_rfl))) ?_
  intro W base args ds gs before hsh hval0 hW _ _ hL
  have hval : ∀ (j : Nat) t v, Tryz.f3.params[j]? = some t → args[j]? = some v → Value.okWide Tryz.prog W .any base t v := hval0
  have hW' := hW
  obtain ⟨p, q, hA0, hV, rfl, _, _⟩ := hW
  have hA : DataW.TrodAll enc Tryz.prog W 0 (fun _ => true) true Tryz.f3.params.toList args.toList ds p := hA0
  rw [Tryz.params3] at hA hval
  obtain ⟨v0, v1, d0, d1, p0, p1, rfl, rfl, rfl, h0, h1⟩ := trodAll_two hA
  obtain ⟨rfl, rfl⟩ := trodVars_none hV
  obtain ⟨n, rfl, rfl, rfl, wt⟩ := open_int Tryz.underlying3 (hval 0 3 v0 rfl rfl) h0
  obtain ⟨s, rfl, rfl, rfl, ws⟩ := open_string Tryz.underlying9 (hval 1 9 v1 rfl rfl) h1
  simp only [List.append_nil] at hW'
  refine (nil_calls n s (Ab.globals_of_shaped hsh more) (lies hsh hL)).mono fun e W' ⟨he, hk⟩ => ?_
  subst he
  exact ⟨_, rfl, Ab.post_law (pa := []) (pv := []) hW' (fun _ _ _ => trodAll_mk1 (shut_bool Tryz.underlying4 _)) (fun sp _ => trodAll_mk2 (shut_int Tryz.underlying3 wt) (shut_string Tryz.underlying9 ws)) (fun _ _ => rfl) rfl hk (ok_one (by kernel_rfl) rfl (okWide_bool_mk Tryz.underlying4 _))⟩

end Go.Proofs.YtggjbnonefpcnaaGreatDoor
