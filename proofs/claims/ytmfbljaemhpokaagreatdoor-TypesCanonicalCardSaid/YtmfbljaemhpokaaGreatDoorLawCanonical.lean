/-
  TypesCanonical (equality of types is an equivalence, and the same as equal canonical texts) answers true for every input, and changes nothing. Conditions: those that the given row and card bear, and no others.
-/
import Derived.Test.YtmfbljaemhpokaaGreatDoorCanonical3
import Derived.Test.YtmfbljaemhpokaaGreatDoorRun
import Derived.Test.YtmfbljaemhpokaaGreatDoorEnt
import Derived.Test.YtmfbljaemhpokaaGreatDoorRows
import Derived.Test.YtmfbljaemhpokaaGreatDoorCards
import Derived.Test.YtmfbljaemhpokaaGreatDoorTie
import Derived.ProofKit
import Derived.OpenShut
import Derived.ChangeMaps
import Derived.LaidMore
import Derived.Lay
import Derived.Carry
import Derived.SevenTiedAt
import Derived.Stop.Joined
namespace Go.Proofs.YtmfbljaemhpokaaGreatDoor
open Go Go.Ab Go.ChangeShapes Go.WideShapes Go.ChangeAt Go.RowKit
open Go.ChangeMaps (open_string shut_string)
set_option linter.unusedVariables false

set_option maxRecDepth 100000 in
theorem canonical_lifted (os : Os) (started : os.Started) (H : Type) (enc : TypeId × Value → H) :
    ReturnsInHanded {} Tryz.checked os 5 .any (fun w args => (Rows.typesCanonicalSpec.pre enc Tryz.prog Tryz.f5 Rows.typesCanonicalRow.domain false w args ∧ laidMetH Tryz.prog Rows.typesCanonicalRow.laid w) ∧ sizedMet enc Tryz.prog Tryz.f5 (OpenSpec.ofChange Rows.typesCanonicalSpec) false w args)
      (Rows.typesCanonicalSpec.post enc Tryz.prog Tryz.f5 false true false false) := by
  refine Ab.returns_shaped (C := Tryz.checked) (X := fun w _ => laidMetH Tryz.prog Rows.typesCanonicalRow.laid w) (fun _ _ _ hh h => h.of_heap hh) own started (by kernel_rfl) Tryz.func5
    (ChangeSpec.witness_shaped (enc := enc) (C := Tryz.checked) (os := os) (X := fun w _ => laidMetH Tryz.prog Rows.typesCanonicalRow.laid w) false (World.laidAll Tryz.prog os Rows.typesCanonicalRow.laid) #[.slice none 0 0, .int .i64 0, .int .i64 0] 8 (World.laidAll_os _ _ _)
      (World.shaped_of_ZipB (by kernel_rfl) (by kernel_rfl)) (by kernel_rfl) (by kernel_rfl) (by kernel_rfl)
      (by rw [MakeChecks.laidMetH_plain _ _ _ (by kernel_rfl)]; exact laidMet_laidAll _ (by kernel_rfl) (by kernel_rfl))) ?_
  intro W base args ds gs before hsh hval0 hW _ _ _
  have hval : ∀ (j : Nat) t v, Tryz.f5.params[j]? = some t → args[j]? = some v → Value.okWide Tryz.prog W .any base t v := hval0
  have hW' := hW
  obtain ⟨p, q, hA0, hV, rfl, _, _⟩ := hW
  have hA : DataW.TrodAll enc Tryz.prog W 0 (fun _ => true) true Tryz.f5.params.toList args.toList ds p := hA0
  rw [Tryz.params5] at hA hval
  obtain ⟨v0, v1, v2, d0, d1, d2, p0, p1, p2, rfl, rfl, rfl, h0, h1, h2⟩ := trodAll_three hA
  obtain ⟨rfl, rfl⟩ := trodVars_none hV
  obtain ⟨ρ, hρ⟩ := ArgBase.of (lies hsh)
  have hk0 := h0
  obtain ⟨a0, n0, c0, rfl⟩ := okWide_slice Tryz.underlying22 (hval 0 22 v0 rfl rfl)
  obtain ⟨fu0, hf0⟩ := h0
  obtain ⟨L0, l, cs0, le0, ok0, ⟨w0, rfl, hs_l⟩, hv0⟩ := entTys fu0 _ _ [] hf0 ArgOk.nil
  obtain ⟨hv0, -⟩ : VRel (argR ρ L0) w0 (.slice a0 n0 c0) ∧ True := by cases hv0 with | cons h _ => exact ⟨h, trivial⟩
  obtain ⟨t, rfl, rfl, rfl, wt⟩ := open_int Tryz.underlying3 (hval 1 3 v1 rfl rfl) h1
  obtain ⟨u, rfl, rfl, rfl, wu⟩ := open_int Tryz.underlying3 (hval 2 3 v2 rfl rfl) h2
  have hcalls := calls_args (plainNames_of names) mixed hρ ok0 (.cons hv0 (.cons (.int _ _) (.cons (.int _ _) (.nil)))) ((canonical_ok (t := t) (u := u) (Nat.zero_le _) (hs_l.mono argM_knows (RTy.mono argM_knows))).mono fun _ _ h => h.1) Tryz.func5 (by kernel_rfl)
  refine hcalls.mono fun e W' ⟨he, hk⟩ => ?_
  subst he
  exact ⟨_, rfl, Ab.post_law (pa := p0 ++ ([] ++ [])) (pv := []) hW' (fun _ _ _ => trodAll_mk1 (shut_bool Tryz.underlying4 _)) (fun sp hsp => trodAll_mk3 (still_trod (by kernel_rfl) (by kernel_rfl) (of_decide_eq_true (by kernel_rfl)) hk hk0 (fun p hp => hW'.lt p (by simp [hp])) (fun p hp => hsp p (by simp [hp]))) (shut_int Tryz.underlying3 wt) (shut_int Tryz.underlying3 wu)) (fun _ _ => rfl) (by simp) hk (ok_one (by kernel_rfl) rfl (okWide_bool_mk Tryz.underlying4 _))⟩

end Go.Proofs.YtmfbljaemhpokaaGreatDoor
