/-
  TypesAcross (equality of types of two tables) answers true for every input, and changes nothing. Conditions: those that the given row and card bear, and no others.
-/
import Derived.Test.YtmfbljaemhpokaaGreatDoorAcross2
import Derived.Test.YtmfbljaemhpokaaGreatDoorRun
import Derived.Test.YtmfbljaemhpokaaGreatDoorEnt
import Derived.Test.YtmfbljaemhpokaaGreatDoorRows
import Derived.Test.YtmfbljaemhpokaaGreatDoorCards
import Derived.Test.YtmfbljaemhpokaaGreatDoorTie
import Derived.ProofKit
import Derived.OpenShut
import Derived.ChangeMaps
import Derived.LaidMore
import Derived.Lay
import Derived.Carry
import Derived.SevenTiedAt
import Derived.Stop.Joined
import Derived.Lib.SmallJoins
namespace Go.Proofs.YtmfbljaemhpokaaGreatDoor
open Go Go.Ab Go.ChangeShapes Go.WideShapes Go.ChangeAt Go.RowKit
open Go.ChangeMaps (open_string shut_string)
set_option linter.unusedVariables false

set_option maxRecDepth 100000 in
theorem across_lifted (os : Os) (started : os.Started) (H : Type) (enc : TypeId × Value → H) :
    ReturnsInHanded {} Tryz.checked os 6 .any (fun w args => (Rows.typesAcrossSpec.pre enc Tryz.prog Tryz.f6 Rows.typesAcrossRow.domain false w args ∧ laidMetH Tryz.prog Rows.typesAcrossRow.laid w) ∧ sizedMet enc Tryz.prog Tryz.f6 (OpenSpec.ofChange Rows.typesAcrossSpec) false w args)
      (Rows.typesAcrossSpec.post enc Tryz.prog Tryz.f6 false true false false) := by
  refine Ab.returns_shaped (C := Tryz.checked) (X := fun w _ => laidMetH Tryz.prog Rows.typesAcrossRow.laid w) (fun _ _ _ hh h => h.of_heap hh) own started (by kernel_rfl) Tryz.func6
    (ChangeSpec.witness_shaped (enc := enc) (C := Tryz.checked) (os := os) (X := fun w _ => laidMetH Tryz.prog Rows.typesAcrossRow.laid w) false (World.laidAll Tryz.prog os Rows.typesAcrossRow.laid) #[.agg #[.slice none 0 0, .slice none 0 0], .int .i64 0, .int .i64 0] 8 (World.laidAll_os _ _ _)
      (World.shaped_of_ZipB (by kernel_rfl) (by kernel_rfl)) (by kernel_rfl) (by kernel_rfl) (by kernel_rfl)
      (by rw [MakeChecks.laidMetH_plain _ _ _ (by kernel_rfl)]; exact laidMet_laidAll _ (by kernel_rfl) (by kernel_rfl))) ?_
  intro W base args ds gs before hsh hval0 hW _ _ _
  have hval : ∀ (j : Nat) t v, Tryz.f6.params[j]? = some t → args[j]? = some v → Value.okWide Tryz.prog W .any base t v := hval0
  have hW' := hW
  obtain ⟨p, q, hA0, hV, rfl, _, _⟩ := hW
  have hA : DataW.TrodAll enc Tryz.prog W 0 (fun _ => true) true Tryz.f6.params.toList args.toList ds p := hA0
  rw [Tryz.params6] at hA hval
  obtain ⟨v0, v1, v2, d0, d1, d2, p0, p1, p2, rfl, rfl, rfl, h0, h1, h2⟩ := trodAll_three hA
  obtain ⟨rfl, rfl⟩ := trodVars_none hV
  obtain ⟨ρ, hρ⟩ := ArgBase.of (lies hsh)
  have hk0 := h0
  obtain ⟨ua0, ub0, ya0, yb0, fu0, rfl, -, -, ta0, tb0⟩ := Joins.open_agg2 Tryz.underlying38 (by kernel_rfl) (by kernel_rfl) (hval 0 38 v0 rfl rfl) h0
  obtain ⟨La0, l, csa0, lea0, oka0, ⟨wa0, rfl, hs_l⟩, hva0⟩ := entTys fu0 _ _ [] ta0 ArgOk.nil
  obtain ⟨hva0, -⟩ : VRel (argR ρ La0) wa0 ua0 ∧ True := by cases hva0 with | cons h _ => exact ⟨h, trivial⟩
  obtain ⟨Lb0, l2, csb0, leb0, okb0, ⟨wb0, rfl, hs_l2⟩, hvb0⟩ := entTys fu0 _ _ La0 tb0 oka0
  obtain ⟨hvb0, -⟩ : VRel (argR ρ Lb0) wb0 ub0 ∧ True := by cases hvb0 with | cons h _ => exact ⟨h, trivial⟩
  replace hs_l := hs_l.mono (KA.mono leb0) (RTy.mono (KA.mono leb0))
  replace hva0 := hva0.mono (argR_le leb0)
  obtain ⟨t, rfl, rfl, rfl, wt⟩ := open_int Tryz.underlying3 (hval 1 3 v1 rfl rfl) h1
  obtain ⟨u, rfl, rfl, rfl, wu⟩ := open_int Tryz.underlying3 (hval 2 3 v2 rfl rfl) h2
  have hcalls := calls_args (plainNames_of names) mixed hρ okb0 (.cons (.agg (.cons hva0 (.cons hvb0 .nil))) (.cons (.int _ _) (.cons (.int _ _) (.nil)))) ((tacross_ok (t := t) (u := u) (Nat.zero_le _) (hs_l.mono argM_knows (RTy.mono argM_knows)) (hs_l2.mono argM_knows (RTy.mono argM_knows))).mono fun _ _ h => h.1) Tryz.func6 (by kernel_rfl)
  refine hcalls.mono fun e W' ⟨he, hk⟩ => ?_
  subst he
  exact ⟨_, rfl, Ab.post_law (pa := p0 ++ ([] ++ [])) (pv := []) hW' (fun _ _ _ => trodAll_mk1 (shut_bool Tryz.underlying4 _)) (fun sp hsp => trodAll_mk3 (still_trod (by kernel_rfl) (by kernel_rfl) (of_decide_eq_true (by kernel_rfl)) hk hk0 (fun p hp => hW'.lt p (by simp [hp])) (fun p hp => hsp p (by simp [hp]))) (shut_int Tryz.underlying3 wt) (shut_int Tryz.underlying3 wu)) (fun _ _ => rfl) (by simp) hk (ok_one (by kernel_rfl) rfl (okWide_bool_mk Tryz.underlying4 _))⟩

end Go.Proofs.YtmfbljaemhpokaaGreatDoor
