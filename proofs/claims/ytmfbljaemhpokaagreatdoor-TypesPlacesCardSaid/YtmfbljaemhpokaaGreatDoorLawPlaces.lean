/-
  TypesPlaces (sizes, places and indices of fields and parts) answers true for every input, and changes nothing. Conditions: those that the given row and card bear, and no others.
-/
import Derived.Test.YtmfbljaemhpokaaGreatDoorPlaces2
import Derived.Test.YtmfbljaemhpokaaGreatDoorRun
import Derived.Test.YtmfbljaemhpokaaGreatDoorEnt
import Derived.Test.YtmfbljaemhpokaaGreatDoorRows
import Derived.Test.YtmfbljaemhpokaaGreatDoorCards
import Derived.Test.YtmfbljaemhpokaaGreatDoorTie
import Derived.ProofKit
import Derived.OpenShut
import Derived.ChangeMaps
import Derived.LaidMore
import Derived.Lay
import Derived.Carry
import Derived.SevenTiedAt
import Derived.Stop.Joined
import Derived.Lib.SmallJoins
namespace Go.Proofs.YtmfbljaemhpokaaGreatDoor
open Go Go.Ab Go.ChangeShapes Go.WideShapes Go.ChangeAt Go.RowKit
open Go.ChangeMaps (open_string shut_string)
set_option linter.unusedVariables false
set_option maxRecDepth 100000 in
theorem open_spot {H : Type} {enc : TypeId × Value → H} {W : World} {base b0 : Nat} {sp : Nat → Bool} {hd : Bool} {v : Value} {d : DataW H} {p : List MemPlace} (hv : Value.okWide Tryz.prog W .any b0 61 v) (h : DataW.Trod enc Tryz.prog W base sp hd 61 v d p) :
    ∃ (t : Int) (s : ByteArray) (k : Int) (n : ByteArray), v = .agg #[.int .i64 t, .string s, .int .i64 k, .string n] := by
  obtain ⟨v0, v1, v2, v3, y0, y1, y2, y3, m, rfl, rfl, rfl, t0, t1, t2, t3⟩ := Joins.open_agg4 Tryz.underlying61 (by kernel_rfl) (by kernel_rfl) hv h
  obtain ⟨t, e0, _, _⟩ := DataW.trod_int Tryz.underlying3 t0
  obtain ⟨s, e1, _, _⟩ := DataW.trod_string Tryz.underlying9 t1
  obtain ⟨k, e2, _, _⟩ := DataW.trod_int Tryz.underlying3 t2
  obtain ⟨n, e3, _, _⟩ := DataW.trod_string Tryz.underlying9 t3
  cases e0; cases e1; cases e2; cases e3
  exact ⟨t, s, k, n, rfl⟩


set_option maxRecDepth 100000 in
theorem places_lifted (os : Os) (started : os.Started) (H : Type) (enc : TypeId × Value → H) :
    ReturnsInHanded {} Tryz.checked os 8 .any (fun w args => (Rows.typesPlacesSpec.pre enc Tryz.prog Tryz.f8 Rows.typesPlacesRow.domain false w args ∧ laidMetH Tryz.prog Rows.typesPlacesRow.laid w) ∧ sizedMet enc Tryz.prog Tryz.f8 (OpenSpec.ofChange Rows.typesPlacesSpec) false w args)
      (Rows.typesPlacesSpec.post enc Tryz.prog Tryz.f8 false true false false) := by
  refine Ab.returns_shaped (C := Tryz.checked) (X := fun w _ => laidMetH Tryz.prog Rows.typesPlacesRow.laid w) (fun _ _ _ hh h => h.of_heap hh) own started (by kernel_rfl) Tryz.func8
    (ChangeSpec.witness_shaped (enc := enc) (C := Tryz.checked) (os := os) (X := fun w _ => laidMetH Tryz.prog Rows.typesPlacesRow.laid w) false (World.laidAll Tryz.prog os Rows.typesPlacesRow.laid) #[.slice none 0 0, .agg #[.int .i64 0, .string ⟨#[]⟩, .int .i64 0, .string ⟨#[]⟩]] 8 (World.laidAll_os _ _ _)
      (World.shaped_of_ZipB (by kernel_rfl) (by kernel_rfl)) (by kernel_rfl) (by kernel_rfl) (by kernel_rfl)
      (by rw [MakeChecks.laidMetH_plain _ _ _ (by kernel_rfl)]; exact laidMet_laidAll _ (by kernel_rfl) (by kernel_rfl))) ?_
  intro W base args ds gs before hsh hval0 hW _ _ _
  have hval : ∀ (j : Nat) t v, Tryz.f8.params[j]? = some t → args[j]? = some v → Value.okWide Tryz.prog W .any base t v := hval0
  have hW' := hW
  obtain ⟨p, q, hA0, hV, rfl, _, _⟩ := hW
  have hA : DataW.TrodAll enc Tryz.prog W 0 (fun _ => true) true Tryz.f8.params.toList args.toList ds p := hA0
  rw [Tryz.params8] at hA hval
  obtain ⟨v0, v1, d0, d1, p0, p1, rfl, rfl, rfl, h0, h1⟩ := trodAll_two hA
  obtain ⟨rfl, rfl⟩ := trodVars_none hV
  obtain ⟨ρ, hρ⟩ := ArgBase.of (lies hsh)
  have hk0 := h0
  obtain ⟨a0, n0, c0, rfl⟩ := okWide_slice Tryz.underlying22 (hval 0 22 v0 rfl rfl)
  obtain ⟨fu0, hf0⟩ := h0
  obtain ⟨L0, l, cs0, le0, ok0, ⟨w0, rfl, hs_l⟩, hv0⟩ := entTys fu0 _ _ [] hf0 ArgOk.nil
  obtain ⟨hv0, -⟩ : VRel (argR ρ L0) w0 (.slice a0 n0 c0) ∧ True := by cases hv0 with | cons h _ => exact ⟨h, trivial⟩
  have hk1 := h1
  obtain ⟨t, s, k, n, rfl⟩ := open_spot (hval 1 61 v1 rfl rfl) h1
  have hcalls := calls_args (plainNames_of names) mixed hρ ok0 (.cons hv0 (.cons (.agg (.cons (.int _ _) (.cons (.string _) (.cons (.int _ _) (.cons (.string _) .nil))))) (.nil))) ((places_ok (t := t) (k := k) (s := s) (n := n) (Nat.zero_le _) (hs_l.mono argM_knows (RTy.mono argM_knows))).mono fun _ _ h => h.1) Tryz.func8 (by kernel_rfl)
  refine hcalls.mono fun e W' ⟨he, hk⟩ => ?_
  subst he
  exact ⟨_, rfl, Ab.post_law (pa := p0 ++ p1) (pv := []) hW' (fun _ _ _ => trodAll_mk1 (shut_bool Tryz.underlying4 _)) (fun sp hsp => trodAll_mk2 (still_trod (by kernel_rfl) (by kernel_rfl) (of_decide_eq_true (by kernel_rfl)) hk hk0 (fun p hp => hW'.lt p (by simp [hp])) (fun p hp => hsp p (by simp [hp]))) (still_trod (by kernel_rfl) (by kernel_rfl) (of_decide_eq_true (by kernel_rfl)) hk hk1 (fun p hp => hW'.lt p (by simp [hp])) (fun p hp => hsp p (by simp [hp])))) (fun _ _ => rfl) (by simp) hk (ok_one (by kernel_rfl) rfl (okWide_bool_mk Tryz.underlying4 _))⟩

end Go.Proofs.YtmfbljaemhpokaaGreatDoor
