/-
  NumberShifts (shifts are products and repeated shifts) answers true for every input, and changes nothing. Conditions: those that the given row and card bear, and no others.
-/
import Derived.Test.YtmcjihhfgmfcpaaGreatDoorShifts0
import Derived.Test.YtmcjihhfgmfcpaaGreatDoorCards
import Derived.Test.YtmcjihhfgmfcpaaGreatDoorTie
import Derived.ProofKit
import Derived.OpenShut
import Derived.ChangeMaps
import Derived.LaidMore
import Derived.Lay
import Derived.SevenTiedAt
import Derived.Stop.Joined
namespace Go.Proofs.YtmcjihhfgmfcpaaGreatDoor
open Go Go.Ab Go.ChangeShapes Go.WideShapes Go.ChangeAt Go.RowKit
open Go.ChangeMaps (open_string shut_string)
theorem shifts_fc (kind a k : Int) (ha : Fit .i64 a) (hk : Fit .u8 k) {m : AW} (hm : m.lo ≤ m.next) (hl : LaidAt lays m) : Fc Tryz.prog 5 [.int .i64 kind, .int .i64 a, .int .u8 k] m fun v _ => v = .bool true := by
  obtain ⟨h8, h9⟩ := hk.range
  simp only [IntKind.min, IntKind.max, IntKind.signed, IntKind.bits, Bool.false_eq_true, if_false, Int.reducePow, Int.reduceSub] at h8 h9
  obtain ⟨c, rfl⟩ := Int.eq_ofNat_of_zero_le h8
  have hc : c < 256 := by omega
  by_cases h1 : kind = 1
  · subst h1
    by_cases h0 : c % 8 = 8 - 1
    · exact (shifts_u8_1 hm hl ha hc h0).mono fun _ _ h => h.1
    · exact (shifts_u8_0 hm hl ha hc (by omega)).mono fun _ _ h => h.1
  by_cases h2 : kind = 2
  · subst h2
    by_cases h0 : c % 32 = 32 - 1
    · exact (shifts_i32_1 hm hl ha hc h0).mono fun _ _ h => h.1
    · exact (shifts_i32_0 hm hl ha hc (by omega)).mono fun _ _ h => h.1
  by_cases h3 : kind = 3
  · subst h3
    by_cases h0 : c % 64 = 64 - 1
    · exact (shifts_i64_1 hm hl ha hc h0).mono fun _ _ h => h.1
    · exact (shifts_i64_0 hm hl ha hc (by omega)).mono fun _ _ h => h.1
  exact (shifts_other hm hl h1 h2 h3).mono fun _ _ h => h.1
theorem shifts_calls (kind : Int) (a : Int) (k : Int) (wkind : (Lit.int .i64 kind).wf = true) (wa : (Lit.int .i64 a).wf = true) (wk : (Lit.int .u8 k).wf = true) {W : World} (hl : LiesBy Tryz.prog W lays) : Calls Tryz.prog 5 #[.int .i64 kind, .int .i64 a, .int .u8 k] W fun e W' => e = .returned (.bool true) ∧ Still W W' :=
  calls_fc (plainNames_of names) mixed (fun tt => shifts_fc kind a k (fit_wf wa) (fit_wf wk) (Nat.zero_le _) (laid0 tt)) Tryz.func5 (by kernel_rfl) hl (by kernel_rfl) (fun _ => .cons (.int _ _) (.cons (.int _ _) (.cons (.int _ _) (.nil))))

set_option maxRecDepth 100000 in
theorem shifts_lifted (os : Os) (started : os.Started) (H : Type) (enc : TypeId × Value → H) :
    ReturnsInHanded {} Tryz.checked os 5 .any (fun w args => (Rows.numberShiftsSpec.pre enc Tryz.prog Tryz.f5 Rows.numberShiftsRow.domain false w args ∧ laidMetH Tryz.prog Rows.numberShiftsRow.laid w) ∧ sizedMet enc Tryz.prog Tryz.f5 (OpenSpec.ofChange Rows.numberShiftsSpec) false w args)
      (Rows.numberShiftsSpec.post enc Tryz.prog Tryz.f5 false true false false) := by
  refine Ab.returns_shaped (C := Tryz.checked) (X := fun w _ => laidMetH Tryz.prog Rows.numberShiftsRow.laid w) (fun _ _ _ hh h => h.of_heap hh) own started (by kernel_rfl) Tryz.func5
    (ChangeSpec.witness_shaped (enc := enc) (C := Tryz.checked) (os := os) (X := fun w _ => laidMetH Tryz.prog Rows.numberShiftsRow.laid w) false (World.laidAll Tryz.prog os Rows.numberShiftsRow.laid) #[.int .i64 0, .int .i64 0, .int .u8 0] 8 (World.laidAll_os _ _ _)
      (World.shaped_of_ZipB (by kernel_rfl) (by kernel_rfl)) (by kernel_rfl) (by kernel_rfl) (by kernel_rfl)
      (by rw [MakeChecks.laidMetH_plain _ _ _ (by kernel_rfl)]; exact laidMet_laidAll _ (by kernel_rfl) (by kernel_rfl))) ?_
  intro W base args ds gs before hsh hval0 hW _ _ hL
  have hval : ∀ (j : Nat) t v, Tryz.f5.params[j]? = some t → args[j]? = some v → Value.okWide Tryz.prog W .any base t v := hval0
  have hW' := hW
  obtain ⟨p, q, hA0, hV, rfl, _, _⟩ := hW
  have hA : DataW.TrodAll enc Tryz.prog W 0 (fun _ => true) true Tryz.f5.params.toList args.toList ds p := hA0
  rw [Tryz.params5] at hA hval
  obtain ⟨v0, v1, v2, d0, d1, d2, p0, p1, p2, rfl, rfl, rfl, h0, h1, h2⟩ := trodAll_three hA
  obtain ⟨rfl, rfl⟩ := trodVars_none hV
  obtain ⟨kind, rfl, rfl, rfl, wkind⟩ := open_int Tryz.underlying3 (hval 0 3 v0 rfl rfl) h0
  obtain ⟨a, rfl, rfl, rfl, wa⟩ := open_int Tryz.underlying2 (hval 1 2 v1 rfl rfl) h1
  obtain ⟨k, rfl, rfl, rfl, wk⟩ := open_int Tryz.underlying5 (hval 2 5 v2 rfl rfl) h2
  simp only [List.append_nil] at hW'
  refine (shifts_calls kind a k wkind wa wk (lies hsh hL)).mono fun e W' ⟨he, hk⟩ => ?_
  subst he
  exact ⟨_, rfl, Ab.post_law (pa := []) (pv := []) hW' (fun _ _ _ => trodAll_mk1 (shut_bool Tryz.underlying4 _)) (fun sp _ => trodAll_mk3 (shut_int Tryz.underlying3 wkind) (shut_int Tryz.underlying2 wa) (shut_int Tryz.underlying5 wk)) (fun _ _ => rfl) rfl hk (ok_one (by kernel_rfl) rfl (okWide_bool_mk Tryz.underlying4 _))⟩

end Go.Proofs.YtmcjihhfgmfcpaaGreatDoor
