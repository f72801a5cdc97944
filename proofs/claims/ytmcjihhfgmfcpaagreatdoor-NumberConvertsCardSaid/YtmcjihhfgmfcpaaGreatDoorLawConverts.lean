/-
  NumberConverts (conversions among kinds) answers true for every input, and changes nothing. Conditions: those that the given row and card bear, and no others.
-/
import Derived.Test.YtmcjihhfgmfcpaaGreatDoorConverts0
import Derived.Test.YtmcjihhfgmfcpaaGreatDoorCards
import Derived.Test.YtmcjihhfgmfcpaaGreatDoorTie
import Derived.ProofKit
import Derived.OpenShut
import Derived.Lib.SmallJoins
import Derived.ChangeMaps
import Derived.LaidMore
import Derived.Lay
import Derived.SevenTiedAt
import Derived.Stop.Joined
namespace Go.Proofs.YtmcjihhfgmfcpaaGreatDoor
open Go Go.Ab Go.ChangeShapes Go.WideShapes Go.ChangeAt Go.RowKit
open Go.ChangeMaps (open_string shut_string)
theorem converts_fc (kf kt n : Int) (hn : Fit .i64 n) {m : AW} (hm : m.lo ≤ m.next) (hlay : LaidAt lays m) : Fc Tryz.prog 11 [.int .i64 kf, .int .i64 kt, .int .i64 n] m fun v m' => v = .bool true := by
  by_cases f1 : kf = 1
  · subst f1
    by_cases t1 : kt = 1
    · subst t1
      exact (converts_law hm hlay (fun hm => Convert_u8_u8 hm hn) (fun hm => Kind_u8 hm) (fun hm => Kind_u8 hm) (fun hm => RConvert_u8_u8 hm hn)).mono fun _ _ h => h.1
    by_cases t2 : kt = 2
    · subst t2
      exact (converts_law hm hlay (fun hm => Convert_u8_i32 hm hn) (fun hm => Kind_u8 hm) (fun hm => Kind_i32 hm) (fun hm => RConvert_u8_i32 hm hn)).mono fun _ _ h => h.1
    by_cases t3 : kt = 3
    · subst t3
      exact (converts_law hm hlay (fun hm => Convert_u8_i64 hm hn) (fun hm => Kind_u8 hm) (fun hm => Kind_i64 hm) (fun hm => RConvert_u8_i64 hm hn)).mono fun _ _ h => h.1
    by_cases t4 : kt = 4
    · subst t4
      exact (converts_law hm hlay (fun hm => Convert_u8_real hm hn) (fun hm => Kind_u8 hm) (fun hm => Kind_real hm) (fun hm => RConvert_u8_real hm hn)).mono fun _ _ h => h.1
    exact (converts_t hm hlay (fun hm => Convert_u8_none hm t1 t2 t3 t4) (fun hm => Kind_u8 hm) (fun hm => Kind_none hm t1 t2 t3 t4)).mono fun _ _ h => h.1
  by_cases f2 : kf = 2
  · subst f2
    by_cases t1 : kt = 1
    · subst t1
      exact (converts_law hm hlay (fun hm => Convert_i32_u8 hm hn) (fun hm => Kind_i32 hm) (fun hm => Kind_u8 hm) (fun hm => RConvert_i32_u8 hm hn)).mono fun _ _ h => h.1
    by_cases t2 : kt = 2
    · subst t2
      exact (converts_law hm hlay (fun hm => Convert_i32_i32 hm hn) (fun hm => Kind_i32 hm) (fun hm => Kind_i32 hm) (fun hm => RConvert_i32_i32 hm hn)).mono fun _ _ h => h.1
    by_cases t3 : kt = 3
    · subst t3
      exact (converts_law hm hlay (fun hm => Convert_i32_i64 hm hn) (fun hm => Kind_i32 hm) (fun hm => Kind_i64 hm) (fun hm => RConvert_i32_i64 hm hn)).mono fun _ _ h => h.1
    by_cases t4 : kt = 4
    · subst t4
      exact (converts_law hm hlay (fun hm => Convert_i32_real hm hn) (fun hm => Kind_i32 hm) (fun hm => Kind_real hm) (fun hm => RConvert_i32_real hm hn)).mono fun _ _ h => h.1
    exact (converts_t hm hlay (fun hm => Convert_i32_none hm t1 t2 t3 t4) (fun hm => Kind_i32 hm) (fun hm => Kind_none hm t1 t2 t3 t4)).mono fun _ _ h => h.1
  by_cases f3 : kf = 3
  · subst f3
    by_cases t1 : kt = 1
    · subst t1
      exact (converts_law hm hlay (fun hm => Convert_i64_u8 hm hn) (fun hm => Kind_i64 hm) (fun hm => Kind_u8 hm) (fun hm => RConvert_i64_u8 hm hn)).mono fun _ _ h => h.1
    by_cases t2 : kt = 2
    · subst t2
      exact (converts_law hm hlay (fun hm => Convert_i64_i32 hm hn) (fun hm => Kind_i64 hm) (fun hm => Kind_i32 hm) (fun hm => RConvert_i64_i32 hm hn)).mono fun _ _ h => h.1
    by_cases t3 : kt = 3
    · subst t3
      exact (converts_law hm hlay (fun hm => Convert_i64_i64 hm hn) (fun hm => Kind_i64 hm) (fun hm => Kind_i64 hm) (fun hm => RConvert_i64_i64 hm hn)).mono fun _ _ h => h.1
    by_cases t4 : kt = 4
    · subst t4
      exact (converts_law hm hlay (fun hm => Convert_i64_real hm hn) (fun hm => Kind_i64 hm) (fun hm => Kind_real hm) (fun hm => RConvert_i64_real hm hn)).mono fun _ _ h => h.1
    exact (converts_t hm hlay (fun hm => Convert_i64_none hm t1 t2 t3 t4) (fun hm => Kind_i64 hm) (fun hm => Kind_none hm t1 t2 t3 t4)).mono fun _ _ h => h.1
  by_cases f4 : kf = 4
  · subst f4
    by_cases t1 : kt = 1
    · subst t1
      exact (converts_law hm hlay (fun hm => Convert_real_u8 hm hn) (fun hm => Kind_real hm) (fun hm => Kind_u8 hm) (fun hm => RConvert_real_u8 hm hn)).mono fun _ _ h => h.1
    by_cases t2 : kt = 2
    · subst t2
      exact (converts_law hm hlay (fun hm => Convert_real_i32 hm hn) (fun hm => Kind_real hm) (fun hm => Kind_i32 hm) (fun hm => RConvert_real_i32 hm hn)).mono fun _ _ h => h.1
    by_cases t3 : kt = 3
    · subst t3
      exact (converts_law hm hlay (fun hm => Convert_real_i64 hm hn) (fun hm => Kind_real hm) (fun hm => Kind_i64 hm) (fun hm => RConvert_real_i64 hm hn)).mono fun _ _ h => h.1
    by_cases t4 : kt = 4
    · subst t4
      exact (converts_law hm hlay (fun hm => Convert_real_real hm hn) (fun hm => Kind_real hm) (fun hm => Kind_real hm) (fun hm => RConvert_real_real hm hn)).mono fun _ _ h => h.1
    exact (converts_t hm hlay (fun hm => Convert_real_none hm t1 t2 t3 t4) (fun hm => Kind_real hm) (fun hm => Kind_none hm t1 t2 t3 t4)).mono fun _ _ h => h.1
  exact (converts_f hm hlay (fun hm => Convert_none hm f1 f2 f3 f4) (fun hm => Kind_none hm f1 f2 f3 f4)).mono fun _ _ h => h.1
theorem converts_calls (kf : Int) (kt : Int) (n : Int) (wkf : (Lit.int .i64 kf).wf = true) (wkt : (Lit.int .i64 kt).wf = true) (wn : (Lit.int .i64 n).wf = true) {W : World} (hl : LiesBy Tryz.prog W lays) : Calls Tryz.prog 11 #[.int .i64 kf, .int .i64 kt, .int .i64 n] W fun e W' => e = .returned (.bool true) ∧ Still W W' :=
  calls_fc (plainNames_of names) mixed (fun tt => converts_fc kf kt n (fit_wf wn) (Nat.zero_le _) (laid0 tt)) Tryz.func11 (by kernel_rfl) hl (by kernel_rfl) (fun _ => .cons (.int _ _) (.cons (.int _ _) (.cons (.int _ _) (.nil))))

set_option maxRecDepth 100000 in
theorem converts_lifted (os : Os) (started : os.Started) (H : Type) (enc : TypeId × Value → H) :
    ReturnsInHanded {} Tryz.checked os 11 .any (fun w args => (Rows.numberConvertsSpec.pre enc Tryz.prog Tryz.f11 Rows.numberConvertsRow.domain false w args ∧ laidMetH Tryz.prog Rows.numberConvertsRow.laid w) ∧ sizedMet enc Tryz.prog Tryz.f11 (OpenSpec.ofChange Rows.numberConvertsSpec) false w args)
      (Rows.numberConvertsSpec.post enc Tryz.prog Tryz.f11 false true false false) := by
  refine Ab.returns_shaped (C := Tryz.checked) (X := fun w _ => laidMetH Tryz.prog Rows.numberConvertsRow.laid w) (fun _ _ _ hh h => h.of_heap hh) own started (by kernel_rfl) Tryz.func11
    (ChangeSpec.witness_shaped (enc := enc) (C := Tryz.checked) (os := os) (X := fun w _ => laidMetH Tryz.prog Rows.numberConvertsRow.laid w) false (World.laidAll Tryz.prog os Rows.numberConvertsRow.laid) #[.int .i64 0, .int .i64 0, .int .i64 0] 8 (World.laidAll_os _ _ _)
      (World.shaped_of_ZipB (by kernel_rfl) (by kernel_rfl)) (by kernel_rfl) (by kernel_rfl) (by kernel_rfl)
      (by rw [MakeChecks.laidMetH_plain _ _ _ (by kernel_rfl)]; exact laidMet_laidAll _ (by kernel_rfl) (by kernel_rfl))) ?_
  intro W base args ds gs before hsh hval0 hW _ _ hL
  have hval : ∀ (j : Nat) t v, Tryz.f11.params[j]? = some t → args[j]? = some v → Value.okWide Tryz.prog W .any base t v := hval0
  have hW' := hW
  obtain ⟨p, q, hA0, hV, rfl, _, _⟩ := hW
  have hA : DataW.TrodAll enc Tryz.prog W 0 (fun _ => true) true Tryz.f11.params.toList args.toList ds p := hA0
  rw [Tryz.params11] at hA hval
  obtain ⟨v0, v1, v2, d0, d1, d2, p0, p1, p2, rfl, rfl, rfl, h0, h1, h2⟩ := trodAll_three hA
  obtain ⟨rfl, rfl⟩ := trodVars_none hV
  obtain ⟨kf, rfl, rfl, rfl, wkf⟩ := open_int Tryz.underlying3 (hval 0 3 v0 rfl rfl) h0
  obtain ⟨kt, rfl, rfl, rfl, wkt⟩ := open_int Tryz.underlying3 (hval 1 3 v1 rfl rfl) h1
  obtain ⟨n, rfl, rfl, rfl, wn⟩ := open_int Tryz.underlying2 (hval 2 2 v2 rfl rfl) h2
  simp only [List.append_nil] at hW'
  refine (converts_calls kf kt n wkf wkt wn (lies hsh hL)).mono fun e W' ⟨he, hk⟩ => ?_
  subst he
  exact ⟨_, rfl, Ab.post_law (pa := []) (pv := []) hW' (fun _ _ _ => trodAll_mk1 (shut_bool Tryz.underlying4 _)) (fun sp _ => trodAll_mk3 (shut_int Tryz.underlying3 wkf) (shut_int Tryz.underlying3 wkt) (shut_int Tryz.underlying2 wn)) (fun _ _ => rfl) rfl hk (ok_one (by kernel_rfl) rfl (okWide_bool_mk Tryz.underlying4 _))⟩

end Go.Proofs.YtmcjihhfgmfcpaaGreatDoor
