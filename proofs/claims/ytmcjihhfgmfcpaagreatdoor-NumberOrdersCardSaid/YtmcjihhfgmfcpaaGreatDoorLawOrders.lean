/-
  NumberOrders (exactly one of less, equal, greater) answers true for every input, and changes nothing. Conditions: those that the given row and card bear, and no others.
-/
import Derived.Test.YtmcjihhfgmfcpaaGreatDoorOrders1
import Derived.Test.YtmcjihhfgmfcpaaGreatDoorCards
import Derived.Test.YtmcjihhfgmfcpaaGreatDoorTie
import Derived.ProofKit
import Derived.OpenShut
import Derived.Lib.SmallJoins
import Derived.ChangeMaps
import Derived.LaidMore
import Derived.Lay
import Derived.SevenTiedAt
import Derived.Stop.Joined
namespace Go.Proofs.YtmcjihhfgmfcpaaGreatDoor
open Go Go.Ab Go.ChangeShapes Go.WideShapes Go.ChangeAt Go.RowKit
open Go.ChangeMaps (open_string shut_string)
theorem orders_fc (kind a b : Int) (ha : Fit .i64 a) (hb : Fit .i64 b) {m : AW} (hm : m.lo ≤ m.next) (hlay : LaidAt lays m) : Fc Tryz.prog 10 [.int .i64 kind, .int .i64 a, .int .i64 b] m fun v _ => v = .bool true := by
  by_cases h1 : kind = 1
  · subst h1
    rcases tri (wr .u8 a) (wr .u8 b) with ⟨hl, hq, hg⟩ | ⟨hl, hq, hg⟩ | ⟨hl, hq, hg⟩
    · exact (orders_u8_lt hm hlay ha hb hl hq hg).mono fun _ _ h => h.1
    · exact (orders_u8_eq hm hlay ha hb hl hq hg).mono fun _ _ h => h.1
    · exact (orders_u8_gt hm hlay ha hb hl hq hg).mono fun _ _ h => h.1
  by_cases h2 : kind = 2
  · subst h2
    rcases tri (wr .i32 a) (wr .i32 b) with ⟨hl, hq, hg⟩ | ⟨hl, hq, hg⟩ | ⟨hl, hq, hg⟩
    · exact (orders_i32_lt hm hlay ha hb hl hq hg).mono fun _ _ h => h.1
    · exact (orders_i32_eq hm hlay ha hb hl hq hg).mono fun _ _ h => h.1
    · exact (orders_i32_gt hm hlay ha hb hl hq hg).mono fun _ _ h => h.1
  by_cases h3 : kind = 3
  · subst h3
    rcases tri (wr .i64 a) (wr .i64 b) with ⟨hl, hq, hg⟩ | ⟨hl, hq, hg⟩ | ⟨hl, hq, hg⟩
    · exact (orders_i64_lt hm hlay ha hb hl hq hg).mono fun _ _ h => h.1
    · exact (orders_i64_eq hm hlay ha hb hl hq hg).mono fun _ _ h => h.1
    · exact (orders_i64_gt hm hlay ha hb hl hq hg).mono fun _ _ h => h.1
  by_cases h4 : kind = 4
  · subst h4
    by_cases n1 : w4 a = 9221120237041090561
    · obtain ⟨hl, hq, _, hg⟩ := nanF (flb (w4 a)) (flb (w4 b)) (.inl (w4_nan n1))
      exact (orders_nan1 hm hlay ha hb hl hq hg n1).mono fun _ _ h => h.1
    by_cases n2 : w4 b = 9221120237041090561
    · obtain ⟨hl, hq, _, hg⟩ := nanF (flb (w4 a)) (flb (w4 b)) (.inr (w4_nan n2))
      exact (orders_nan2 hm hlay ha hb hl hq hg n1 n2).mono fun _ _ h => h.1
    rcases triF (flb (w4 a)) (flb (w4 b)) (w4_num n1) (w4_num n2) with ⟨hl, hq, _, hg⟩ | ⟨hl, hq, _, hg⟩ | ⟨hl, hq, _, hg⟩
    · exact (orders_real_lt hm hlay ha hb hl hq hg n1 n2).mono fun _ _ h => h.1
    · exact (orders_real_eq hm hlay ha hb hl hq hg n1 n2).mono fun _ _ h => h.1
    · exact (orders_real_gt hm hlay ha hb hl hq hg n1 n2).mono fun _ _ h => h.1
  exact (orders_none hm hlay h1 h2 h3 h4).mono fun _ _ h => h.1
theorem orders_calls (kind : Int) (a : Int) (b : Int) (wkind : (Lit.int .i64 kind).wf = true) (wa : (Lit.int .i64 a).wf = true) (wb : (Lit.int .i64 b).wf = true) {W : World} (hl : LiesBy Tryz.prog W lays) : Calls Tryz.prog 10 #[.int .i64 kind, .int .i64 a, .int .i64 b] W fun e W' => e = .returned (.bool true) ∧ Still W W' :=
  calls_fc (plainNames_of names) mixed (fun tt => orders_fc kind a b (fit_wf wa) (fit_wf wb) (Nat.zero_le _) (laid0 tt)) Tryz.func10 (by kernel_rfl) hl (by kernel_rfl) (fun _ => .cons (.int _ _) (.cons (.int _ _) (.cons (.int _ _) (.nil))))

set_option maxRecDepth 100000 in
theorem orders_lifted (os : Os) (started : os.Started) (H : Type) (enc : TypeId × Value → H) :
    ReturnsInHanded {} Tryz.checked os 10 .any (fun w args => (Rows.numberOrdersSpec.pre enc Tryz.prog Tryz.f10 Rows.numberOrdersRow.domain false w args ∧ laidMetH Tryz.prog Rows.numberOrdersRow.laid w) ∧ sizedMet enc Tryz.prog Tryz.f10 (OpenSpec.ofChange Rows.numberOrdersSpec) false w args)
      (Rows.numberOrdersSpec.post enc Tryz.prog Tryz.f10 false true false false) := by
  refine Ab.returns_shaped (C := Tryz.checked) (X := fun w _ => laidMetH Tryz.prog Rows.numberOrdersRow.laid w) (fun _ _ _ hh h => h.of_heap hh) own started (by kernel_rfl) Tryz.func10
    (ChangeSpec.witness_shaped (enc := enc) (C := Tryz.checked) (os := os) (X := fun w _ => laidMetH Tryz.prog Rows.numberOrdersRow.laid w) false (World.laidAll Tryz.prog os Rows.numberOrdersRow.laid) #[.int .i64 0, .int .i64 0, .int .i64 0] 8 (World.laidAll_os _ _ _)
      (World.shaped_of_ZipB (by kernel_rfl) (by kernel_rfl)) (by kernel_rfl) (by kernel_rfl) (by kernel_rfl)
      (by rw [MakeChecks.laidMetH_plain _ _ _ (by kernel_rfl)]; exact laidMet_laidAll _ (by kernel_rfl) (by kernel_rfl))) ?_
  intro W base args ds gs before hsh hval0 hW _ _ hL
  have hval : ∀ (j : Nat) t v, Tryz.f10.params[j]? = some t → args[j]? = some v → Value.okWide Tryz.prog W .any base t v := hval0
  have hW' := hW
  obtain ⟨p, q, hA0, hV, rfl, _, _⟩ := hW
  have hA : DataW.TrodAll enc Tryz.prog W 0 (fun _ => true) true Tryz.f10.params.toList args.toList ds p := hA0
  rw [Tryz.params10] at hA hval
  obtain ⟨v0, v1, v2, d0, d1, d2, p0, p1, p2, rfl, rfl, rfl, h0, h1, h2⟩ := trodAll_three hA
  obtain ⟨rfl, rfl⟩ := trodVars_none hV
  obtain ⟨kind, rfl, rfl, rfl, wkind⟩ := open_int Tryz.underlying3 (hval 0 3 v0 rfl rfl) h0
  obtain ⟨a, rfl, rfl, rfl, wa⟩ := open_int Tryz.underlying2 (hval 1 2 v1 rfl rfl) h1
  obtain ⟨b, rfl, rfl, rfl, wb⟩ := open_int Tryz.underlying2 (hval 2 2 v2 rfl rfl) h2
  simp only [List.append_nil] at hW'
  refine (orders_calls kind a b wkind wa wb (lies hsh hL)).mono fun e W' ⟨he, hk⟩ => ?_
  subst he
  exact ⟨_, rfl, Ab.post_law (pa := []) (pv := []) hW' (fun _ _ _ => trodAll_mk1 (shut_bool Tryz.underlying4 _)) (fun sp _ => trodAll_mk3 (shut_int Tryz.underlying3 wkind) (shut_int Tryz.underlying2 wa) (shut_int Tryz.underlying2 wb)) (fun _ _ => rfl) rfl hk (ok_one (by kernel_rfl) rfl (okWide_bool_mk Tryz.underlying4 _))⟩

end Go.Proofs.YtmcjihhfgmfcpaaGreatDoor
