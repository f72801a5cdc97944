/-
  NumberCompares (comparisons of all kinds, with NaN) answers true for every input, and changes nothing. Conditions: those that the given row and card bear, and no others.
-/
import Derived.Test.YtmcjihhfgmfcpaaGreatDoorCompares1
import Derived.Test.YtmcjihhfgmfcpaaGreatDoorCards
import Derived.Test.YtmcjihhfgmfcpaaGreatDoorTie
import Derived.ProofKit
import Derived.OpenShut
import Derived.Lib.SmallJoins
import Derived.ChangeMaps
import Derived.LaidMore
import Derived.Lay
import Derived.SevenTiedAt
import Derived.Stop.Joined
namespace Go.Proofs.YtmcjihhfgmfcpaaGreatDoor
open Go Go.Ab Go.ChangeShapes Go.WideShapes Go.ChangeAt Go.RowKit
open Go.ChangeMaps (open_string shut_string)
set_option maxRecDepth 100000 in
theorem open_calc {H : Type} {enc : TypeId × Value → H} {W : World} {base b0 : Nat} {sp : Nat → Bool} {hd : Bool} {v : Value} {d : DataW H} {p : List MemPlace} (hv : Value.okWide Tryz.prog W .any b0 43 v) (h : DataW.Trod enc Tryz.prog W base sp hd 43 v d p) :
    ∃ kind op a b : Int, v = .agg #[.int .i64 kind, .int .i64 op, .int .i64 a, .int .i64 b] ∧ (Lit.int .i64 kind).wf = true ∧ (Lit.int .i64 op).wf = true ∧ (Lit.int .i64 a).wf = true ∧ (Lit.int .i64 b).wf = true := by
  obtain ⟨v0, v1, v2, v3, y0, y1, y2, y3, n, rfl, rfl, rfl, t0, t1, t2, t3⟩ := Joins.open_agg4 Tryz.underlying43 (by kernel_rfl) (by kernel_rfl) hv h
  obtain ⟨k, e0, _, w0⟩ := DataW.trod_int Tryz.underlying3 t0
  obtain ⟨o, e1, _, w1⟩ := DataW.trod_int Tryz.underlying3 t1
  obtain ⟨a, e2, _, w2⟩ := DataW.trod_int Tryz.underlying2 t2
  obtain ⟨b, e3, _, w3⟩ := DataW.trod_int Tryz.underlying2 t3
  cases e0; cases e1; cases e2; cases e3
  exact ⟨k, o, a, b, rfl, w0, w1, w2, w3⟩

set_option maxRecDepth 100000 in
theorem compares_fc (kind op a b : Int) (ha : Fit .i64 a) (hb : Fit .i64 b) {m : AW} (hm : m.lo ≤ m.next) (hlay : LaidAt lays m) : Fc Tryz.prog 9 [.agg ⟨[.int .i64 kind, .int .i64 op, .int .i64 a, .int .i64 b]⟩] m fun v _ => v = .bool true := by
  by_cases h1 : kind = 1
  · subst h1
    by_cases o10 : op = 10
    · subst o10
      exact (compares_u8_10 hm hlay ha hb (by rcases tri (wr .u8 a) (wr .u8 b) with ⟨hl, hq, hg⟩ | ⟨hl, hq, hg⟩ | ⟨hl, hq, hg⟩ <;> simp only [hl, hq, hg] <;> rfl)).mono fun _ _ h => h.1
    by_cases o11 : op = 11
    · subst o11
      exact (compares_u8_11 hm hlay ha hb (by rcases tri (wr .u8 a) (wr .u8 b) with ⟨hl, hq, hg⟩ | ⟨hl, hq, hg⟩ | ⟨hl, hq, hg⟩ <;> simp only [hl, hq, hg] <;> rfl)).mono fun _ _ h => h.1
    by_cases o12 : op = 12
    · subst o12
      exact (compares_u8_12 hm hlay ha hb (by rcases tri (wr .u8 a) (wr .u8 b) with ⟨hl, hq, hg⟩ | ⟨hl, hq, hg⟩ | ⟨hl, hq, hg⟩ <;> simp only [hl, hq, hg] <;> rfl)).mono fun _ _ h => h.1
    by_cases o13 : op = 13
    · subst o13
      exact (compares_u8_13 hm hlay ha hb (by rcases tri (wr .u8 a) (wr .u8 b) with ⟨hl, hq, hg⟩ | ⟨hl, hq, hg⟩ | ⟨hl, hq, hg⟩ <;> simp only [hl, hq, hg] <;> rfl)).mono fun _ _ h => h.1
    by_cases o14 : op = 14
    · subst o14
      exact (compares_u8_14 hm hlay ha hb (by rcases tri (wr .u8 a) (wr .u8 b) with ⟨hl, hq, hg⟩ | ⟨hl, hq, hg⟩ | ⟨hl, hq, hg⟩ <;> simp only [hl, hq, hg] <;> rfl)).mono fun _ _ h => h.1
    by_cases o15 : op = 15
    · subst o15
      exact (compares_u8_15 hm hlay ha hb (by rcases tri (wr .u8 a) (wr .u8 b) with ⟨hl, hq, hg⟩ | ⟨hl, hq, hg⟩ | ⟨hl, hq, hg⟩ <;> simp only [hl, hq, hg] <;> rfl)).mono fun _ _ h => h.1
    exact (compares_u8_other hm hlay ha hb (by omega)).mono fun _ _ h => h.1
  by_cases h2 : kind = 2
  · subst h2
    by_cases o10 : op = 10
    · subst o10
      exact (compares_i32_10 hm hlay ha hb (by rcases tri (wr .i32 a) (wr .i32 b) with ⟨hl, hq, hg⟩ | ⟨hl, hq, hg⟩ | ⟨hl, hq, hg⟩ <;> simp only [hl, hq, hg] <;> rfl)).mono fun _ _ h => h.1
    by_cases o11 : op = 11
    · subst o11
      exact (compares_i32_11 hm hlay ha hb (by rcases tri (wr .i32 a) (wr .i32 b) with ⟨hl, hq, hg⟩ | ⟨hl, hq, hg⟩ | ⟨hl, hq, hg⟩ <;> simp only [hl, hq, hg] <;> rfl)).mono fun _ _ h => h.1
    by_cases o12 : op = 12
    · subst o12
      exact (compares_i32_12 hm hlay ha hb (by rcases tri (wr .i32 a) (wr .i32 b) with ⟨hl, hq, hg⟩ | ⟨hl, hq, hg⟩ | ⟨hl, hq, hg⟩ <;> simp only [hl, hq, hg] <;> rfl)).mono fun _ _ h => h.1
    by_cases o13 : op = 13
    · subst o13
      exact (compares_i32_13 hm hlay ha hb (by rcases tri (wr .i32 a) (wr .i32 b) with ⟨hl, hq, hg⟩ | ⟨hl, hq, hg⟩ | ⟨hl, hq, hg⟩ <;> simp only [hl, hq, hg] <;> rfl)).mono fun _ _ h => h.1
    by_cases o14 : op = 14
    · subst o14
      exact (compares_i32_14 hm hlay ha hb (by rcases tri (wr .i32 a) (wr .i32 b) with ⟨hl, hq, hg⟩ | ⟨hl, hq, hg⟩ | ⟨hl, hq, hg⟩ <;> simp only [hl, hq, hg] <;> rfl)).mono fun _ _ h => h.1
    by_cases o15 : op = 15
    · subst o15
      exact (compares_i32_15 hm hlay ha hb (by rcases tri (wr .i32 a) (wr .i32 b) with ⟨hl, hq, hg⟩ | ⟨hl, hq, hg⟩ | ⟨hl, hq, hg⟩ <;> simp only [hl, hq, hg] <;> rfl)).mono fun _ _ h => h.1
    exact (compares_i32_other hm hlay ha hb (by omega)).mono fun _ _ h => h.1
  by_cases h3 : kind = 3
  · subst h3
    by_cases o10 : op = 10
    · subst o10
      exact (compares_i64_10 hm hlay ha hb (by rcases tri (wr .i64 a) (wr .i64 b) with ⟨hl, hq, hg⟩ | ⟨hl, hq, hg⟩ | ⟨hl, hq, hg⟩ <;> simp only [hl, hq, hg] <;> rfl)).mono fun _ _ h => h.1
    by_cases o11 : op = 11
    · subst o11
      exact (compares_i64_11 hm hlay ha hb (by rcases tri (wr .i64 a) (wr .i64 b) with ⟨hl, hq, hg⟩ | ⟨hl, hq, hg⟩ | ⟨hl, hq, hg⟩ <;> simp only [hl, hq, hg] <;> rfl)).mono fun _ _ h => h.1
    by_cases o12 : op = 12
    · subst o12
      exact (compares_i64_12 hm hlay ha hb (by rcases tri (wr .i64 a) (wr .i64 b) with ⟨hl, hq, hg⟩ | ⟨hl, hq, hg⟩ | ⟨hl, hq, hg⟩ <;> simp only [hl, hq, hg] <;> rfl)).mono fun _ _ h => h.1
    by_cases o13 : op = 13
    · subst o13
      exact (compares_i64_13 hm hlay ha hb (by rcases tri (wr .i64 a) (wr .i64 b) with ⟨hl, hq, hg⟩ | ⟨hl, hq, hg⟩ | ⟨hl, hq, hg⟩ <;> simp only [hl, hq, hg] <;> rfl)).mono fun _ _ h => h.1
    by_cases o14 : op = 14
    · subst o14
      exact (compares_i64_14 hm hlay ha hb (by rcases tri (wr .i64 a) (wr .i64 b) with ⟨hl, hq, hg⟩ | ⟨hl, hq, hg⟩ | ⟨hl, hq, hg⟩ <;> simp only [hl, hq, hg] <;> rfl)).mono fun _ _ h => h.1
    by_cases o15 : op = 15
    · subst o15
      exact (compares_i64_15 hm hlay ha hb (by rcases tri (wr .i64 a) (wr .i64 b) with ⟨hl, hq, hg⟩ | ⟨hl, hq, hg⟩ | ⟨hl, hq, hg⟩ <;> simp only [hl, hq, hg] <;> rfl)).mono fun _ _ h => h.1
    exact (compares_i64_other hm hlay ha hb (by omega)).mono fun _ _ h => h.1
  by_cases h4 : kind = 4
  · subst h4
    by_cases o10 : op = 10
    · subst o10
      by_cases n1 : w4 a = 9221120237041090561
      · exact (compares_nan1_10 hm hlay ha hb n1 (by obtain ⟨hl, hq, _, hg⟩ := nanF (flb (w4 a)) (flb (w4 b)) (.inl (w4_nan n1)); simp only [hl, hq, hg] <;> rfl)).mono fun _ _ h => h.1
      by_cases n2 : w4 b = 9221120237041090561
      · exact (compares_nan2_10 hm hlay ha hb n1 n2 (by obtain ⟨hl, hq, _, hg⟩ := nanF (flb (w4 a)) (flb (w4 b)) (.inr (w4_nan n2)); simp only [hl, hq, hg] <;> rfl)).mono fun _ _ h => h.1
      exact (compares_real_10 hm hlay ha hb n1 n2 (by rcases triF (flb (w4 a)) (flb (w4 b)) (w4_num n1) (w4_num n2) with ⟨hl, hq, hx, hg⟩ | ⟨hl, hq, hx, hg⟩ | ⟨hl, hq, hx, hg⟩ <;> simp only [hl, hq, hx, hg] <;> rfl)).mono fun _ _ h => h.1
    by_cases o11 : op = 11
    · subst o11
      by_cases n1 : w4 a = 9221120237041090561
      · exact (compares_nan1_11 hm hlay ha hb n1 (by obtain ⟨hl, hq, _, hg⟩ := nanF (flb (w4 a)) (flb (w4 b)) (.inl (w4_nan n1)); simp only [hl, hq, hg] <;> rfl)).mono fun _ _ h => h.1
      by_cases n2 : w4 b = 9221120237041090561
      · exact (compares_nan2_11 hm hlay ha hb n1 n2 (by obtain ⟨hl, hq, _, hg⟩ := nanF (flb (w4 a)) (flb (w4 b)) (.inr (w4_nan n2)); simp only [hl, hq, hg] <;> rfl)).mono fun _ _ h => h.1
      exact (compares_real_11 hm hlay ha hb n1 n2 (by rcases triF (flb (w4 a)) (flb (w4 b)) (w4_num n1) (w4_num n2) with ⟨hl, hq, hx, hg⟩ | ⟨hl, hq, hx, hg⟩ | ⟨hl, hq, hx, hg⟩ <;> simp only [hl, hq, hx, hg] <;> rfl)).mono fun _ _ h => h.1
    by_cases o12 : op = 12
    · subst o12
      by_cases n1 : w4 a = 9221120237041090561
      · exact (compares_nan1_12 hm hlay ha hb n1 (by obtain ⟨hl, hq, _, hg⟩ := nanF (flb (w4 a)) (flb (w4 b)) (.inl (w4_nan n1)); simp only [hl, hq, hg] <;> rfl)).mono fun _ _ h => h.1
      by_cases n2 : w4 b = 9221120237041090561
      · exact (compares_nan2_12 hm hlay ha hb n1 n2 (by obtain ⟨hl, hq, _, hg⟩ := nanF (flb (w4 a)) (flb (w4 b)) (.inr (w4_nan n2)); simp only [hl, hq, hg] <;> rfl)).mono fun _ _ h => h.1
      exact (compares_real_12 hm hlay ha hb n1 n2 (by rcases triF (flb (w4 a)) (flb (w4 b)) (w4_num n1) (w4_num n2) with ⟨hl, hq, hx, hg⟩ | ⟨hl, hq, hx, hg⟩ | ⟨hl, hq, hx, hg⟩ <;> simp only [hl, hq, hx, hg] <;> rfl)).mono fun _ _ h => h.1
    by_cases o13 : op = 13
    · subst o13
      by_cases n1 : w4 a = 9221120237041090561
      · exact (compares_nan1_13 hm hlay ha hb n1 (by obtain ⟨hl, hq, _, hg⟩ := nanF (flb (w4 a)) (flb (w4 b)) (.inl (w4_nan n1)); simp only [hl, hq, hg] <;> rfl)).mono fun _ _ h => h.1
      by_cases n2 : w4 b = 9221120237041090561
      · exact (compares_nan2_13 hm hlay ha hb n1 n2 (by obtain ⟨hl, hq, _, hg⟩ := nanF (flb (w4 a)) (flb (w4 b)) (.inr (w4_nan n2)); simp only [hl, hq, hg] <;> rfl)).mono fun _ _ h => h.1
      exact (compares_real_13 hm hlay ha hb n1 n2 (by rcases triF (flb (w4 a)) (flb (w4 b)) (w4_num n1) (w4_num n2) with ⟨hl, hq, hx, hg⟩ | ⟨hl, hq, hx, hg⟩ | ⟨hl, hq, hx, hg⟩ <;> simp only [hl, hq, hx, hg] <;> rfl)).mono fun _ _ h => h.1
    by_cases o14 : op = 14
    · subst o14
      by_cases n1 : w4 a = 9221120237041090561
      · exact (compares_nan1_14 hm hlay ha hb n1 (by obtain ⟨hl, hq, _, hg⟩ := nanF (flb (w4 a)) (flb (w4 b)) (.inl (w4_nan n1)); simp only [hl, hq, hg] <;> rfl)).mono fun _ _ h => h.1
      by_cases n2 : w4 b = 9221120237041090561
      · exact (compares_nan2_14 hm hlay ha hb n1 n2 (by obtain ⟨hl, hq, _, hg⟩ := nanF (flb (w4 a)) (flb (w4 b)) (.inr (w4_nan n2)); simp only [hl, hq, hg] <;> rfl)).mono fun _ _ h => h.1
      exact (compares_real_14 hm hlay ha hb n1 n2 (by rcases triF (flb (w4 a)) (flb (w4 b)) (w4_num n1) (w4_num n2) with ⟨hl, hq, hx, hg⟩ | ⟨hl, hq, hx, hg⟩ | ⟨hl, hq, hx, hg⟩ <;> simp only [hl, hq, hx, hg] <;> rfl)).mono fun _ _ h => h.1
    by_cases o15 : op = 15
    · subst o15
      by_cases n1 : w4 a = 9221120237041090561
      · exact (compares_nan1_15 hm hlay ha hb n1 (by obtain ⟨hl, hq, _, hg⟩ := nanF (flb (w4 a)) (flb (w4 b)) (.inl (w4_nan n1)); simp only [hl, hq, hg] <;> rfl)).mono fun _ _ h => h.1
      by_cases n2 : w4 b = 9221120237041090561
      · exact (compares_nan2_15 hm hlay ha hb n1 n2 (by obtain ⟨hl, hq, _, hg⟩ := nanF (flb (w4 a)) (flb (w4 b)) (.inr (w4_nan n2)); simp only [hl, hq, hg] <;> rfl)).mono fun _ _ h => h.1
      exact (compares_real_15 hm hlay ha hb n1 n2 (by rcases triF (flb (w4 a)) (flb (w4 b)) (w4_num n1) (w4_num n2) with ⟨hl, hq, hx, hg⟩ | ⟨hl, hq, hx, hg⟩ | ⟨hl, hq, hx, hg⟩ <;> simp only [hl, hq, hx, hg] <;> rfl)).mono fun _ _ h => h.1
    exact (compares_real_other hm hlay ha hb (by omega)).mono fun _ _ h => h.1
  exact (compares_none hm hlay h1 h2 h3 h4).mono fun _ _ h => h.1
theorem compares_calls (kind : Int) (op : Int) (a : Int) (b : Int) (wkind : (Lit.int .i64 kind).wf = true) (wop : (Lit.int .i64 op).wf = true) (wa : (Lit.int .i64 a).wf = true) (wb : (Lit.int .i64 b).wf = true) {W : World} (hl : LiesBy Tryz.prog W lays) : Calls Tryz.prog 9 #[.agg #[.int .i64 kind, .int .i64 op, .int .i64 a, .int .i64 b]] W fun e W' => e = .returned (.bool true) ∧ Still W W' :=
  calls_fc (plainNames_of names) mixed (fun tt => compares_fc kind op a b (fit_wf wa) (fit_wf wb) (Nat.zero_le _) (laid0 tt)) Tryz.func9 (by kernel_rfl) hl (by kernel_rfl) (fun _ => .cons (.agg (.cons (.int _ _) (.cons (.int _ _) (.cons (.int _ _) (.cons (.int _ _) .nil))))) .nil)

set_option maxRecDepth 100000 in
theorem compares_lifted (os : Os) (started : os.Started) (H : Type) (enc : TypeId × Value → H) :
    ReturnsInHanded {} Tryz.checked os 9 .any (fun w args => (Rows.numberComparesSpec.pre enc Tryz.prog Tryz.f9 Rows.numberComparesRow.domain false w args ∧ laidMetH Tryz.prog Rows.numberComparesRow.laid w) ∧ sizedMet enc Tryz.prog Tryz.f9 (OpenSpec.ofChange Rows.numberComparesSpec) false w args)
      (Rows.numberComparesSpec.post enc Tryz.prog Tryz.f9 false true false false) := by
  refine Ab.returns_shaped (C := Tryz.checked) (X := fun w _ => laidMetH Tryz.prog Rows.numberComparesRow.laid w) (fun _ _ _ hh h => h.of_heap hh) own started (by kernel_rfl) Tryz.func9
    (ChangeSpec.witness_shaped (enc := enc) (C := Tryz.checked) (os := os) (X := fun w _ => laidMetH Tryz.prog Rows.numberComparesRow.laid w) false (World.laidAll Tryz.prog os Rows.numberComparesRow.laid) #[.agg #[.int .i64 0, .int .i64 0, .int .i64 0, .int .i64 0]] 8 (World.laidAll_os _ _ _)
      (World.shaped_of_ZipB (by kernel_rfl) (by kernel_rfl)) (by kernel_rfl) (by kernel_rfl) (by kernel_rfl)
      (by rw [MakeChecks.laidMetH_plain _ _ _ (by kernel_rfl)]; exact laidMet_laidAll _ (by kernel_rfl) (by kernel_rfl))) ?_
  intro W base args ds gs before hsh hval0 hW _ _ hL
  have hval : ∀ (j : Nat) t v, Tryz.f9.params[j]? = some t → args[j]? = some v → Value.okWide Tryz.prog W .any base t v := hval0
  have hW' := hW
  obtain ⟨p, q, hA0, hV, rfl, _, _⟩ := hW
  have hA : DataW.TrodAll enc Tryz.prog W 0 (fun _ => true) true Tryz.f9.params.toList args.toList ds p := hA0
  rw [Tryz.params9] at hA hval
  obtain ⟨v0, d0, rfl, rfl, h0⟩ := trodAll_one hA
  obtain ⟨rfl, rfl⟩ := trodVars_none hV
  obtain ⟨kind, op, a, b, rfl, wkind, wop, wa, wb⟩ := open_calc (hval 0 43 v0 rfl rfl) h0
  simp only [List.append_nil] at hW'
  refine (compares_calls kind op a b wkind wop wa wb (lies hsh hL)).mono fun e W' ⟨he, hk⟩ => ?_
  subst he
  exact ⟨_, rfl, Ab.post_law (pa := p) (pv := []) hW' (fun _ _ _ => trodAll_mk1 (shut_bool Tryz.underlying4 _)) (fun sp _ => trodAll_mk1 (by obtain ⟨fu, hfu⟩ := h0; exact ⟨fu, (trod_plain_same 10 43 (by kernel_rfl) _ _).symm.trans hfu⟩)) (fun _ _ => rfl) (List.append_nil _).symm hk (ok_one (by kernel_rfl) rfl (okWide_bool_mk Tryz.underlying4 _))⟩

end Go.Proofs.YtmcjihhfgmfcpaaGreatDoor
