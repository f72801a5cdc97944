/-
  NumberReckons (results of all operators, and zero divide) answers true for every input, and changes nothing. Conditions: those that the given row and card bear, and no others.
-/
import Derived.Test.YtmcjihhfgmfcpaaGreatDoorReckons1
import Derived.Test.YtmcjihhfgmfcpaaGreatDoorCards
import Derived.Test.YtmcjihhfgmfcpaaGreatDoorTie
import Derived.ProofKit
import Derived.OpenShut
import Derived.Lib.SmallJoins
import Derived.ChangeMaps
import Derived.LaidMore
import Derived.Lay
import Derived.SevenTiedAt
import Derived.Stop.Joined
namespace Go.Proofs.YtmcjihhfgmfcpaaGreatDoor
open Go Go.Ab Go.ChangeShapes Go.WideShapes Go.ChangeAt Go.RowKit
open Go.ChangeMaps (open_string shut_string)
set_option maxRecDepth 100000 in
theorem open_calc {H : Type} {enc : TypeId × Value → H} {W : World} {base b0 : Nat} {sp : Nat → Bool} {hd : Bool} {v : Value} {d : DataW H} {p : List MemPlace} (hv : Value.okWide Tryz.prog W .any b0 43 v) (h : DataW.Trod enc Tryz.prog W base sp hd 43 v d p) :
    ∃ kind op a b : Int, v = .agg #[.int .i64 kind, .int .i64 op, .int .i64 a, .int .i64 b] ∧ (Lit.int .i64 kind).wf = true ∧ (Lit.int .i64 op).wf = true ∧ (Lit.int .i64 a).wf = true ∧ (Lit.int .i64 b).wf = true := by
  obtain ⟨v0, v1, v2, v3, y0, y1, y2, y3, n, rfl, rfl, rfl, t0, t1, t2, t3⟩ := Joins.open_agg4 Tryz.underlying43 (by kernel_rfl) (by kernel_rfl) hv h
  obtain ⟨k, e0, _, w0⟩ := DataW.trod_int Tryz.underlying3 t0
  obtain ⟨o, e1, _, w1⟩ := DataW.trod_int Tryz.underlying3 t1
  obtain ⟨a, e2, _, w2⟩ := DataW.trod_int Tryz.underlying2 t2
  obtain ⟨b, e3, _, w3⟩ := DataW.trod_int Tryz.underlying2 t3
  cases e0; cases e1; cases e2; cases e3
  exact ⟨k, o, a, b, rfl, w0, w1, w2, w3⟩

set_option maxRecDepth 100000 in
set_option maxHeartbeats 2000000 in
theorem reckons_fc (kind op a b : Int) (ha : Fit .i64 a) (hb : Fit .i64 b) {m : AW} (hm : m.lo ≤ m.next) (hlay : LaidAt lays m) : Fc Tryz.prog 8 [.agg ⟨[.int .i64 kind, .int .i64 op, .int .i64 a, .int .i64 b]⟩] m fun v m' => v = .bool true := by
  by_cases h1 : kind = 1
  · subst h1
    by_cases o0 : op = 0
    · subst o0
      exact (reckons_law (n := wr .u8 ((wr .u8 a) + (wr .u8 b))) (e := 0) (q := 0) (f := 2) (y := wr .u8 ((wr .u8 a) + (wr .u8 b))) (z := 0) (is_ := true) hm hlay (fun hm hlay => Arith_u8_0 hm ha hb) (fun hm => Unary_u8_other hm ha (by decide)) (fun hm => Kind_u8 hm) (fun _ _ hm hlay => RArith_0 hm (by decide) (k := .u8) (by decide) (by decide) (by decide) (fun hm h => RWrap_u8 hm h) ha hb) (fun h => absurd h (by decide)) (((if_pos (by decide)).trans rfl).symm) ((if_neg (by decide)).symm) ((if_pos ⟨by decide, rfl⟩).symm) ((if_neg (by decide)).symm)).mono fun _ _ h => h.1
    by_cases o1 : op = 1
    · subst o1
      exact (reckons_law (n := wr .u8 ((wr .u8 a) - (wr .u8 b))) (e := 0) (q := 0) (f := 2) (y := wr .u8 ((wr .u8 a) - (wr .u8 b))) (z := 0) (is_ := true) hm hlay (fun hm hlay => Arith_u8_1 hm ha hb) (fun hm => Unary_u8_other hm ha (by decide)) (fun hm => Kind_u8 hm) (fun _ _ hm hlay => RArith_1 hm (by decide) (k := .u8) (by decide) (by decide) (by decide) (fun hm h => RWrap_u8 hm h) ha hb) (fun h => absurd h (by decide)) (((if_pos (by decide)).trans rfl).symm) ((if_neg (by decide)).symm) ((if_pos ⟨by decide, rfl⟩).symm) ((if_neg (by decide)).symm)).mono fun _ _ h => h.1
    by_cases o2 : op = 2
    · subst o2
      exact (reckons_law (n := wr .u8 ((wr .u8 a) * (wr .u8 b))) (e := 0) (q := 0) (f := 2) (y := wr .u8 ((wr .u8 a) * (wr .u8 b))) (z := 0) (is_ := true) hm hlay (fun hm hlay => Arith_u8_2 hm ha hb) (fun hm => Unary_u8_other hm ha (by decide)) (fun hm => Kind_u8 hm) (fun _ _ hm hlay => RArith_2 hm (by decide) (k := .u8) (by decide) (by decide) (by decide) (fun hm h => RWrap_u8 hm h) ha hb) (fun h => absurd h (by decide)) (((if_pos (by decide)).trans rfl).symm) ((if_neg (by decide)).symm) ((if_pos ⟨by decide, rfl⟩).symm) ((if_neg (by decide)).symm)).mono fun _ _ h => h.1
    by_cases o3 : op = 3
    · subst o3
      by_cases h0 : wr .u8 b = 0
      · exact (reckons_law (n := 0) (e := 11) (q := 0) (f := 2) (y := 0) (z := 0) (is_ := false) hm hlay (fun hm hlay => Arith_u8_3z hm ha hb h0) (fun hm => Unary_u8_other hm ha (by decide)) (fun hm => Kind_u8 hm) (fun _ _ hm hlay => RArith_3z hm (by decide) (k := .u8) (by decide) (by decide) (by decide) (fun hm h => RWrap_u8 hm h) ha hb h0) (fun h => absurd h (by decide)) (((if_pos (by decide)).trans rfl).symm) ((if_neg (by decide)).symm) ((if_neg (fun h => nomatch h.2)).symm) ((if_neg (by decide)).symm)).mono fun _ _ h => h.1
      exact (reckons_law (n := wr .u8 ((wr .u8 a).tdiv (wr .u8 b))) (e := 0) (q := 0) (f := 2) (y := wr .u8 ((wr .u8 a).tdiv (wr .u8 b))) (z := 0) (is_ := true) hm hlay (fun hm hlay => Arith_u8_3 hm ha hb h0) (fun hm => Unary_u8_other hm ha (by decide)) (fun hm => Kind_u8 hm) (fun _ _ hm hlay => RArith_3 hm (by decide) (k := .u8) (by decide) (by decide) (by decide) (fun hm h => RWrap_u8 hm h) ha hb h0) (fun h => absurd h (by decide)) (((if_pos (by decide)).trans rfl).symm) ((if_neg (by decide)).symm) ((if_pos ⟨by decide, rfl⟩).symm) ((if_neg (by decide)).symm)).mono fun _ _ h => h.1
    by_cases o4 : op = 4
    · subst o4
      by_cases h0 : wr .u8 b = 0
      · exact (reckons_law (n := 0) (e := 11) (q := 0) (f := 2) (y := 0) (z := 0) (is_ := false) hm hlay (fun hm hlay => Arith_u8_4z hm ha hb h0) (fun hm => Unary_u8_other hm ha (by decide)) (fun hm => Kind_u8 hm) (fun _ _ hm hlay => RArith_4z hm (by decide) (k := .u8) (by decide) (by decide) (by decide) (fun hm h => RWrap_u8 hm h) ha hb h0) (fun h => absurd h (by decide)) (((if_pos (by decide)).trans rfl).symm) ((if_neg (by decide)).symm) ((if_neg (fun h => nomatch h.2)).symm) ((if_neg (by decide)).symm)).mono fun _ _ h => h.1
      exact (reckons_law (n := wr .u8 ((wr .u8 a).tmod (wr .u8 b))) (e := 0) (q := 0) (f := 2) (y := wr .u8 ((wr .u8 a).tmod (wr .u8 b))) (z := 0) (is_ := true) hm hlay (fun hm hlay => Arith_u8_4 hm ha hb h0) (fun hm => Unary_u8_other hm ha (by decide)) (fun hm => Kind_u8 hm) (fun _ _ hm hlay => RArith_4 hm (by decide) (k := .u8) (by decide) (by decide) (by decide) (fun hm h => RWrap_u8 hm h) ha hb h0) (fun h => absurd h (by decide)) (((if_pos (by decide)).trans rfl).symm) ((if_neg (by decide)).symm) ((if_pos ⟨by decide, rfl⟩).symm) ((if_neg (by decide)).symm)).mono fun _ _ h => h.1
    by_cases o5 : op = 5
    · subst o5
      exact (reckons_law (n := bitV (· &&& ·) .u8 (wr .u8 a) (wr .u8 b)) (e := 0) (q := 0) (f := 2) (y := bitV (· &&& ·) .u8 (wr .u8 a) (wr .u8 b)) (z := 0) (is_ := true) hm hlay (fun hm hlay => Arith_u8_5 hm ha hb) (fun hm => Unary_u8_other hm ha (by decide)) (fun hm => Kind_u8 hm) (fun _ _ hm hlay => RArith_5 hm (by decide) (k := .u8) (by decide) (by decide) (by decide) (fun hm h => RWrap_u8 hm h) ha hb) (fun h => absurd h (by decide)) (((if_pos (by decide)).trans rfl).symm) ((if_neg (by decide)).symm) ((if_pos ⟨by decide, rfl⟩).symm) ((if_neg (by decide)).symm)).mono fun _ _ h => h.1
    by_cases o6 : op = 6
    · subst o6
      exact (reckons_law (n := bitV (· ||| ·) .u8 (wr .u8 a) (wr .u8 b)) (e := 0) (q := 0) (f := 2) (y := bitV (· ||| ·) .u8 (wr .u8 a) (wr .u8 b)) (z := 0) (is_ := true) hm hlay (fun hm hlay => Arith_u8_6 hm ha hb) (fun hm => Unary_u8_other hm ha (by decide)) (fun hm => Kind_u8 hm) (fun _ _ hm hlay => RArith_6 hm (by decide) (k := .u8) (by decide) (by decide) (by decide) (fun hm h => RWrap_u8 hm h) ha hb) (fun h => absurd h (by decide)) (((if_pos (by decide)).trans rfl).symm) ((if_neg (by decide)).symm) ((if_pos ⟨by decide, rfl⟩).symm) ((if_neg (by decide)).symm)).mono fun _ _ h => h.1
    by_cases o7 : op = 7
    · subst o7
      exact (reckons_law (n := bitV (· ^^^ ·) .u8 (wr .u8 a) (wr .u8 b)) (e := 0) (q := 0) (f := 2) (y := bitV (· ^^^ ·) .u8 (wr .u8 a) (wr .u8 b)) (z := 0) (is_ := true) hm hlay (fun hm hlay => Arith_u8_7 hm ha hb) (fun hm => Unary_u8_other hm ha (by decide)) (fun hm => Kind_u8 hm) (fun _ _ hm hlay => RArith_7 hm (by decide) (k := .u8) (by decide) (by decide) (by decide) (fun hm h => RWrap_u8 hm h) ha hb) (fun h => absurd h (by decide)) (((if_pos (by decide)).trans rfl).symm) ((if_neg (by decide)).symm) ((if_pos ⟨by decide, rfl⟩).symm) ((if_neg (by decide)).symm)).mono fun _ _ h => h.1
    by_cases o8 : op = 8
    · subst o8
      by_cases hy : wr .i32 b < 0
      · exact (reckons_law (n := 0) (e := 0) (q := 0) (f := 2) (y := 0) (z := 0) (is_ := true) hm hlay (fun hm hlay => Arith_u8_shl_neg hm ha hy) (fun hm => Unary_u8_other hm ha (by decide)) (fun hm => Kind_u8 hm) (fun _ _ hm hlay => RArith_shl_out (w := 8) hm (by decide) (k := .u8) (by decide) (by decide) (by decide) (fun hm h => RWrap_u8 hm h) (fun hm => width_1 hm) ha hb (.inl hy)) (fun h => absurd h (by decide)) (((if_pos (by decide)).trans rfl).symm) ((if_neg (by decide)).symm) ((if_pos ⟨by decide, rfl⟩).symm) ((if_neg (by decide)).symm)).mono fun _ _ h => h.1
      by_cases hy2 : 8 ≤ wr .i32 b
      · exact (reckons_law (n := 0) (e := 0) (q := 0) (f := 2) (y := 0) (z := 0) (is_ := true) hm hlay (fun hm hlay => Arith_u8_shl_big hm ha (by omega) hy2) (fun hm => Unary_u8_other hm ha (by decide)) (fun hm => Kind_u8 hm) (fun _ _ hm hlay => RArith_shl_out (w := 8) hm (by decide) (k := .u8) (by decide) (by decide) (by decide) (fun hm h => RWrap_u8 hm h) (fun hm => width_1 hm) ha hb (.inr hy2)) (fun h => absurd h (by decide)) (((if_pos (by decide)).trans rfl).symm) ((if_neg (by decide)).symm) ((if_pos ⟨by decide, rfl⟩).symm) ((if_neg (by decide)).symm)).mono fun _ _ h => h.1
      obtain ⟨j, hj⟩ := Int.eq_ofNat_of_zero_le (Int.not_lt.1 hy)
      exact (reckons_law (n := wr .u8 ((wr .u8 a) * 2 ^ j)) (e := 0) (q := 0) (f := 2) (y := wr .u8 ((wr .u8 a) * 2 ^ j)) (z := 0) (is_ := true) hm hlay (fun hm hlay => Arith_u8_shl_in hm ha hj (by omega)) (fun hm => Unary_u8_other hm ha (by decide)) (fun hm => Kind_u8 hm) (fun _ _ hm hlay => RArith_shl_in (w := 8) hm (by decide) (k := .u8) (by decide) (by decide) (by decide) (fun hm h => RWrap_u8 hm h) (fun hm => width_1 hm) ha hb hj (by omega) (by decide)) (fun h => absurd h (by decide)) (((if_pos (by decide)).trans rfl).symm) ((if_neg (by decide)).symm) ((if_pos ⟨by decide, rfl⟩).symm) ((if_neg (by decide)).symm)).mono fun _ _ h => h.1
    by_cases o9 : op = 9
    · subst o9
      by_cases hy : wr .i32 b < 0
      · exact (reckons_law (n := if (wr .u8 a) < 0 then -1 else 0) (e := 0) (q := 0) (f := 2) (y := if (wr .u8 a) < 0 then -1 else 0) (z := 0) (is_ := true) hm hlay (fun hm hlay => (by rw [if_neg (by have h_ := (wr_range .u8 a).1; exact Int.not_lt.2 h_)]; exact Arith_u8_shr_neg hm ha hy)) (fun hm => Unary_u8_other hm ha (by decide)) (fun hm => Kind_u8 hm) (fun _ _ hm hlay => RArith_shr_out (w := 8) hm (by decide) (k := .u8) (by decide) (by decide) (by decide) (fun hm h => RWrap_u8 hm h) (fun hm => width_1 hm) ha hb (.inl hy)) (fun h => absurd h (by decide)) (((if_pos (by decide)).trans rfl).symm) ((if_neg (by decide)).symm) ((if_pos ⟨by decide, rfl⟩).symm) ((if_neg (by decide)).symm)).mono fun _ _ h => h.1
      by_cases hy2 : 8 ≤ wr .i32 b
      · exact (reckons_law (n := if (wr .u8 a) < 0 then -1 else 0) (e := 0) (q := 0) (f := 2) (y := if (wr .u8 a) < 0 then -1 else 0) (z := 0) (is_ := true) hm hlay (fun hm hlay => (by rw [if_neg (by have h_ := (wr_range .u8 a).1; exact Int.not_lt.2 h_)]; exact Arith_u8_shr_big hm ha (by omega) hy2)) (fun hm => Unary_u8_other hm ha (by decide)) (fun hm => Kind_u8 hm) (fun _ _ hm hlay => RArith_shr_out (w := 8) hm (by decide) (k := .u8) (by decide) (by decide) (by decide) (fun hm h => RWrap_u8 hm h) (fun hm => width_1 hm) ha hb (.inr hy2)) (fun h => absurd h (by decide)) (((if_pos (by decide)).trans rfl).symm) ((if_neg (by decide)).symm) ((if_pos ⟨by decide, rfl⟩).symm) ((if_neg (by decide)).symm)).mono fun _ _ h => h.1
      obtain ⟨j, hj⟩ := Int.eq_ofNat_of_zero_le (Int.not_lt.1 hy)
      exact (reckons_law (n := (wr .u8 a).fdiv (2 ^ j)) (e := 0) (q := 0) (f := 2) (y := (wr .u8 a).fdiv (2 ^ j)) (z := 0) (is_ := true) hm hlay (fun hm hlay => Arith_u8_shr_in hm ha hj (by omega)) (fun hm => Unary_u8_other hm ha (by decide)) (fun hm => Kind_u8 hm) (fun _ _ hm hlay => RArith_shr_in (w := 8) hm (by decide) (k := .u8) (by decide) (by decide) (by decide) (fun hm h => RWrap_u8 hm h) (fun hm => width_1 hm) ha hb hj (by omega) (by decide)) (fun h => absurd h (by decide)) (((if_pos (by decide)).trans rfl).symm) ((if_neg (by decide)).symm) ((if_pos ⟨by decide, rfl⟩).symm) ((if_neg (by decide)).symm)).mono fun _ _ h => h.1
    by_cases o16 : op = 16
    · subst o16
      exact (reckons_law (n := 0) (e := 2) (q := wr .u8 (0 - (wr .u8 a))) (f := 0) (y := 0) (z := wr .u8 (0 - (wr .u8 a))) (is_ := true) hm hlay (fun hm hlay => Arith_u8_other hm (by decide)) (fun hm => Unary_u8_16 hm ha) (fun hm => Kind_u8 hm) (fun h => absurd h (by decide)) (fun _ _ hm => RUnary_16 hm (by decide) (k := .u8) (by decide) (by decide) (by decide) (fun hm h => RWrap_u8 hm h) ha) ((if_neg (by decide)).symm) ((if_pos (by decide)).symm) ((if_neg (fun h => absurd h.1 (by decide))).symm) ((if_pos (by decide)).symm)).mono fun _ _ h => h.1
    by_cases o17 : op = 17
    · subst o17
      exact (reckons_law (n := 0) (e := 2) (q := wr .u8 (-1 - (wr .u8 a))) (f := 0) (y := 0) (z := wr .u8 (-1 - (wr .u8 a))) (is_ := true) hm hlay (fun hm hlay => Arith_u8_other hm (by decide)) (fun hm => Unary_u8_17 hm ha) (fun hm => Kind_u8 hm) (fun h => absurd h (by decide)) (fun _ _ hm => RUnary_17 hm (by decide) (k := .u8) (by decide) (by decide) (by decide) (fun hm h => RWrap_u8 hm h) ha) ((if_neg (by decide)).symm) ((if_pos (by decide)).symm) ((if_neg (fun h => absurd h.1 (by decide))).symm) ((if_pos (by decide)).symm)).mono fun _ _ h => h.1
    by_cases o18 : op = 18
    · subst o18
      exact (reckons_law (n := 0) (e := 2) (q := 0) (f := 2) (y := 0) (z := 0) (is_ := true) hm hlay (fun hm hlay => Arith_u8_other hm (by decide)) (fun hm => Unary_u8_18 hm ha) (fun hm => Kind_u8 hm) (fun h => absurd h (by decide)) (fun h => absurd h (by decide)) ((if_neg (by decide)).symm) ((if_neg (by decide)).symm) ((if_neg (fun h => absurd h.1 (by decide))).symm) ((if_neg (by decide)).symm)).mono fun _ _ h => h.1
    exact (reckons_law (n := 0) (e := 2) (q := 0) (f := 2) (y := 0) (z := 0) (is_ := true) hm hlay (fun hm hlay => Arith_u8_other hm (by omega)) (fun hm => Unary_u8_other hm ha (by omega)) (fun hm => Kind_u8 hm) (fun h => absurd h (by omega)) (fun h => absurd h (by omega)) ((if_neg (by omega)).symm) ((if_neg (by omega)).symm) ((if_neg (fun h => absurd h.1 (by omega))).symm) ((if_neg (by omega)).symm)).mono fun _ _ h => h.1
  by_cases h2 : kind = 2
  · subst h2
    by_cases o0 : op = 0
    · subst o0
      exact (reckons_law (n := wr .i32 ((wr .i32 a) + (wr .i32 b))) (e := 0) (q := 0) (f := 2) (y := wr .i32 ((wr .i32 a) + (wr .i32 b))) (z := 0) (is_ := true) hm hlay (fun hm hlay => Arith_i32_0 hm ha hb) (fun hm => Unary_i32_other hm ha (by decide)) (fun hm => Kind_i32 hm) (fun _ _ hm hlay => RArith_0 hm (by decide) (k := .i32) (by decide) (by decide) (by decide) (fun hm h => RWrap_i32 hm h) ha hb) (fun h => absurd h (by decide)) (((if_pos (by decide)).trans rfl).symm) ((if_neg (by decide)).symm) ((if_pos ⟨by decide, rfl⟩).symm) ((if_neg (by decide)).symm)).mono fun _ _ h => h.1
    by_cases o1 : op = 1
    · subst o1
      exact (reckons_law (n := wr .i32 ((wr .i32 a) - (wr .i32 b))) (e := 0) (q := 0) (f := 2) (y := wr .i32 ((wr .i32 a) - (wr .i32 b))) (z := 0) (is_ := true) hm hlay (fun hm hlay => Arith_i32_1 hm ha hb) (fun hm => Unary_i32_other hm ha (by decide)) (fun hm => Kind_i32 hm) (fun _ _ hm hlay => RArith_1 hm (by decide) (k := .i32) (by decide) (by decide) (by decide) (fun hm h => RWrap_i32 hm h) ha hb) (fun h => absurd h (by decide)) (((if_pos (by decide)).trans rfl).symm) ((if_neg (by decide)).symm) ((if_pos ⟨by decide, rfl⟩).symm) ((if_neg (by decide)).symm)).mono fun _ _ h => h.1
    by_cases o2 : op = 2
    · subst o2
      exact (reckons_law (n := wr .i32 ((wr .i32 a) * (wr .i32 b))) (e := 0) (q := 0) (f := 2) (y := wr .i32 ((wr .i32 a) * (wr .i32 b))) (z := 0) (is_ := true) hm hlay (fun hm hlay => Arith_i32_2 hm ha hb) (fun hm => Unary_i32_other hm ha (by decide)) (fun hm => Kind_i32 hm) (fun _ _ hm hlay => RArith_2 hm (by decide) (k := .i32) (by decide) (by decide) (by decide) (fun hm h => RWrap_i32 hm h) ha hb) (fun h => absurd h (by decide)) (((if_pos (by decide)).trans rfl).symm) ((if_neg (by decide)).symm) ((if_pos ⟨by decide, rfl⟩).symm) ((if_neg (by decide)).symm)).mono fun _ _ h => h.1
    by_cases o3 : op = 3
    · subst o3
      by_cases h0 : wr .i32 b = 0
      · exact (reckons_law (n := 0) (e := 11) (q := 0) (f := 2) (y := 0) (z := 0) (is_ := false) hm hlay (fun hm hlay => Arith_i32_3z hm ha hb h0) (fun hm => Unary_i32_other hm ha (by decide)) (fun hm => Kind_i32 hm) (fun _ _ hm hlay => RArith_3z hm (by decide) (k := .i32) (by decide) (by decide) (by decide) (fun hm h => RWrap_i32 hm h) ha hb h0) (fun h => absurd h (by decide)) (((if_pos (by decide)).trans rfl).symm) ((if_neg (by decide)).symm) ((if_neg (fun h => nomatch h.2)).symm) ((if_neg (by decide)).symm)).mono fun _ _ h => h.1
      exact (reckons_law (n := wr .i32 ((wr .i32 a).tdiv (wr .i32 b))) (e := 0) (q := 0) (f := 2) (y := wr .i32 ((wr .i32 a).tdiv (wr .i32 b))) (z := 0) (is_ := true) hm hlay (fun hm hlay => Arith_i32_3 hm ha hb h0) (fun hm => Unary_i32_other hm ha (by decide)) (fun hm => Kind_i32 hm) (fun _ _ hm hlay => RArith_3 hm (by decide) (k := .i32) (by decide) (by decide) (by decide) (fun hm h => RWrap_i32 hm h) ha hb h0) (fun h => absurd h (by decide)) (((if_pos (by decide)).trans rfl).symm) ((if_neg (by decide)).symm) ((if_pos ⟨by decide, rfl⟩).symm) ((if_neg (by decide)).symm)).mono fun _ _ h => h.1
    by_cases o4 : op = 4
    · subst o4
      by_cases h0 : wr .i32 b = 0
      · exact (reckons_law (n := 0) (e := 11) (q := 0) (f := 2) (y := 0) (z := 0) (is_ := false) hm hlay (fun hm hlay => Arith_i32_4z hm ha hb h0) (fun hm => Unary_i32_other hm ha (by decide)) (fun hm => Kind_i32 hm) (fun _ _ hm hlay => RArith_4z hm (by decide) (k := .i32) (by decide) (by decide) (by decide) (fun hm h => RWrap_i32 hm h) ha hb h0) (fun h => absurd h (by decide)) (((if_pos (by decide)).trans rfl).symm) ((if_neg (by decide)).symm) ((if_neg (fun h => nomatch h.2)).symm) ((if_neg (by decide)).symm)).mono fun _ _ h => h.1
      exact (reckons_law (n := wr .i32 ((wr .i32 a).tmod (wr .i32 b))) (e := 0) (q := 0) (f := 2) (y := wr .i32 ((wr .i32 a).tmod (wr .i32 b))) (z := 0) (is_ := true) hm hlay (fun hm hlay => Arith_i32_4 hm ha hb h0) (fun hm => Unary_i32_other hm ha (by decide)) (fun hm => Kind_i32 hm) (fun _ _ hm hlay => RArith_4 hm (by decide) (k := .i32) (by decide) (by decide) (by decide) (fun hm h => RWrap_i32 hm h) ha hb h0) (fun h => absurd h (by decide)) (((if_pos (by decide)).trans rfl).symm) ((if_neg (by decide)).symm) ((if_pos ⟨by decide, rfl⟩).symm) ((if_neg (by decide)).symm)).mono fun _ _ h => h.1
    by_cases o5 : op = 5
    · subst o5
      exact (reckons_law (n := bitV (· &&& ·) .i32 (wr .i32 a) (wr .i32 b)) (e := 0) (q := 0) (f := 2) (y := bitV (· &&& ·) .i32 (wr .i32 a) (wr .i32 b)) (z := 0) (is_ := true) hm hlay (fun hm hlay => Arith_i32_5 hm ha hb) (fun hm => Unary_i32_other hm ha (by decide)) (fun hm => Kind_i32 hm) (fun _ _ hm hlay => RArith_5 hm (by decide) (k := .i32) (by decide) (by decide) (by decide) (fun hm h => RWrap_i32 hm h) ha hb) (fun h => absurd h (by decide)) (((if_pos (by decide)).trans rfl).symm) ((if_neg (by decide)).symm) ((if_pos ⟨by decide, rfl⟩).symm) ((if_neg (by decide)).symm)).mono fun _ _ h => h.1
    by_cases o6 : op = 6
    · subst o6
      exact (reckons_law (n := bitV (· ||| ·) .i32 (wr .i32 a) (wr .i32 b)) (e := 0) (q := 0) (f := 2) (y := bitV (· ||| ·) .i32 (wr .i32 a) (wr .i32 b)) (z := 0) (is_ := true) hm hlay (fun hm hlay => Arith_i32_6 hm ha hb) (fun hm => Unary_i32_other hm ha (by decide)) (fun hm => Kind_i32 hm) (fun _ _ hm hlay => RArith_6 hm (by decide) (k := .i32) (by decide) (by decide) (by decide) (fun hm h => RWrap_i32 hm h) ha hb) (fun h => absurd h (by decide)) (((if_pos (by decide)).trans rfl).symm) ((if_neg (by decide)).symm) ((if_pos ⟨by decide, rfl⟩).symm) ((if_neg (by decide)).symm)).mono fun _ _ h => h.1
    by_cases o7 : op = 7
    · subst o7
      exact (reckons_law (n := bitV (· ^^^ ·) .i32 (wr .i32 a) (wr .i32 b)) (e := 0) (q := 0) (f := 2) (y := bitV (· ^^^ ·) .i32 (wr .i32 a) (wr .i32 b)) (z := 0) (is_ := true) hm hlay (fun hm hlay => Arith_i32_7 hm ha hb) (fun hm => Unary_i32_other hm ha (by decide)) (fun hm => Kind_i32 hm) (fun _ _ hm hlay => RArith_7 hm (by decide) (k := .i32) (by decide) (by decide) (by decide) (fun hm h => RWrap_i32 hm h) ha hb) (fun h => absurd h (by decide)) (((if_pos (by decide)).trans rfl).symm) ((if_neg (by decide)).symm) ((if_pos ⟨by decide, rfl⟩).symm) ((if_neg (by decide)).symm)).mono fun _ _ h => h.1
    by_cases o8 : op = 8
    · subst o8
      by_cases hy : wr .i32 b < 0
      · exact (reckons_law (n := 0) (e := 0) (q := 0) (f := 2) (y := 0) (z := 0) (is_ := true) hm hlay (fun hm hlay => Arith_i32_shl_neg hm ha hy) (fun hm => Unary_i32_other hm ha (by decide)) (fun hm => Kind_i32 hm) (fun _ _ hm hlay => RArith_shl_out (w := 32) hm (by decide) (k := .i32) (by decide) (by decide) (by decide) (fun hm h => RWrap_i32 hm h) (fun hm => width_2 hm) ha hb (.inl hy)) (fun h => absurd h (by decide)) (((if_pos (by decide)).trans rfl).symm) ((if_neg (by decide)).symm) ((if_pos ⟨by decide, rfl⟩).symm) ((if_neg (by decide)).symm)).mono fun _ _ h => h.1
      by_cases hy2 : 32 ≤ wr .i32 b
      · exact (reckons_law (n := 0) (e := 0) (q := 0) (f := 2) (y := 0) (z := 0) (is_ := true) hm hlay (fun hm hlay => Arith_i32_shl_big hm ha (by omega) hy2) (fun hm => Unary_i32_other hm ha (by decide)) (fun hm => Kind_i32 hm) (fun _ _ hm hlay => RArith_shl_out (w := 32) hm (by decide) (k := .i32) (by decide) (by decide) (by decide) (fun hm h => RWrap_i32 hm h) (fun hm => width_2 hm) ha hb (.inr hy2)) (fun h => absurd h (by decide)) (((if_pos (by decide)).trans rfl).symm) ((if_neg (by decide)).symm) ((if_pos ⟨by decide, rfl⟩).symm) ((if_neg (by decide)).symm)).mono fun _ _ h => h.1
      obtain ⟨j, hj⟩ := Int.eq_ofNat_of_zero_le (Int.not_lt.1 hy)
      exact (reckons_law (n := wr .i32 ((wr .i32 a) * 2 ^ j)) (e := 0) (q := 0) (f := 2) (y := wr .i32 ((wr .i32 a) * 2 ^ j)) (z := 0) (is_ := true) hm hlay (fun hm hlay => Arith_i32_shl_in hm ha hj (by omega)) (fun hm => Unary_i32_other hm ha (by decide)) (fun hm => Kind_i32 hm) (fun _ _ hm hlay => RArith_shl_in (w := 32) hm (by decide) (k := .i32) (by decide) (by decide) (by decide) (fun hm h => RWrap_i32 hm h) (fun hm => width_2 hm) ha hb hj (by omega) (by decide)) (fun h => absurd h (by decide)) (((if_pos (by decide)).trans rfl).symm) ((if_neg (by decide)).symm) ((if_pos ⟨by decide, rfl⟩).symm) ((if_neg (by decide)).symm)).mono fun _ _ h => h.1
    by_cases o9 : op = 9
    · subst o9
      by_cases hy : wr .i32 b < 0
      · exact (reckons_law (n := if (wr .i32 a) < 0 then -1 else 0) (e := 0) (q := 0) (f := 2) (y := if (wr .i32 a) < 0 then -1 else 0) (z := 0) (is_ := true) hm hlay (fun hm hlay => Arith_i32_shr_neg hm ha hy) (fun hm => Unary_i32_other hm ha (by decide)) (fun hm => Kind_i32 hm) (fun _ _ hm hlay => RArith_shr_out (w := 32) hm (by decide) (k := .i32) (by decide) (by decide) (by decide) (fun hm h => RWrap_i32 hm h) (fun hm => width_2 hm) ha hb (.inl hy)) (fun h => absurd h (by decide)) (((if_pos (by decide)).trans rfl).symm) ((if_neg (by decide)).symm) ((if_pos ⟨by decide, rfl⟩).symm) ((if_neg (by decide)).symm)).mono fun _ _ h => h.1
      by_cases hy2 : 32 ≤ wr .i32 b
      · exact (reckons_law (n := if (wr .i32 a) < 0 then -1 else 0) (e := 0) (q := 0) (f := 2) (y := if (wr .i32 a) < 0 then -1 else 0) (z := 0) (is_ := true) hm hlay (fun hm hlay => Arith_i32_shr_big hm ha (by omega) hy2) (fun hm => Unary_i32_other hm ha (by decide)) (fun hm => Kind_i32 hm) (fun _ _ hm hlay => RArith_shr_out (w := 32) hm (by decide) (k := .i32) (by decide) (by decide) (by decide) (fun hm h => RWrap_i32 hm h) (fun hm => width_2 hm) ha hb (.inr hy2)) (fun h => absurd h (by decide)) (((if_pos (by decide)).trans rfl).symm) ((if_neg (by decide)).symm) ((if_pos ⟨by decide, rfl⟩).symm) ((if_neg (by decide)).symm)).mono fun _ _ h => h.1
      obtain ⟨j, hj⟩ := Int.eq_ofNat_of_zero_le (Int.not_lt.1 hy)
      exact (reckons_law (n := (wr .i32 a).fdiv (2 ^ j)) (e := 0) (q := 0) (f := 2) (y := (wr .i32 a).fdiv (2 ^ j)) (z := 0) (is_ := true) hm hlay (fun hm hlay => Arith_i32_shr_in hm ha hj (by omega)) (fun hm => Unary_i32_other hm ha (by decide)) (fun hm => Kind_i32 hm) (fun _ _ hm hlay => RArith_shr_in (w := 32) hm (by decide) (k := .i32) (by decide) (by decide) (by decide) (fun hm h => RWrap_i32 hm h) (fun hm => width_2 hm) ha hb hj (by omega) (by decide)) (fun h => absurd h (by decide)) (((if_pos (by decide)).trans rfl).symm) ((if_neg (by decide)).symm) ((if_pos ⟨by decide, rfl⟩).symm) ((if_neg (by decide)).symm)).mono fun _ _ h => h.1
    by_cases o16 : op = 16
    · subst o16
      exact (reckons_law (n := 0) (e := 2) (q := wr .i32 (0 - (wr .i32 a))) (f := 0) (y := 0) (z := wr .i32 (0 - (wr .i32 a))) (is_ := true) hm hlay (fun hm hlay => Arith_i32_other hm (by decide)) (fun hm => Unary_i32_16 hm ha) (fun hm => Kind_i32 hm) (fun h => absurd h (by decide)) (fun _ _ hm => RUnary_16 hm (by decide) (k := .i32) (by decide) (by decide) (by decide) (fun hm h => RWrap_i32 hm h) ha) ((if_neg (by decide)).symm) ((if_pos (by decide)).symm) ((if_neg (fun h => absurd h.1 (by decide))).symm) ((if_pos (by decide)).symm)).mono fun _ _ h => h.1
    by_cases o17 : op = 17
    · subst o17
      exact (reckons_law (n := 0) (e := 2) (q := wr .i32 (-1 - (wr .i32 a))) (f := 0) (y := 0) (z := wr .i32 (-1 - (wr .i32 a))) (is_ := true) hm hlay (fun hm hlay => Arith_i32_other hm (by decide)) (fun hm => Unary_i32_17 hm ha) (fun hm => Kind_i32 hm) (fun h => absurd h (by decide)) (fun _ _ hm => RUnary_17 hm (by decide) (k := .i32) (by decide) (by decide) (by decide) (fun hm h => RWrap_i32 hm h) ha) ((if_neg (by decide)).symm) ((if_pos (by decide)).symm) ((if_neg (fun h => absurd h.1 (by decide))).symm) ((if_pos (by decide)).symm)).mono fun _ _ h => h.1
    by_cases o18 : op = 18
    · subst o18
      exact (reckons_law (n := 0) (e := 2) (q := if (wr .i32 a) = 0 then 1 else 0) (f := 0) (y := 0) (z := if (wr .i32 a) = 0 then 1 else 0) (is_ := true) hm hlay (fun hm hlay => Arith_i32_other hm (by decide)) (fun hm => Unary_i32_18 hm ha) (fun hm => Kind_i32 hm) (fun h => absurd h (by decide)) (fun _ _ hm => RUnary_18 hm (by decide) (k := .i32) (by decide) (by decide) (by decide) (fun hm h => RWrap_i32 hm h) ha) ((if_neg (by decide)).symm) ((if_pos (by decide)).symm) ((if_neg (fun h => absurd h.1 (by decide))).symm) ((if_pos (by decide)).symm)).mono fun _ _ h => h.1
    exact (reckons_law (n := 0) (e := 2) (q := 0) (f := 2) (y := 0) (z := 0) (is_ := true) hm hlay (fun hm hlay => Arith_i32_other hm (by omega)) (fun hm => Unary_i32_other hm ha (by omega)) (fun hm => Kind_i32 hm) (fun h => absurd h (by omega)) (fun h => absurd h (by omega)) ((if_neg (by omega)).symm) ((if_neg (by omega)).symm) ((if_neg (fun h => absurd h.1 (by omega))).symm) ((if_neg (by omega)).symm)).mono fun _ _ h => h.1
  by_cases h3 : kind = 3
  · subst h3
    by_cases o0 : op = 0
    · subst o0
      exact (reckons_law (n := wr .i64 ((wr .i64 a) + (wr .i64 b))) (e := 0) (q := 0) (f := 2) (y := wr .i64 ((wr .i64 a) + (wr .i64 b))) (z := 0) (is_ := true) hm hlay (fun hm hlay => Arith_i64_0 hm ha hb) (fun hm => Unary_i64_other hm ha (by decide)) (fun hm => Kind_i64 hm) (fun _ _ hm hlay => RArith_0 hm (by decide) (k := .i64) (by decide) (by decide) (by decide) (fun hm h => RWrap_i64 hm h) ha hb) (fun h => absurd h (by decide)) (((if_pos (by decide)).trans rfl).symm) ((if_neg (by decide)).symm) ((if_pos ⟨by decide, rfl⟩).symm) ((if_neg (by decide)).symm)).mono fun _ _ h => h.1
    by_cases o1 : op = 1
    · subst o1
      exact (reckons_law (n := wr .i64 ((wr .i64 a) - (wr .i64 b))) (e := 0) (q := 0) (f := 2) (y := wr .i64 ((wr .i64 a) - (wr .i64 b))) (z := 0) (is_ := true) hm hlay (fun hm hlay => Arith_i64_1 hm ha hb) (fun hm => Unary_i64_other hm ha (by decide)) (fun hm => Kind_i64 hm) (fun _ _ hm hlay => RArith_1 hm (by decide) (k := .i64) (by decide) (by decide) (by decide) (fun hm h => RWrap_i64 hm h) ha hb) (fun h => absurd h (by decide)) (((if_pos (by decide)).trans rfl).symm) ((if_neg (by decide)).symm) ((if_pos ⟨by decide, rfl⟩).symm) ((if_neg (by decide)).symm)).mono fun _ _ h => h.1
    by_cases o2 : op = 2
    · subst o2
      exact (reckons_law (n := wr .i64 ((wr .i64 a) * (wr .i64 b))) (e := 0) (q := 0) (f := 2) (y := wr .i64 ((wr .i64 a) * (wr .i64 b))) (z := 0) (is_ := true) hm hlay (fun hm hlay => Arith_i64_2 hm ha hb) (fun hm => Unary_i64_other hm ha (by decide)) (fun hm => Kind_i64 hm) (fun _ _ hm hlay => RArith_2 hm (by decide) (k := .i64) (by decide) (by decide) (by decide) (fun hm h => RWrap_i64 hm h) ha hb) (fun h => absurd h (by decide)) (((if_pos (by decide)).trans rfl).symm) ((if_neg (by decide)).symm) ((if_pos ⟨by decide, rfl⟩).symm) ((if_neg (by decide)).symm)).mono fun _ _ h => h.1
    by_cases o3 : op = 3
    · subst o3
      by_cases h0 : wr .i64 b = 0
      · exact (reckons_law (n := 0) (e := 11) (q := 0) (f := 2) (y := 0) (z := 0) (is_ := false) hm hlay (fun hm hlay => Arith_i64_3z hm ha hb h0) (fun hm => Unary_i64_other hm ha (by decide)) (fun hm => Kind_i64 hm) (fun _ _ hm hlay => RArith_3z hm (by decide) (k := .i64) (by decide) (by decide) (by decide) (fun hm h => RWrap_i64 hm h) ha hb h0) (fun h => absurd h (by decide)) (((if_pos (by decide)).trans rfl).symm) ((if_neg (by decide)).symm) ((if_neg (fun h => nomatch h.2)).symm) ((if_neg (by decide)).symm)).mono fun _ _ h => h.1
      exact (reckons_law (n := wr .i64 ((wr .i64 a).tdiv (wr .i64 b))) (e := 0) (q := 0) (f := 2) (y := wr .i64 ((wr .i64 a).tdiv (wr .i64 b))) (z := 0) (is_ := true) hm hlay (fun hm hlay => Arith_i64_3 hm ha hb h0) (fun hm => Unary_i64_other hm ha (by decide)) (fun hm => Kind_i64 hm) (fun _ _ hm hlay => RArith_3 hm (by decide) (k := .i64) (by decide) (by decide) (by decide) (fun hm h => RWrap_i64 hm h) ha hb h0) (fun h => absurd h (by decide)) (((if_pos (by decide)).trans rfl).symm) ((if_neg (by decide)).symm) ((if_pos ⟨by decide, rfl⟩).symm) ((if_neg (by decide)).symm)).mono fun _ _ h => h.1
    by_cases o4 : op = 4
    · subst o4
      by_cases h0 : wr .i64 b = 0
      · exact (reckons_law (n := 0) (e := 11) (q := 0) (f := 2) (y := 0) (z := 0) (is_ := false) hm hlay (fun hm hlay => Arith_i64_4z hm ha hb h0) (fun hm => Unary_i64_other hm ha (by decide)) (fun hm => Kind_i64 hm) (fun _ _ hm hlay => RArith_4z hm (by decide) (k := .i64) (by decide) (by decide) (by decide) (fun hm h => RWrap_i64 hm h) ha hb h0) (fun h => absurd h (by decide)) (((if_pos (by decide)).trans rfl).symm) ((if_neg (by decide)).symm) ((if_neg (fun h => nomatch h.2)).symm) ((if_neg (by decide)).symm)).mono fun _ _ h => h.1
      exact (reckons_law (n := wr .i64 ((wr .i64 a).tmod (wr .i64 b))) (e := 0) (q := 0) (f := 2) (y := wr .i64 ((wr .i64 a).tmod (wr .i64 b))) (z := 0) (is_ := true) hm hlay (fun hm hlay => Arith_i64_4 hm ha hb h0) (fun hm => Unary_i64_other hm ha (by decide)) (fun hm => Kind_i64 hm) (fun _ _ hm hlay => RArith_4 hm (by decide) (k := .i64) (by decide) (by decide) (by decide) (fun hm h => RWrap_i64 hm h) ha hb h0) (fun h => absurd h (by decide)) (((if_pos (by decide)).trans rfl).symm) ((if_neg (by decide)).symm) ((if_pos ⟨by decide, rfl⟩).symm) ((if_neg (by decide)).symm)).mono fun _ _ h => h.1
    by_cases o5 : op = 5
    · subst o5
      exact (reckons_law (n := bitV (· &&& ·) .i64 (wr .i64 a) (wr .i64 b)) (e := 0) (q := 0) (f := 2) (y := bitV (· &&& ·) .i64 (wr .i64 a) (wr .i64 b)) (z := 0) (is_ := true) hm hlay (fun hm hlay => Arith_i64_5 hm ha hb) (fun hm => Unary_i64_other hm ha (by decide)) (fun hm => Kind_i64 hm) (fun _ _ hm hlay => RArith_5 hm (by decide) (k := .i64) (by decide) (by decide) (by decide) (fun hm h => RWrap_i64 hm h) ha hb) (fun h => absurd h (by decide)) (((if_pos (by decide)).trans rfl).symm) ((if_neg (by decide)).symm) ((if_pos ⟨by decide, rfl⟩).symm) ((if_neg (by decide)).symm)).mono fun _ _ h => h.1
    by_cases o6 : op = 6
    · subst o6
      exact (reckons_law (n := bitV (· ||| ·) .i64 (wr .i64 a) (wr .i64 b)) (e := 0) (q := 0) (f := 2) (y := bitV (· ||| ·) .i64 (wr .i64 a) (wr .i64 b)) (z := 0) (is_ := true) hm hlay (fun hm hlay => Arith_i64_6 hm ha hb) (fun hm => Unary_i64_other hm ha (by decide)) (fun hm => Kind_i64 hm) (fun _ _ hm hlay => RArith_6 hm (by decide) (k := .i64) (by decide) (by decide) (by decide) (fun hm h => RWrap_i64 hm h) ha hb) (fun h => absurd h (by decide)) (((if_pos (by decide)).trans rfl).symm) ((if_neg (by decide)).symm) ((if_pos ⟨by decide, rfl⟩).symm) ((if_neg (by decide)).symm)).mono fun _ _ h => h.1
    by_cases o7 : op = 7
    · subst o7
      exact (reckons_law (n := bitV (· ^^^ ·) .i64 (wr .i64 a) (wr .i64 b)) (e := 0) (q := 0) (f := 2) (y := bitV (· ^^^ ·) .i64 (wr .i64 a) (wr .i64 b)) (z := 0) (is_ := true) hm hlay (fun hm hlay => Arith_i64_7 hm ha hb) (fun hm => Unary_i64_other hm ha (by decide)) (fun hm => Kind_i64 hm) (fun _ _ hm hlay => RArith_7 hm (by decide) (k := .i64) (by decide) (by decide) (by decide) (fun hm h => RWrap_i64 hm h) ha hb) (fun h => absurd h (by decide)) (((if_pos (by decide)).trans rfl).symm) ((if_neg (by decide)).symm) ((if_pos ⟨by decide, rfl⟩).symm) ((if_neg (by decide)).symm)).mono fun _ _ h => h.1
    by_cases o8 : op = 8
    · subst o8
      by_cases hy : wr .i32 b < 0
      · exact (reckons_law (n := 0) (e := 0) (q := 0) (f := 2) (y := 0) (z := 0) (is_ := true) hm hlay (fun hm hlay => Arith_i64_shl_neg hm ha hy) (fun hm => Unary_i64_other hm ha (by decide)) (fun hm => Kind_i64 hm) (fun _ _ hm hlay => RArith_shl_out (w := 64) hm (by decide) (k := .i64) (by decide) (by decide) (by decide) (fun hm h => RWrap_i64 hm h) (fun hm => width_3 hm) ha hb (.inl hy)) (fun h => absurd h (by decide)) (((if_pos (by decide)).trans rfl).symm) ((if_neg (by decide)).symm) ((if_pos ⟨by decide, rfl⟩).symm) ((if_neg (by decide)).symm)).mono fun _ _ h => h.1
      by_cases hy2 : 64 ≤ wr .i32 b
      · exact (reckons_law (n := 0) (e := 0) (q := 0) (f := 2) (y := 0) (z := 0) (is_ := true) hm hlay (fun hm hlay => Arith_i64_shl_big hm ha (by omega) hy2) (fun hm => Unary_i64_other hm ha (by decide)) (fun hm => Kind_i64 hm) (fun _ _ hm hlay => RArith_shl_out (w := 64) hm (by decide) (k := .i64) (by decide) (by decide) (by decide) (fun hm h => RWrap_i64 hm h) (fun hm => width_3 hm) ha hb (.inr hy2)) (fun h => absurd h (by decide)) (((if_pos (by decide)).trans rfl).symm) ((if_neg (by decide)).symm) ((if_pos ⟨by decide, rfl⟩).symm) ((if_neg (by decide)).symm)).mono fun _ _ h => h.1
      obtain ⟨j, hj⟩ := Int.eq_ofNat_of_zero_le (Int.not_lt.1 hy)
      exact (reckons_law (n := wr .i64 ((wr .i64 a) * 2 ^ j)) (e := 0) (q := 0) (f := 2) (y := wr .i64 ((wr .i64 a) * 2 ^ j)) (z := 0) (is_ := true) hm hlay (fun hm hlay => Arith_i64_shl_in hm ha hj (by omega)) (fun hm => Unary_i64_other hm ha (by decide)) (fun hm => Kind_i64 hm) (fun _ _ hm hlay => RArith_shl_in (w := 64) hm (by decide) (k := .i64) (by decide) (by decide) (by decide) (fun hm h => RWrap_i64 hm h) (fun hm => width_3 hm) ha hb hj (by omega) (by decide)) (fun h => absurd h (by decide)) (((if_pos (by decide)).trans rfl).symm) ((if_neg (by decide)).symm) ((if_pos ⟨by decide, rfl⟩).symm) ((if_neg (by decide)).symm)).mono fun _ _ h => h.1
    by_cases o9 : op = 9
    · subst o9
      by_cases hy : wr .i32 b < 0
      · exact (reckons_law (n := if (wr .i64 a) < 0 then -1 else 0) (e := 0) (q := 0) (f := 2) (y := if (wr .i64 a) < 0 then -1 else 0) (z := 0) (is_ := true) hm hlay (fun hm hlay => Arith_i64_shr_neg hm ha hy) (fun hm => Unary_i64_other hm ha (by decide)) (fun hm => Kind_i64 hm) (fun _ _ hm hlay => RArith_shr_out (w := 64) hm (by decide) (k := .i64) (by decide) (by decide) (by decide) (fun hm h => RWrap_i64 hm h) (fun hm => width_3 hm) ha hb (.inl hy)) (fun h => absurd h (by decide)) (((if_pos (by decide)).trans rfl).symm) ((if_neg (by decide)).symm) ((if_pos ⟨by decide, rfl⟩).symm) ((if_neg (by decide)).symm)).mono fun _ _ h => h.1
      by_cases hy2 : 64 ≤ wr .i32 b
      · exact (reckons_law (n := if (wr .i64 a) < 0 then -1 else 0) (e := 0) (q := 0) (f := 2) (y := if (wr .i64 a) < 0 then -1 else 0) (z := 0) (is_ := true) hm hlay (fun hm hlay => Arith_i64_shr_big hm ha (by omega) hy2) (fun hm => Unary_i64_other hm ha (by decide)) (fun hm => Kind_i64 hm) (fun _ _ hm hlay => RArith_shr_out (w := 64) hm (by decide) (k := .i64) (by decide) (by decide) (by decide) (fun hm h => RWrap_i64 hm h) (fun hm => width_3 hm) ha hb (.inr hy2)) (fun h => absurd h (by decide)) (((if_pos (by decide)).trans rfl).symm) ((if_neg (by decide)).symm) ((if_pos ⟨by decide, rfl⟩).symm) ((if_neg (by decide)).symm)).mono fun _ _ h => h.1
      obtain ⟨j, hj⟩ := Int.eq_ofNat_of_zero_le (Int.not_lt.1 hy)
      exact (reckons_law (n := (wr .i64 a).fdiv (2 ^ j)) (e := 0) (q := 0) (f := 2) (y := (wr .i64 a).fdiv (2 ^ j)) (z := 0) (is_ := true) hm hlay (fun hm hlay => Arith_i64_shr_in hm ha hj (by omega)) (fun hm => Unary_i64_other hm ha (by decide)) (fun hm => Kind_i64 hm) (fun _ _ hm hlay => RArith_shr_in (w := 64) hm (by decide) (k := .i64) (by decide) (by decide) (by decide) (fun hm h => RWrap_i64 hm h) (fun hm => width_3 hm) ha hb hj (by omega) (by decide)) (fun h => absurd h (by decide)) (((if_pos (by decide)).trans rfl).symm) ((if_neg (by decide)).symm) ((if_pos ⟨by decide, rfl⟩).symm) ((if_neg (by decide)).symm)).mono fun _ _ h => h.1
    by_cases o16 : op = 16
    · subst o16
      exact (reckons_law (n := 0) (e := 2) (q := wr .i64 (0 - (wr .i64 a))) (f := 0) (y := 0) (z := wr .i64 (0 - (wr .i64 a))) (is_ := true) hm hlay (fun hm hlay => Arith_i64_other hm (by decide)) (fun hm => Unary_i64_16 hm ha) (fun hm => Kind_i64 hm) (fun h => absurd h (by decide)) (fun _ _ hm => RUnary_16 hm (by decide) (k := .i64) (by decide) (by decide) (by decide) (fun hm h => RWrap_i64 hm h) ha) ((if_neg (by decide)).symm) ((if_pos (by decide)).symm) ((if_neg (fun h => absurd h.1 (by decide))).symm) ((if_pos (by decide)).symm)).mono fun _ _ h => h.1
    by_cases o17 : op = 17
    · subst o17
      exact (reckons_law (n := 0) (e := 2) (q := wr .i64 (-1 - (wr .i64 a))) (f := 0) (y := 0) (z := wr .i64 (-1 - (wr .i64 a))) (is_ := true) hm hlay (fun hm hlay => Arith_i64_other hm (by decide)) (fun hm => Unary_i64_17 hm ha) (fun hm => Kind_i64 hm) (fun h => absurd h (by decide)) (fun _ _ hm => RUnary_17 hm (by decide) (k := .i64) (by decide) (by decide) (by decide) (fun hm h => RWrap_i64 hm h) ha) ((if_neg (by decide)).symm) ((if_pos (by decide)).symm) ((if_neg (fun h => absurd h.1 (by decide))).symm) ((if_pos (by decide)).symm)).mono fun _ _ h => h.1
    by_cases o18 : op = 18
    · subst o18
      exact (reckons_law (n := 0) (e := 2) (q := 0) (f := 2) (y := 0) (z := 0) (is_ := true) hm hlay (fun hm hlay => Arith_i64_other hm (by decide)) (fun hm => Unary_i64_18 hm ha) (fun hm => Kind_i64 hm) (fun h => absurd h (by decide)) (fun h => absurd h (by decide)) ((if_neg (by decide)).symm) ((if_neg (by decide)).symm) ((if_neg (fun h => absurd h.1 (by decide))).symm) ((if_neg (by decide)).symm)).mono fun _ _ h => h.1
    exact (reckons_law (n := 0) (e := 2) (q := 0) (f := 2) (y := 0) (z := 0) (is_ := true) hm hlay (fun hm hlay => Arith_i64_other hm (by omega)) (fun hm => Unary_i64_other hm ha (by omega)) (fun hm => Kind_i64 hm) (fun h => absurd h (by omega)) (fun h => absurd h (by omega)) ((if_neg (by omega)).symm) ((if_neg (by omega)).symm) ((if_neg (fun h => absurd h.1 (by omega))).symm) ((if_neg (by omega)).symm)).mono fun _ _ h => h.1
  by_cases h4 : kind = 4
  · subst h4
    by_cases o0 : op = 0
    · subst o0
      exact (reckons_law (n := realV .add (flb (w4 a)) (flb (w4 b))) (e := 0) (q := 0) (f := 2) (y := realV .add (flb (w4 a)) (flb (w4 b))) (z := 0) (is_ := true) hm hlay (fun hm hlay => Arith_real_0 hm hlay ha hb) (fun hm => Unary_real_other hm ha (by decide)) (fun hm => Kind_real hm) (fun _ _ hm hlay => RArith_real_0 hm hlay ha hb) (fun h => absurd h (by decide)) (((if_pos (by decide)).trans rfl).symm) ((if_neg (by decide)).symm) ((if_pos ⟨by decide, rfl⟩).symm) ((if_neg (by decide)).symm)).mono fun _ _ h => h.1
    by_cases o1 : op = 1
    · subst o1
      exact (reckons_law (n := realV .sub (flb (w4 a)) (flb (w4 b))) (e := 0) (q := 0) (f := 2) (y := realV .sub (flb (w4 a)) (flb (w4 b))) (z := 0) (is_ := true) hm hlay (fun hm hlay => Arith_real_1 hm hlay ha hb) (fun hm => Unary_real_other hm ha (by decide)) (fun hm => Kind_real hm) (fun _ _ hm hlay => RArith_real_1 hm hlay ha hb) (fun h => absurd h (by decide)) (((if_pos (by decide)).trans rfl).symm) ((if_neg (by decide)).symm) ((if_pos ⟨by decide, rfl⟩).symm) ((if_neg (by decide)).symm)).mono fun _ _ h => h.1
    by_cases o2 : op = 2
    · subst o2
      exact (reckons_law (n := realV .mul (flb (w4 a)) (flb (w4 b))) (e := 0) (q := 0) (f := 2) (y := realV .mul (flb (w4 a)) (flb (w4 b))) (z := 0) (is_ := true) hm hlay (fun hm hlay => Arith_real_2 hm hlay ha hb) (fun hm => Unary_real_other hm ha (by decide)) (fun hm => Kind_real hm) (fun _ _ hm hlay => RArith_real_2 hm hlay ha hb) (fun h => absurd h (by decide)) (((if_pos (by decide)).trans rfl).symm) ((if_neg (by decide)).symm) ((if_pos ⟨by decide, rfl⟩).symm) ((if_neg (by decide)).symm)).mono fun _ _ h => h.1
    by_cases o3 : op = 3
    · subst o3
      exact (reckons_law (n := realV .quo (flb (w4 a)) (flb (w4 b))) (e := 0) (q := 0) (f := 2) (y := realV .quo (flb (w4 a)) (flb (w4 b))) (z := 0) (is_ := true) hm hlay (fun hm hlay => Arith_real_3 hm hlay ha hb) (fun hm => Unary_real_other hm ha (by decide)) (fun hm => Kind_real hm) (fun _ _ hm hlay => RArith_real_3 hm hlay ha hb) (fun h => absurd h (by decide)) (((if_pos (by decide)).trans rfl).symm) ((if_neg (by decide)).symm) ((if_pos ⟨by decide, rfl⟩).symm) ((if_neg (by decide)).symm)).mono fun _ _ h => h.1
    by_cases o4 : op = 4
    · subst o4
      exact (reckons_law (n := 0) (e := 2) (q := 0) (f := 2) (y := 0) (z := 0) (is_ := true) hm hlay (fun hm hlay => Arith_real_4 hm) (fun hm => Unary_real_other hm ha (by decide)) (fun hm => Kind_real hm) (fun h => absurd h (by decide)) (fun h => absurd h (by decide)) ((if_neg (by decide)).symm) ((if_neg (by decide)).symm) ((if_neg (fun h => absurd h.1 (by decide))).symm) ((if_neg (by decide)).symm)).mono fun _ _ h => h.1
    by_cases o5 : op = 5
    · subst o5
      exact (reckons_law (n := 0) (e := 2) (q := 0) (f := 2) (y := 0) (z := 0) (is_ := true) hm hlay (fun hm hlay => Arith_real_5 hm) (fun hm => Unary_real_other hm ha (by decide)) (fun hm => Kind_real hm) (fun h => absurd h (by decide)) (fun h => absurd h (by decide)) ((if_neg (by decide)).symm) ((if_neg (by decide)).symm) ((if_neg (fun h => absurd h.1 (by decide))).symm) ((if_neg (by decide)).symm)).mono fun _ _ h => h.1
    by_cases o6 : op = 6
    · subst o6
      exact (reckons_law (n := 0) (e := 2) (q := 0) (f := 2) (y := 0) (z := 0) (is_ := true) hm hlay (fun hm hlay => Arith_real_6 hm) (fun hm => Unary_real_other hm ha (by decide)) (fun hm => Kind_real hm) (fun h => absurd h (by decide)) (fun h => absurd h (by decide)) ((if_neg (by decide)).symm) ((if_neg (by decide)).symm) ((if_neg (fun h => absurd h.1 (by decide))).symm) ((if_neg (by decide)).symm)).mono fun _ _ h => h.1
    by_cases o7 : op = 7
    · subst o7
      exact (reckons_law (n := 0) (e := 2) (q := 0) (f := 2) (y := 0) (z := 0) (is_ := true) hm hlay (fun hm hlay => Arith_real_7 hm) (fun hm => Unary_real_other hm ha (by decide)) (fun hm => Kind_real hm) (fun h => absurd h (by decide)) (fun h => absurd h (by decide)) ((if_neg (by decide)).symm) ((if_neg (by decide)).symm) ((if_neg (fun h => absurd h.1 (by decide))).symm) ((if_neg (by decide)).symm)).mono fun _ _ h => h.1
    by_cases o8 : op = 8
    · subst o8
      exact (reckons_law (n := 0) (e := 2) (q := 0) (f := 2) (y := 0) (z := 0) (is_ := true) hm hlay (fun hm hlay => Arith_real_8 hm) (fun hm => Unary_real_other hm ha (by decide)) (fun hm => Kind_real hm) (fun h => absurd h (by decide)) (fun h => absurd h (by decide)) ((if_neg (by decide)).symm) ((if_neg (by decide)).symm) ((if_neg (fun h => absurd h.1 (by decide))).symm) ((if_neg (by decide)).symm)).mono fun _ _ h => h.1
    by_cases o9 : op = 9
    · subst o9
      exact (reckons_law (n := 0) (e := 2) (q := 0) (f := 2) (y := 0) (z := 0) (is_ := true) hm hlay (fun hm hlay => Arith_real_9 hm) (fun hm => Unary_real_other hm ha (by decide)) (fun hm => Kind_real hm) (fun h => absurd h (by decide)) (fun h => absurd h (by decide)) ((if_neg (by decide)).symm) ((if_neg (by decide)).symm) ((if_neg (fun h => absurd h.1 (by decide))).symm) ((if_neg (by decide)).symm)).mono fun _ _ h => h.1
    by_cases o16 : op = 16
    · subst o16
      exact (reckons_law (n := 0) (e := 2) (q := negR (w4 a)) (f := 0) (y := 0) (z := negR (w4 a)) (is_ := true) hm hlay (fun hm hlay => Arith_real_other hm (by decide)) (fun hm => Unary_real_16 hm ha) (fun hm => Kind_real hm) (fun h => absurd h (by decide)) (fun _ _ hm => RUnary_real hm ha) ((if_neg (by decide)).symm) ((if_pos (by decide)).symm) ((if_neg (fun h => absurd h.1 (by decide))).symm) ((if_pos (by decide)).symm)).mono fun _ _ h => h.1
    by_cases o17 : op = 17
    · subst o17
      exact (reckons_law (n := 0) (e := 2) (q := 0) (f := 2) (y := 0) (z := 0) (is_ := true) hm hlay (fun hm hlay => Arith_real_other hm (by decide)) (fun hm => Unary_real_17 hm ha) (fun hm => Kind_real hm) (fun h => absurd h (by decide)) (fun h => absurd h (by decide)) ((if_neg (by decide)).symm) ((if_neg (by decide)).symm) ((if_neg (fun h => absurd h.1 (by decide))).symm) ((if_neg (by decide)).symm)).mono fun _ _ h => h.1
    by_cases o18 : op = 18
    · subst o18
      exact (reckons_law (n := 0) (e := 2) (q := 0) (f := 2) (y := 0) (z := 0) (is_ := true) hm hlay (fun hm hlay => Arith_real_other hm (by decide)) (fun hm => Unary_real_18 hm ha) (fun hm => Kind_real hm) (fun h => absurd h (by decide)) (fun h => absurd h (by decide)) ((if_neg (by decide)).symm) ((if_neg (by decide)).symm) ((if_neg (fun h => absurd h.1 (by decide))).symm) ((if_neg (by decide)).symm)).mono fun _ _ h => h.1
    exact (reckons_law (n := 0) (e := 2) (q := 0) (f := 2) (y := 0) (z := 0) (is_ := true) hm hlay (fun hm hlay => Arith_real_other hm (by omega)) (fun hm => Unary_real_other hm ha (by omega)) (fun hm => Kind_real hm) (fun h => absurd h (by omega)) (fun h => absurd h (by omega)) ((if_neg (by omega)).symm) ((if_neg (by omega)).symm) ((if_neg (fun h => absurd h.1 (by omega))).symm) ((if_neg (by omega)).symm)).mono fun _ _ h => h.1
  exact (reckons_none hm hlay h1 h2 h3 h4).mono fun _ _ h => h.1
theorem reckons_calls (kind : Int) (op : Int) (a : Int) (b : Int) (wkind : (Lit.int .i64 kind).wf = true) (wop : (Lit.int .i64 op).wf = true) (wa : (Lit.int .i64 a).wf = true) (wb : (Lit.int .i64 b).wf = true) {W : World} (hl : LiesBy Tryz.prog W lays) : Calls Tryz.prog 8 #[.agg #[.int .i64 kind, .int .i64 op, .int .i64 a, .int .i64 b]] W fun e W' => e = .returned (.bool true) ∧ Still W W' :=
  calls_fc (plainNames_of names) mixed (fun tt => reckons_fc kind op a b (fit_wf wa) (fit_wf wb) (Nat.zero_le _) (laid0 tt)) Tryz.func8 (by kernel_rfl) hl (by kernel_rfl) (fun _ => .cons (.agg (.cons (.int _ _) (.cons (.int _ _) (.cons (.int _ _) (.cons (.int _ _) .nil))))) .nil)

set_option maxRecDepth 100000 in
theorem reckons_lifted (os : Os) (started : os.Started) (H : Type) (enc : TypeId × Value → H) :
    ReturnsInHanded {} Tryz.checked os 8 .any (fun w args => (Rows.numberReckonsSpec.pre enc Tryz.prog Tryz.f8 Rows.numberReckonsRow.domain false w args ∧ laidMetH Tryz.prog Rows.numberReckonsRow.laid w) ∧ sizedMet enc Tryz.prog Tryz.f8 (OpenSpec.ofChange Rows.numberReckonsSpec) false w args)
      (Rows.numberReckonsSpec.post enc Tryz.prog Tryz.f8 false true false false) := by
  refine Ab.returns_shaped (C := Tryz.checked) (X := fun w _ => laidMetH Tryz.prog Rows.numberReckonsRow.laid w) (fun _ _ _ hh h => h.of_heap hh) own started (by kernel_rfl) Tryz.func8
    (ChangeSpec.witness_shaped (enc := enc) (C := Tryz.checked) (os := os) (X := fun w _ => laidMetH Tryz.prog Rows.numberReckonsRow.laid w) false (World.laidAll Tryz.prog os Rows.numberReckonsRow.laid) #[.agg #[.int .i64 0, .int .i64 0, .int .i64 0, .int .i64 0]] 8 (World.laidAll_os _ _ _)
      (World.shaped_of_ZipB (by kernel_rfl) (by kernel_rfl)) (by kernel_rfl) (by kernel_rfl) (by kernel_rfl)
      (by rw [MakeChecks.laidMetH_plain _ _ _ (by kernel_rfl)]; exact laidMet_laidAll _ (by kernel_rfl) (by kernel_rfl))) ?_
  intro W base args ds gs before hsh hval0 hW _ _ hL
  have hval : ∀ (j : Nat) t v, Tryz.f8.params[j]? = some t → args[j]? = some v → Value.okWide Tryz.prog W .any base t v := hval0
  have hW' := hW
  obtain ⟨p, q, hA0, hV, rfl, _, _⟩ := hW
  have hA : DataW.TrodAll enc Tryz.prog W 0 (fun _ => true) true Tryz.f8.params.toList args.toList ds p := hA0
  rw [Tryz.params8] at hA hval
  obtain ⟨v0, d0, rfl, rfl, h0⟩ := trodAll_one hA
  obtain ⟨rfl, rfl⟩ := trodVars_none hV
  obtain ⟨kind, op, a, b, rfl, wkind, wop, wa, wb⟩ := open_calc (hval 0 43 v0 rfl rfl) h0
  simp only [List.append_nil] at hW'
  refine (reckons_calls kind op a b wkind wop wa wb (lies hsh hL)).mono fun e W' ⟨he, hk⟩ => ?_
  subst he
  exact ⟨_, rfl, Ab.post_law (pa := p) (pv := []) hW' (fun _ _ _ => trodAll_mk1 (shut_bool Tryz.underlying4 _)) (fun sp _ => trodAll_mk1 (by obtain ⟨fu, hfu⟩ := h0; exact ⟨fu, (trod_plain_same 10 43 (by kernel_rfl) _ _).symm.trans hfu⟩)) (fun _ _ => rfl) (List.append_nil _).symm hk (ok_one (by kernel_rfl) rfl (okWide_bool_mk Tryz.underlying4 _))⟩

end Go.Proofs.YtmcjihhfgmfcpaaGreatDoor
