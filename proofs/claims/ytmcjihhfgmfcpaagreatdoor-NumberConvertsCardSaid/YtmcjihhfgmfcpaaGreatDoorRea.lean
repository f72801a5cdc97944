/-
  Operations of reals: the bits of a NaN come from the tape, and no answer shows them. Conditions: none.
-/
import Derived.Test.YtmcjihhfgmfcpaaGreatDoorPla
import Derived.Test.YtmcjihhfgmfcpaaGreatDoorProg
import Derived.WalkKit
import Derived.WalkSpells
import Derived.WalkLawsBesides
import Derived.StillTactics
import Derived.ProofKit
import Derived.KernelRfl
namespace Go.Proofs.YtmcjihhfgmfcpaaGreatDoor
open Go Go.Ab
set_option linter.unusedVariables false
set_option linter.unusedSimpArgs false
set_option linter.unusedSectionVars false
variable [Vals]
def Qt (w w' : World) : Prop := (w'.os = w.os ∧ w'.tape = w.tape ∧ w'.output = w.output) ∧ w'.heap = w.heap
def bitsW (b : Nat) : Int := if nanB b then 9221120237041090561 else wr .i64 (Int.ofNat b)
def realV (op : BinOp) (x y : Nat) : Int := match floatBits op .f64 x y with
 | some r => bitsW r
 | none => 9221120237041090561
theorem frombits_run (n : Int) (w : World) : (callFunc 64 #[.int .u64 n]).run Tryz.prog w = .ok (.value (.float .f64 n.toNat)) w := by
 rw [run_callFunc_extern Tryz.func64 rfl rfl (e := Extern.MathFloatBits.float64frombits) (by kernel_rfl) (by kernel_rfl)]
 rfl
theorem tobits_run (n : Nat) (w : World) : (callFunc 66 #[.float .f64 n]).run Tryz.prog w = .ok (.value (.int .u64 n)) w := by
 rw [run_callFunc_extern Tryz.func66 rfl rfl (e := Extern.MathFloatBits.float64bits) (by kernel_rfl) (by kernel_rfl)]
 rfl
theorem nan_bits' (s f : Nat) (hs : s < 2) (hf : f < 4503599627370495) : nanB (s * 9223372036854775808 + 0x7ff0000000000000 + 1 + f) = true := by
 rw [nanB_eq _ (by omega)]
 have h1 : (s * 9223372036854775808 + 0x7ff0000000000000 + 1 + f) / 4503599627370496 = s * 2048 + 2047 := by omega
 have h2 : (s * 9223372036854775808 + 0x7ff0000000000000 + 1 + f) * 4096 = (s * 2048 + 2047) * 18446744073709551616 + (1 + f) * 4096 := by omega
 rw [h1, h2, Nat.mul_add_mod_self_right, Nat.mul_add_mod_self_right]
 rw [decide_eq_true (by omega), decide_eq_true (by omega)]
 rfl
theorem nan_bits (t : Nat) : nanB ((t % 2) * 2 ^ 63 + 0x7ff0000000000000 + 1 + (t / 2) % (2 ^ 52 - 1)) = true :=
 nan_bits' (t % 2) _ (Nat.mod_lt _ (by decide)) (Nat.mod_lt _ (by decide))
theorem arith_run (op : BinOp) (ho : op = .add ∨ op = .sub ∨ op = .mul ∨ op = .quo) (x y : Nat) (w : World) : ∃ r w2, (binOp op 63 (.float .f64 x) (.float .f64 y)).run Tryz.prog w = .ok (.float .f64 r) w2 ∧ realV op x y = bitsW r ∧ r < 18446744073709551616 ∧ Qt w w2 := by
 cases h : floatBits op .f64 x y with
 | some r =>
  refine ⟨r, w, run_float_arith (P := Tryz.prog) w op 63 .f64 x y r h, by unfold realV; rw [h], ?_, ⟨rfl, rfl, rfl⟩, rfl⟩
  have h1 := floatBits_wf h
  simpa [Lit.wf] using h1
 | none =>
  refine ⟨(Question.nanBits .f64 x y).cut (w.tape w.drawn (.nanBits .f64 x y)), w.drew, ?_, ?_, ?_, ?_⟩
  ·unfold floatBits at h
   rcases ho with rfl | rfl | rfl | rfl <;> simp only at h <;> simp [binOp, Op.floatArith, h, Question.forced]
  ·unfold realV
   rw [h]
   simp only [Question.cut, bitsW, nan_bits, if_true]
  ·show (_ % 2) * 2 ^ 63 + 0x7ff0000000000000 + 1 + (_ / 2) % (2 ^ 52 - 1) < _
   omega
  ·exact ⟨⟨rfl, rfl, rfl⟩, rfl⟩
theorem u64_flb (n : Int) : (IntKind.u64.wrap n).toNat = flb n := by unfold flb; rw [wr_eq]
theorem i64_wr (n : Int) : RowKit.wrap64 n = wr .i64 n := by
 rw [wr_eq, show IntKind.i64.wrap n = (if n % 18446744073709551616 ≥ 9223372036854775808 then n % 18446744073709551616 - 18446744073709551616 else n % 18446744073709551616) by unfold IntKind.wrap; simp [IntKind.signed, IntKind.bits]]
 unfold RowKit.wrap64
 split <;> omega
theorem nan_order (n : Nat) : (FloatKind.f64.format.order n n != some .eq) = nanB n := order_self n
set_option maxRecDepth 100000 in
theorem float_any (n : Int) (w : World) : Calls Tryz.prog 36 #[.int .i64 n] w fun e w' => e = .returned (.float .f64 (flb n)) ∧ w = w' := by
 rw [← u64_flb]
 go_enter Tryz.func36, Tryz.ntmps36
 go_wp2_with (simp only [frombits_run])
 go_ret
 exact ⟨rfl, rfl⟩
set_option maxRecDepth 100000 in
theorem bits_any (n : Nat) (w : World) : Calls Tryz.prog 55 #[.float .f64 n] w fun e w' => e = .returned (.int .i64 (bitsW n)) ∧ w = w' := by
 go_enter Tryz.func55, Tryz.ntmps55
 go_wp2_with (simp only [tobits_run])
 all_goals go_ret
 all_goals (unfold bitsW; rw [← nan_order, ← i64_wr]; simp_all)
theorem bits_exp (n : Int) : bits BinOp.and .u64 (IntKind.u64.wrap n / 4503599627370496) 2047 = ((flb n / 4503599627370496 % 2048 : Nat) : Int) := by
 rw [← nan_exp, wr_eq, wr_eq, Int.fdiv_eq_ediv_of_nonneg _ (by decide)]
 rfl
theorem bits_frac (n : Int) : IntKind.u64.wrap (IntKind.u64.wrap n * 4096) = ((flb n * 4096 % 18446744073709551616 : Nat) : Int) := by
 rw [← nan_frac, wr_eq, wr_eq]
 rfl
set_option maxRecDepth 100000 in
theorem isNaN_any (n : Int) (w : World) : Calls Tryz.prog 52 #[.int .i64 n] w fun e w' => e = .returned (.bool (nanB (flb n))) ∧ w = w' := by
 go_enter Tryz.func52, Tryz.ntmps52
 go_wp2
 all_goals go_ret
 ·rename_i h
  rw [bits_exp] at h
  rw [nanB_eq _ (flb_lt n), decide_eq_true (by omega), Bool.true_and]
  refine ⟨congrArg (fun b => Ending.returned (.bool b)) ?_, rfl⟩
  rw [bits_frac, Bool.eq_iff_iff]
  simp only [bne_iff_ne, decide_eq_true_eq]
  omega
 ·rename_i h
  rw [bits_exp] at h
  rw [nanB_eq _ (flb_lt n), decide_eq_false (by omega)]
  exact ⟨rfl, rfl⟩
def w4K (n : Int) : Int := if nanB (flb n) then 9221120237041090561 else n
theorem w4K_bits (n : Nat) (hn : n < 18446744073709551616) : w4K (RowKit.wrap64 n) = bitsW n := by
 have h : flb (wr .i64 n) = n := by
  have h1 := flb_cast (wr .i64 n)
  rw [wr_wr (k := .u64) (k' := .i64) (by decide), wr_in (show IntKind.u64.min ≤ (n : Int) from (show (0 : Int) ≤ n by omega)) (show (n : Int) ≤ 18446744073709551615 by omega)] at h1
  omega
 unfold w4K bitsW
 rw [i64_wr, h]
 rfl
set_option maxRecDepth 100000 in
theorem wrap4_any (n : Int) (w : World) : Calls Tryz.prog 22 #[.int .i64 4, .int .i64 n] w fun e w' => e = .returned (.int .i64 (w4K n)) ∧ w = w' := by
 unfold w4K
 cases hn : nanB (flb n)
 all_goals
  go_enter Tryz.func22, Tryz.ntmps22
  go_wp2_with (go_at_call 52; refine (isNaN_any _ _).mono ?_; rintro e w' ⟨rfl, rfl⟩)
  go_ret
  simp
set_option maxRecDepth 100000 in
theorem add_any (a b : Int) (w : World) : Calls Tryz.prog 128 #[.int .i64 a, .int .i64 b] w fun e w' => e = .returned (.int .i64 (realV .add (flb a) (flb b))) ∧ Qt w w' := by
 obtain ⟨r, w2, hr, hv, -, hq⟩ := arith_run .add (by simp) (flb a) (flb b) w
 rw [hv]
 go_enter Tryz.func128, Tryz.ntmps128
 go_wp2_with (first | (go_at_call 36; refine (float_any _ _).mono ?_; rintro e w' ⟨rfl, rfl⟩) | (go_at_call 55; refine (bits_any _ _).mono ?_; rintro e w' ⟨rfl, rfl⟩) | simp only [hr])
 go_ret
 exact ⟨rfl, hq⟩
set_option maxRecDepth 100000 in
theorem sub_any (a b : Int) (w : World) : Calls Tryz.prog 129 #[.int .i64 a, .int .i64 b] w fun e w' => e = .returned (.int .i64 (realV .sub (flb a) (flb b))) ∧ Qt w w' := by
 obtain ⟨r, w2, hr, hv, -, hq⟩ := arith_run .sub (by simp) (flb a) (flb b) w
 rw [hv]
 go_enter Tryz.func129, Tryz.ntmps129
 go_wp2_with (first | (go_at_call 36; refine (float_any _ _).mono ?_; rintro e w' ⟨rfl, rfl⟩) | (go_at_call 55; refine (bits_any _ _).mono ?_; rintro e w' ⟨rfl, rfl⟩) | simp only [hr])
 go_ret
 exact ⟨rfl, hq⟩
set_option maxRecDepth 100000 in
theorem mul_any (a b : Int) (w : World) : Calls Tryz.prog 130 #[.int .i64 a, .int .i64 b] w fun e w' => e = .returned (.int .i64 (realV .mul (flb a) (flb b))) ∧ Qt w w' := by
 obtain ⟨r, w2, hr, hv, -, hq⟩ := arith_run .mul (by simp) (flb a) (flb b) w
 rw [hv]
 go_enter Tryz.func130, Tryz.ntmps130
 go_wp2_with (first | (go_at_call 36; refine (float_any _ _).mono ?_; rintro e w' ⟨rfl, rfl⟩) | (go_at_call 55; refine (bits_any _ _).mono ?_; rintro e w' ⟨rfl, rfl⟩) | simp only [hr])
 go_ret
 exact ⟨rfl, hq⟩
set_option maxRecDepth 100000 in
theorem quo_any (a b : Int) (w : World) : Calls Tryz.prog 131 #[.int .i64 a, .int .i64 b] w fun e w' => e = .returned (.int .i64 (realV .quo (flb a) (flb b))) ∧ Qt w w' := by
 obtain ⟨r, w2, hr, hv, -, hq⟩ := arith_run .quo (by simp) (flb a) (flb b) w
 rw [hv]
 go_enter Tryz.func131, Tryz.ntmps131
 go_wp2_with (first | (go_at_call 36; refine (float_any _ _).mono ?_; rintro e w' ⟨rfl, rfl⟩) | (go_at_call 55; refine (bits_any _ _).mono ?_; rintro e w' ⟨rfl, rfl⟩) | simp only [hr])
 go_ret
 exact ⟨rfl, hq⟩
set_option maxRecDepth 100000 in
theorem Bits_any (n : Nat) (w : World) (hn : n < 18446744073709551616) : Calls Tryz.prog 58 #[.float .f64 n] w fun e w' => e = .returned (.int .i64 (bitsW n)) ∧ w = w' := by
 go_enter Tryz.func58, Tryz.ntmps58
 go_wp2_with (first | simp only [tobits_run] | (go_at_call 22; refine (wrap4_any _ _).mono ?_; rintro e w' ⟨rfl, rfl⟩))
 go_ret
 rw [w4K_bits n hn]
 exact ⟨rfl, rfl⟩
set_option maxRecDepth 100000 in
theorem radd_any (x y : Nat) (w : World) : Calls Tryz.prog 54 #[.int .i64 0, .float .f64 x, .float .f64 y] w fun e w' => e = .returned (.int .i64 (realV .add x y)) ∧ Qt w w' := by
 obtain ⟨r, w2, hr, hv, hlt, hq⟩ := arith_run .add (by simp) x y w
 rw [hv]
 go_enter Tryz.func54, Tryz.ntmps54
 go_wp2_with (first | (go_at_call 58; refine (Bits_any _ _ hlt).mono ?_; rintro e w' ⟨rfl, rfl⟩) | simp only [hr])
 go_ret
 exact ⟨rfl, hq⟩
set_option maxRecDepth 100000 in
theorem rsub_any (x y : Nat) (w : World) : Calls Tryz.prog 54 #[.int .i64 1, .float .f64 x, .float .f64 y] w fun e w' => e = .returned (.int .i64 (realV .sub x y)) ∧ Qt w w' := by
 obtain ⟨r, w2, hr, hv, hlt, hq⟩ := arith_run .sub (by simp) x y w
 rw [hv]
 go_enter Tryz.func54, Tryz.ntmps54
 go_wp2_with (first | (go_at_call 58; refine (Bits_any _ _ hlt).mono ?_; rintro e w' ⟨rfl, rfl⟩) | simp only [hr])
 go_ret
 exact ⟨rfl, hq⟩
set_option maxRecDepth 100000 in
theorem rmul_any (x y : Nat) (w : World) : Calls Tryz.prog 54 #[.int .i64 2, .float .f64 x, .float .f64 y] w fun e w' => e = .returned (.int .i64 (realV .mul x y)) ∧ Qt w w' := by
 obtain ⟨r, w2, hr, hv, hlt, hq⟩ := arith_run .mul (by simp) x y w
 rw [hv]
 go_enter Tryz.func54, Tryz.ntmps54
 go_wp2_with (first | (go_at_call 58; refine (Bits_any _ _ hlt).mono ?_; rintro e w' ⟨rfl, rfl⟩) | simp only [hr])
 go_ret
 exact ⟨rfl, hq⟩
set_option maxRecDepth 100000 in
theorem rquo_any (x y : Nat) (w : World) : Calls Tryz.prog 54 #[.int .i64 3, .float .f64 x, .float .f64 y] w fun e w' => e = .returned (.int .i64 (realV .quo x y)) ∧ Qt w w' := by
 obtain ⟨r, w2, hr, hv, hlt, hq⟩ := arith_run .quo (by simp) x y w
 rw [hv]
 go_enter Tryz.func54, Tryz.ntmps54
 go_wp2_with (first | (go_at_call 58; refine (Bits_any _ _ hlt).mono ?_; rintro e w' ⟨rfl, rfl⟩) | simp only [hr])
 go_ret
 exact ⟨rfl, hq⟩

end Go.Proofs.YtmcjihhfgmfcpaaGreatDoor
