/-
  Plain laws of numbers. Conditions: none.
-/
import Derived.Test.YtmcjihhfgmfcpaaGreatDoorEng7
namespace Go.Proofs.YtmcjihhfgmfcpaaGreatDoor
open Go Go.Ab
set_option linter.unusedVariables false
set_option linter.unusedSimpArgs false
set_option linter.unusedSectionVars false
variable [Vals]
def Fit (k : IntKind) (n : Int) : Prop := wr k n = n
theorem Fit.wr (k : IntKind) (n : Int) : Fit k (Ab.wr k n) := wr_in (wr_range k n).1 (wr_range k n).2
theorem Fit.range {k : IntKind} {n : Int} (h : Fit k n) : k.min ≤ n ∧ n ≤ k.max := by
 have := wr_range k n
 rw [h] at this
 exact this
theorem Fit.le {k k' : IntKind} {n : Int} (h : Fit k n) (h1 : k'.min ≤ k.min) (h2 : k.max ≤ k'.max) : Fit k' n := wr_in (Int.le_trans h1 h.range.1) (Int.le_trans h.range.2 h2)
theorem wr64 (k : IntKind) (n : Int) (h1 : IntKind.i64.min ≤ k.min) (h2 : k.max ≤ IntKind.i64.max) : wr .i64 (wr k n) = wr k n := (Fit.wr k n).le h1 h2
theorem fit_rem {k : IntKind} {a b : Int} (ha : Fit k a) (_ : Fit k b) (_ : b ≠ 0) : Fit k (a.tmod b) := by
 obtain ⟨h1, h2⟩ := ha.range
 have h3 : (a.tmod b).natAbs ≤ a.natAbs := by rw [Int.natAbs_tmod]; exact Nat.mod_le _ _
 have h4 : 0 ≤ a → 0 ≤ a.tmod b := Int.tmod_nonneg b
 have h5 : a ≤ 0 → a.tmod b ≤ 0 := fun h => by
  have := Int.tmod_nonneg (a := -a) b (by omega)
  rw [Int.neg_tmod] at this
  omega
 have hmin : k.min ≤ 0 := by cases k <;> decide
 have hmax : 0 ≤ k.max := by cases k <;> decide
 refine wr_in ?_ ?_
 ·by_cases h : 0 ≤ a
  ·have := h4 h; omega
  ·have := h5 (by omega); omega
 ·by_cases h : 0 ≤ a
  ·have := h4 h; omega
  ·have := h5 (by omega); omega
theorem fit_shr {k : IntKind} {a : Int} (ha : Fit k a) (j : Nat) : Fit k (a.fdiv (2 ^ j)) := by
 obtain ⟨h1, h2⟩ := ha.range
 have hp : (0 : Int) < 2 ^ j := Int.pow_pos (by decide)
 have hmin : k.min ≤ 0 := by cases k <;> decide
 have hmax : 0 ≤ k.max := by cases k <;> decide
 rw [Int.fdiv_eq_ediv_of_nonneg _ (by omega)]
 refine wr_in ?_ ?_
 ·by_cases h : 0 ≤ a
  ·have := Int.ediv_nonneg h (by omega : (0 : Int) ≤ 2 ^ j); omega
  ·have h3 : a ≤ a / 2 ^ j := by
    rw [Int.le_ediv_iff_mul_le hp]
    have : (1 : Int) ≤ 2 ^ j := hp
    have := Int.mul_le_mul_of_nonpos_left (a := a) (by omega : a ≤ 0) this
    omega
   omega
 ·by_cases h : 0 ≤ a
  ·have := Int.ediv_le_self (2 ^ j : Int) h; omega
  ·have : a / 2 ^ j < 0 := Int.ediv_neg_of_neg_of_pos (by omega) hp
   omega
theorem wr_wr_add (k : IntKind) (a b : Int) : wr k (wr k a + b) = wr k (a + b) := wr_of_mod (by rw [Int.add_emod, wr_mod, ← Int.add_emod])
theorem wr_modle {k k' : IntKind} (h : k.bits ≤ k'.bits) (n : Int) : (wr k' n) % (2 : Int) ^ k.bits = n % (2 : Int) ^ k.bits := by
 have h1 : ((2 : Int) ^ k.bits) ∣ (2 : Int) ^ k'.bits := ⟨2 ^ (k'.bits - k.bits), by rw [← Int.pow_add]; congr 1; omega⟩
 rw [← Int.emod_emod_of_dvd (wr k' n) h1, wr_mod, Int.emod_emod_of_dvd n h1]
theorem wr_wr {k k' : IntKind} (h : k.bits ≤ k'.bits) (n : Int) : wr k (wr k' n) = wr k n := wr_of_mod (wr_modle h n)
theorem fit_wf {k : IntKind} {n : Int} (h : (Lit.int k n).wf = true) : Fit k n := by
 simp only [Lit.wf, Bool.and_eq_true, decide_eq_true_eq] at h
 exact wr_in h.1 h.2
def flb (n : Int) : Nat := (wr .u64 n).toNat
def nanB (w : Nat) : Bool := (FloatKind.f64.format.read w).isNaN
theorem u64_nonneg (n : Int) : 0 ≤ wr .u64 n ∧ wr .u64 n < 18446744073709551616 := by
 obtain ⟨h1, h2⟩ := wr_range .u64 n
 simp only [IntKind.min, IntKind.max, IntKind.signed, IntKind.bits, Bool.false_eq_true, if_false, Int.reducePow, Int.reduceSub] at h1 h2
 omega
theorem flb_cast (n : Int) : ((flb n : Nat) : Int) = wr .u64 n := Int.toNat_of_nonneg (u64_nonneg n).1
theorem flb_lt (n : Int) : flb n < 18446744073709551616 := by have := (u64_nonneg n).2; have := flb_cast n; omega
omit [Vals] in
theorem read64 (w : Nat) : FloatKind.f64.format.read w = if w % 9223372036854775808 < 4503599627370496 then .number (w / 9223372036854775808 % 2 == 1) (w % 9223372036854775808) (-1074)
  else if w % 9223372036854775808 < 9218868437227405312 then .number (w / 9223372036854775808 % 2 == 1) (4503599627370496 + w % 9223372036854775808 % 4503599627370496) (-1074 + (w % 9223372036854775808 / 4503599627370496 - 1 : Nat))
  else if w % 9223372036854775808 = 9218868437227405312 then .infinity (w / 9223372036854775808 % 2 == 1)
  else .nan (w / 9223372036854775808 % 2 == 1) (w % 9223372036854775808 - 9218868437227405312) := by rfl
omit [Vals] in
theorem nanB_eq (w : Nat) (hw : w < 18446744073709551616) : nanB w = (decide (w / 4503599627370496 % 2048 = 2047) && decide ((w * 4096) % 18446744073709551616 ≠ 0)) := by
 unfold nanB
 rw [read64]
 have h1 : w / 4503599627370496 % 2048 = w % 9223372036854775808 / 4503599627370496 := by omega
 have h2 : (w * 4096) % 18446744073709551616 = w % 4503599627370496 * 4096 := by omega
 rw [h1, h2]
 have h3 : w % 9223372036854775808 % 4503599627370496 = w % 4503599627370496 := by omega
 by_cases c1 : w % 9223372036854775808 < 4503599627370496
 ·rw [if_pos c1]
  simp only [Ieee.Datum.isNaN, Bool.false_eq, Bool.and_eq_false_iff, decide_eq_false_iff_not]
  left; omega
 ·rw [if_neg c1]
  by_cases c2 : w % 9223372036854775808 < 9218868437227405312
  ·rw [if_pos c2]
   simp only [Ieee.Datum.isNaN, Bool.false_eq, Bool.and_eq_false_iff, decide_eq_false_iff_not]
   left; omega
  ·rw [if_neg c2]
   by_cases c3 : w % 9223372036854775808 = 9218868437227405312
   ·rw [if_pos c3]
    simp only [Ieee.Datum.isNaN, Bool.false_eq, Bool.and_eq_false_iff, decide_eq_false_iff_not]
    right; omega
   ·rw [if_neg c3]
    simp only [Ieee.Datum.isNaN, Bool.true_eq, Bool.and_eq_true, decide_eq_true_eq]
    omega
theorem nan_exp (n : Int) : wr .u64 (Int.ofNat ((((wr .u64 n).fdiv (2 ^ 52)) % 2 ^ 64).toNat &&& ((2047 : Int) % 2 ^ 64).toNat)) = ((flb n / 4503599627370496 % 2048 : Nat) : Int) := by
 have hx : wr .u64 n = ((flb n : Nat) : Int) := (flb_cast n).symm
 rw [hx, Int.fdiv_eq_ediv_of_nonneg _ (by decide)]
 have hlt := flb_lt n
 have h1 : (((flb n : Int) / 2 ^ 52) % 2 ^ 64).toNat = flb n / 4503599627370496 := by
  simp only [Int.reducePow]
  omega
 have h2 : ((2047 : Int) % 2 ^ 64).toNat = 2 ^ 11 - 1 := by decide
 rw [h1, h2, Nat.and_two_pow_sub_one_eq_mod]
 have h3 : flb n / 4503599627370496 % 2 ^ 11 = flb n / 4503599627370496 % 2048 := by simp
 rw [h3]
 exact wr_in (by simp [IntKind.min, IntKind.signed]; omega) (by simp [IntKind.max, IntKind.signed, IntKind.bits]; omega)
theorem nan_frac (n : Int) : wr .u64 (wr .u64 n * 2 ^ 12) = (((flb n * 4096) % 18446744073709551616 : Nat) : Int) := by
 have hx : wr .u64 n = ((flb n : Nat) : Int) := (flb_cast n).symm
 rw [hx, wr_if]
 simp only [IntKind.signed, Bool.false_eq_true, false_and, if_false, IntKind.bits, Int.reducePow]
 omega
theorem nan_T {n : Int} (h : eqI (wr .u64 (Int.ofNat ((((wr .u64 n).fdiv (2 ^ 52)) % 2 ^ 64).toNat &&& ((2047 : Int) % 2 ^ 64).toNat))) 2047 = true) : (!eqI (wr .u64 (wr .u64 n * 2 ^ 12)) 0) = nanB (flb n) := by
 rw [nan_exp, eqI_eq, decide_eq_true_eq] at h
 rw [nan_frac, eqI_eq, nanB_eq _ (flb_lt n)]
 have : flb n / 4503599627370496 % 2048 = 2047 := by omega
 simp only [this, decide_true, Bool.true_and, ne_eq]
 rw [← decide_not]
 congr 1
 simp only [eq_iff_iff]
 omega
theorem nan_F {n : Int} (h : eqI (wr .u64 (Int.ofNat ((((wr .u64 n).fdiv (2 ^ 52)) % 2 ^ 64).toNat &&& ((2047 : Int) % 2 ^ 64).toNat))) 2047 = false) : false = nanB (flb n) := by
 rw [nan_exp, eqI_eq, decide_eq_false_iff_not] at h
 rw [nanB_eq _ (flb_lt n)]
 have : ¬ flb n / 4503599627370496 % 2048 = 2047 := by omega
 simp only [this, decide_false, Bool.false_and]
omit [Vals] in
theorem order_self (w : Nat) : (FloatKind.f64.format.order w w != some .eq) = nanB w := by
 unfold nanB Ieee.Format.order
 generalize FloatKind.f64.format.read w = d
 cases d with
 | nan s f => rfl
 | infinity s => cases s <;> rfl
 | number s m i =>
  simp only [Ieee.Datum.order, Ieee.Datum.isNaN]
  simp
theorem wr_flb {n : Int} (h : wr .i64 n = n) : wr .i64 (Int.ofNat (flb n)) = n := by
 show wr .i64 ((flb n : Nat) : Int) = n
 rw [flb_cast, wr_of_mod (k := .i64) (a := wr .u64 n) (b := n), h]
 have := wr_mod .u64 n
 simpa [IntKind.bits] using this
theorem and255 (n : Int) : wr .i64 (Int.ofNat ((n % 2 ^ 64).toNat &&& ((255 : Int) % 2 ^ 64).toNat)) = wr .u8 n := by
 have h2 : ((255 : Int) % 2 ^ 64).toNat = 2 ^ 8 - 1 := by decide
 rw [h2, Nat.and_two_pow_sub_one_eq_mod]
 have h3 : Int.ofNat ((n % 2 ^ 64).toNat % 2 ^ 8) = n % 256 := by
  simp only [Int.reducePow, Nat.reducePow, Int.ofNat_eq_natCast]
  omega
 rw [h3, wr_if .u8]
 simp only [IntKind.signed, Bool.false_eq_true, false_and, if_false, IntKind.bits, Int.reducePow]
 exact wr_in (by simp [IntKind.min, IntKind.signed, IntKind.bits]; omega) (by simp [IntKind.max, IntKind.signed, IntKind.bits]; omega)
omit [Vals] in
def bitV (f : Nat → Nat → Nat) (k : IntKind) (x y : Int) : Int := wr k (Int.ofNat (f (x % (2 : Int) ^ k.bits).toNat (y % (2 : Int) ^ k.bits).toNat))
theorem toNat_mod (x : Int) {n m : Nat} (h : n ≤ m) : (x % (2 : Int) ^ m).toNat % 2 ^ n = (x % (2 : Int) ^ n).toNat := by
 have hp : ∀ j : Nat, (0 : Int) < 2 ^ j := fun j => Int.pow_pos (by decide)
 have hd : ((2 : Int) ^ n) ∣ (2 : Int) ^ m := ⟨2 ^ (m - n), by rw [← Int.pow_add]; congr 1; omega⟩
 have h1 := Int.emod_nonneg x (Int.ne_of_gt (hp m))
 have h2 := Int.emod_nonneg x (Int.ne_of_gt (hp n))
 apply Int.ofNat.inj
 show (((x % (2 : Int) ^ m).toNat % 2 ^ n : Nat) : Int) = (((x % (2 : Int) ^ n).toNat : Nat) : Int)
 rw [Int.natCast_emod, Int.toNat_of_nonneg h1, Int.toNat_of_nonneg h2, Int.natCast_pow]
 exact Int.emod_emod_of_dvd x hd
theorem bit_wr {f : Nat → Nat → Nat} (hf : ∀ {a b n : Nat}, f a b % 2 ^ n = f (a % 2 ^ n) (b % 2 ^ n)) {k : IntKind} (hk : k.bits ≤ 64) (x y : Int) : wr k (wr .i64 (Int.ofNat (f (x % 2 ^ 64).toNat (y % 2 ^ 64).toNat))) = bitV f k x y := by
 rw [wr_wr (k' := .i64) hk]
 refine wr_of_mod ?_
 have e : ∀ z : Nat, Int.ofNat z % (2 : Int) ^ k.bits = ((z % 2 ^ k.bits : Nat) : Int) := fun z => by
  show ((z : Nat) : Int) % (2 : Int) ^ k.bits = _
  rw [Int.natCast_emod, Int.natCast_pow]; rfl
 rw [e, e, hf, hf, toNat_mod x hk, toNat_mod y hk, toNat_mod x (Nat.le_refl _), toNat_mod y (Nat.le_refl _)]
theorem notV (k : IntKind) (n : Int) : wr k (Int.ofNat ((((if k.signed then -1 else k.max) : Int) % (2 : Int) ^ k.bits).toNat ^^^ (n % (2 : Int) ^ k.bits).toNat)) = wr k (-1 - n) := by
 have hp : (0 : Int) < 2 ^ k.bits := Int.pow_pos (by decide)
 have hm : (((if k.signed then -1 else k.max) : Int) % (2 : Int) ^ k.bits).toNat = 2 ^ k.bits - 1 := by cases k <;> decide
 have hx : (n % (2 : Int) ^ k.bits).toNat < 2 ^ k.bits := by
  have h1 := Int.emod_lt_of_pos n hp
  have h2 := Int.emod_nonneg n (Int.ne_of_gt hp)
  have h3 : ((2 ^ k.bits : Nat) : Int) = (2 : Int) ^ k.bits := Int.natCast_pow ..
  omega
 rw [hm]
 have h4 : (2 ^ k.bits - 1) ^^^ (n % (2 : Int) ^ k.bits).toNat = 2 ^ k.bits - 1 - (n % (2 : Int) ^ k.bits).toNat := by
  have h5 : (BitVec.allOnes k.bits ^^^ BitVec.ofNat k.bits (n % (2 : Int) ^ k.bits).toNat).toNat = (~~~ (BitVec.ofNat k.bits (n % (2 : Int) ^ k.bits).toNat)).toNat := by rw [BitVec.allOnes_xor]
  rw [BitVec.toNat_xor, BitVec.toNat_allOnes, BitVec.toNat_not, BitVec.toNat_ofNat, Nat.mod_eq_of_lt hx] at h5
  exact h5
 rw [h4]
 refine wr_of_mod ?_
 have h2 := Int.emod_nonneg n (Int.ne_of_gt hp)
 have h3 : ((2 ^ k.bits : Nat) : Int) = (2 : Int) ^ k.bits := Int.natCast_pow ..
 have h6 : Int.ofNat (2 ^ k.bits - 1 - (n % (2 : Int) ^ k.bits).toNat) = (2 : Int) ^ k.bits - 1 - n % (2 : Int) ^ k.bits := by
  simp only [Int.ofNat_eq_natCast]
  omega
 rw [h6, show (2 : Int) ^ k.bits - 1 - n % (2 : Int) ^ k.bits = (-1 - n % (2 : Int) ^ k.bits) + (2 : Int) ^ k.bits by omega, Int.add_emod_right, Int.sub_emod, Int.emod_emod_of_dvd n (Int.dvd_refl _), ← Int.sub_emod]
theorem xor_top (s : Nat) (h : s < 18446744073709551616) : s ^^^ 9223372036854775808 = if s < 9223372036854775808 then s + 9223372036854775808 else s - 9223372036854775808 := by
 have h1 : (s ^^^ 2 ^ 63) % 2 ^ 63 = s % 2 ^ 63 := by
  rw [Nat.xor_mod_two_pow, Nat.mod_self, Nat.xor_zero]
 have h2 : (s ^^^ 2 ^ 63) / 2 ^ 63 = (s / 2 ^ 63) ^^^ 1 := by
  rw [← Nat.shiftRight_eq_div_pow, Nat.shiftRight_xor_distrib, Nat.shiftRight_eq_div_pow, Nat.shiftRight_eq_div_pow]
 have h3 : s / 2 ^ 63 = 0 ∨ s / 2 ^ 63 = 1 := by omega
 have h4 : (2 : Nat) ^ 63 = 9223372036854775808 := by decide
 rw [h4] at h1 h2 h3
 rcases h3 with h3 | h3 <;> rw [h3] at h2
 ·rw [if_pos (by omega)]
  have h5 : (0 ^^^ 1 : Nat) = 1 := rfl
  omega
 ·rw [if_neg (by omega)]
  have h5 : (1 ^^^ 1 : Nat) = 0 := rfl
  omega
theorem rtdiv1 {k : IntKind} {x y : Int} (hk : k.bits ≤ 64) (h : y = -1) : wr k (wr .i64 (0 - x)) = wr k (x.tdiv y) := by
 rw [wr_wr (k' := .i64) hk, h]
 congr 1
 rw [Int.tdiv_neg, Int.tdiv_one]
 omega
theorem rtdiv2 {k : IntKind} {x y : Int} (hk : k.bits ≤ 64) : wr k (wr .i64 (x.tdiv y)) = wr k (x.tdiv y) := wr_wr (k' := .i64) hk _
theorem rmod_gen {k : IntKind} {x y q : Int} (hk : k.bits ≤ 64) (hq : wr .i64 q = wr .i64 (x.tdiv y)) : wr k (wr .i64 (x - wr .i64 (y * wr .i64 q))) = wr k (x.tmod y) := by
 rw [wr_wr (k' := .i64) hk, hq]
 refine wr_of_mod ?_
 rw [Int.sub_emod, wr_modle (k' := .i64) hk, Int.mul_emod, wr_modle (k' := .i64) hk, ← Int.mul_emod, ← Int.sub_emod, Int.tmod_def]
theorem rtmod1 {k : IntKind} {x y : Int} (hk : k.bits ≤ 64) (h : y = -1) : wr k (wr .i64 (x - wr .i64 (y * wr .i64 (0 - x)))) = wr k (x.tmod y) := rmod_gen hk (by rw [h, Int.tdiv_neg, Int.tdiv_one]; congr 1; omega)
theorem rtmod2 {k : IntKind} {x y : Int} (hk : k.bits ≤ 64) : wr k (wr .i64 (x - wr .i64 (y * wr .i64 (x.tdiv y)))) = wr k (x.tmod y) := rmod_gen hk rfl
theorem shl_step {k : IntKind} {a : Int} {i : Nat} (hk : k.bits ≤ 64) : wr k (wr .i64 (wr k (a * 2 ^ i) + wr k (a * 2 ^ i))) = wr k (a * 2 ^ (i + 1)) := by
 rw [wr_wr (k' := .i64) hk, wr_wr_add, Int.add_comm, wr_wr_add, Int.pow_succ, ← Int.mul_assoc]
 congr 1
 omega
theorem fdiv_two (a : Int) (i : Nat) : a.fdiv (2 ^ (i + 1)) = a.fdiv (2 ^ i) / 2 := by
 have hp : ∀ j : Nat, (0 : Int) ≤ 2 ^ j := fun j => Int.le_of_lt (Int.pow_pos (by decide))
 rw [Int.fdiv_eq_ediv_of_nonneg _ (hp _), Int.fdiv_eq_ediv_of_nonneg _ (hp i), Int.ediv_ediv_of_nonneg (hp i), Int.pow_succ]
theorem half_pos {a : Int} {i : Nat} (hf : Fit .i64 (a.fdiv (2 ^ i))) (h : 0 ≤ a.fdiv (2 ^ i)) : wr .i64 ((a.fdiv (2 ^ i)).tdiv 2) = a.fdiv (2 ^ (i + 1)) := by
 rw [fdiv_two, Int.tdiv_eq_ediv_of_nonneg h]
 obtain ⟨h1, h2⟩ := hf.range
 have h2 : a.fdiv (2 ^ i) ≤ 9223372036854775807 := h2
 exact wr_in (show (-9223372036854775808 : Int) ≤ _ by omega) (show _ ≤ (9223372036854775807 : Int) by omega)
theorem half_even {a : Int} {i : Nat} (hf : Fit .i64 (a.fdiv (2 ^ i))) (h : a.fdiv (2 ^ i) < 0) (h0 : (a.fdiv (2 ^ i)).tmod 2 = 0) : wr .i64 ((a.fdiv (2 ^ i)).tdiv 2) = a.fdiv (2 ^ (i + 1)) := by
 have e := Int.tmod_add_tdiv_mul (a.fdiv (2 ^ i)) 2
 rw [fdiv_two]
 obtain ⟨h1, h2⟩ := hf.range
 have h1 : -9223372036854775808 ≤ a.fdiv (2 ^ i) := h1
 rw [show (a.fdiv (2 ^ i)).tdiv 2 = a.fdiv (2 ^ i) / 2 by omega]
 exact wr_in (show (-9223372036854775808 : Int) ≤ _ by omega) (show _ ≤ (9223372036854775807 : Int) by omega)
theorem half_odd {a : Int} {i : Nat} (hf : Fit .i64 (a.fdiv (2 ^ i))) (h : a.fdiv (2 ^ i) < 0) (h0 : (a.fdiv (2 ^ i)).tmod 2 ≠ 0) : wr .i64 (wr .i64 ((a.fdiv (2 ^ i)).tdiv 2) - 1) = a.fdiv (2 ^ (i + 1)) := by
 have e := Int.tmod_add_tdiv_mul (a.fdiv (2 ^ i)) 2
 have hr : -2 < (a.fdiv (2 ^ i)).tmod 2 := by have h_ := Int.lt_tmod_of_pos (a.fdiv (2 ^ i)) (b := 2) (by decide); omega
 have hr2 : (a.fdiv (2 ^ i)).tmod 2 ≤ 0 := by
  have h3 : (-(a.fdiv (2 ^ i))).tmod 2 = -((a.fdiv (2 ^ i)).tmod 2) := Int.neg_tmod ..
  have h4 : 0 ≤ (-(a.fdiv (2 ^ i))).tmod 2 := Int.tmod_nonneg _ (by omega)
  omega
 rw [fdiv_two]
 obtain ⟨h1, h2⟩ := hf.range
 have h1 : -9223372036854775808 ≤ a.fdiv (2 ^ i) := h1
 rw [show wr .i64 ((a.fdiv (2 ^ i)).tdiv 2) = (a.fdiv (2 ^ i)).tdiv 2 from wr_in (show (-9223372036854775808 : Int) ≤ _ by omega) (show _ ≤ (9223372036854775807 : Int) by omega), show (a.fdiv (2 ^ i)).tdiv 2 - 1 = a.fdiv (2 ^ i) / 2 by omega]
 exact wr_in (show (-9223372036854775808 : Int) ≤ _ by omega) (show _ ≤ (9223372036854775807 : Int) by omega)
def negR (n : Int) : Int := if nanB (flb n) then 9221120237041090561 else bitV (· ^^^ ·) .i64 n (-9223372036854775808)
theorem nan_top (s : Nat) (h : s < 18446744073709551616) : s ^^^ 9223372036854775808 < 18446744073709551616 ∧ nanB (s ^^^ 9223372036854775808) = nanB s := by
 rw [xor_top s h]
 split
 ·refine ⟨by omega, ?_⟩
  rw [nanB_eq _ (by omega), nanB_eq _ h, show (s + 9223372036854775808) / 4503599627370496 % 2048 = s / 4503599627370496 % 2048 by omega, show (s + 9223372036854775808) * 4096 % 18446744073709551616 = s * 4096 % 18446744073709551616 by omega]
 ·refine ⟨by omega, ?_⟩
  rw [nanB_eq _ (by omega), nanB_eq _ h, show (s - 9223372036854775808) / 4503599627370496 % 2048 = s / 4503599627370496 % 2048 by omega, show (s - 9223372036854775808) * 4096 % 18446744073709551616 = s * 4096 % 18446744073709551616 by omega]
theorem flb_emod (n : Int) : (n % (2 : Int) ^ 64).toNat = flb n := by
 have h := flb_cast n
 rw [wr_if] at h
 simp only [IntKind.signed, Bool.false_eq_true, false_and, if_false, IntKind.bits] at h
 rw [← h]
 rfl
theorem flb_back (X : Nat) (h : X < 18446744073709551616) : flb (wr .i64 (Int.ofNat X)) = X := by
 have h1 := flb_cast (wr .i64 (Int.ofNat X))
 rw [wr_wr (k := .u64) (k' := .i64) (by decide), wr_in (k := .u64) (show (0 : Int) ≤ Int.ofNat X from Int.natCast_nonneg X) (show Int.ofNat X ≤ 18446744073709551615 by simp only [Int.ofNat_eq_natCast]; omega)] at h1
 simp only [Int.ofNat_eq_natCast] at h1 ⊢
 omega
theorem negR_refP {n y : Int} (hy : y = wr .i64 (bitV (· ^^^ ·) .u64 (wr .u64 n) 9223372036854775808)) : (if nanB (flb y) then 9221120237041090561 else y) = negR n := by
 have h1 : ((wr .u64 n) % (2 : Int) ^ 64).toNat = flb n := by rw [flb_emod]; unfold flb; rw [wr_wr (k := .u64) (k' := .u64) (by decide)]
 have e1 : bitV (· ^^^ ·) .u64 (wr .u64 n) 9223372036854775808 = wr .u64 (Int.ofNat (flb n ^^^ 9223372036854775808)) := by
  unfold bitV
  show wr .u64 (Int.ofNat (((wr .u64 n) % (2 : Int) ^ 64).toNat ^^^ _)) = _
  rw [h1]
  rfl
 obtain ⟨h2, h3⟩ := nan_top (flb n) (flb_lt n)
 have e2 : y = wr .i64 (Int.ofNat (flb n ^^^ 9223372036854775808)) := by rw [hy, e1, wr_wr (k := .i64) (k' := .u64) (by decide)]
 have e3 : bitV (· ^^^ ·) .i64 n (-9223372036854775808) = wr .i64 (Int.ofNat (flb n ^^^ 9223372036854775808)) := by
  unfold bitV
  show wr .i64 (Int.ofNat ((n % (2 : Int) ^ 64).toNat ^^^ _)) = _
  rw [flb_emod]
  rfl
 unfold negR
 rw [e3, e2, flb_back _ h2, h3]
end Go.Proofs.YtmcjihhfgmfcpaaGreatDoor
