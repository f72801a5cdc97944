/-
  Plain laws of numbers. Conditions: none.
-/
import Derived.Test.YtmcjihhfgmfcpaaGreatDoorEng5
namespace Go.Proofs.YtmcjihhfgmfcpaaGreatDoor
open Go Go.Ab
set_option linter.unusedVariables false
set_option linter.unusedSimpArgs false

set_option linter.unusedSectionVars false
variable [Vals]
/-- A number of a kind. -/
def Fit (k : IntKind) (n : Int) : Prop := wr k n = n

theorem Fit.wr (k : IntKind) (n : Int) : Fit k (Ab.wr k n) := wr_in (wr_range k n).1 (wr_range k n).2
theorem Fit.range {k : IntKind} {n : Int} (h : Fit k n) : k.min ≤ n ∧ n ≤ k.max := by
  have := wr_range k n
  rw [h] at this
  exact this
theorem Fit.le {k k' : IntKind} {n : Int} (h : Fit k n) (h1 : k'.min ≤ k.min) (h2 : k.max ≤ k'.max) : Fit k' n := wr_in (Int.le_trans h1 h.range.1) (Int.le_trans h.range.2 h2)

theorem wr64 (k : IntKind) (n : Int) (h1 : IntKind.i64.min ≤ k.min) (h2 : k.max ≤ IntKind.i64.max) : wr .i64 (wr k n) = wr k n := (Fit.wr k n).le h1 h2

theorem fit_rem {k : IntKind} {a b : Int} (ha : Fit k a) (_ : Fit k b) (_ : b ≠ 0) : Fit k (a.tmod b) := by
  obtain ⟨h1, h2⟩ := ha.range
  have h3 : (a.tmod b).natAbs ≤ a.natAbs := by rw [Int.natAbs_tmod]; exact Nat.mod_le _ _
  have h4 : 0 ≤ a → 0 ≤ a.tmod b := Int.tmod_nonneg b
  have h5 : a ≤ 0 → a.tmod b ≤ 0 := fun h => by
    have := Int.tmod_nonneg (a := -a) b (by omega)
    rw [Int.neg_tmod] at this
    omega
  have hmin : k.min ≤ 0 := by cases k <;> decide
  have hmax : 0 ≤ k.max := by cases k <;> decide
  refine wr_in ?_ ?_
  · by_cases h : 0 ≤ a
    · have := h4 h; omega
    · have := h5 (by omega); omega
  · by_cases h : 0 ≤ a
    · have := h4 h; omega
    · have := h5 (by omega); omega

theorem fit_shr {k : IntKind} {a : Int} (ha : Fit k a) (j : Nat) : Fit k (a.fdiv (2 ^ j)) := by
  obtain ⟨h1, h2⟩ := ha.range
  have hp : (0 : Int) < 2 ^ j := Int.pow_pos (by decide)
  have hmin : k.min ≤ 0 := by cases k <;> decide
  have hmax : 0 ≤ k.max := by cases k <;> decide
  rw [Int.fdiv_eq_ediv_of_nonneg _ (by omega)]
  refine wr_in ?_ ?_
  · by_cases h : 0 ≤ a
    · have := Int.ediv_nonneg h (by omega : (0 : Int) ≤ 2 ^ j); omega
    · have h3 : a ≤ a / 2 ^ j := by
        rw [Int.le_ediv_iff_mul_le hp]
        have : (1 : Int) ≤ 2 ^ j := hp
        have := Int.mul_le_mul_of_nonpos_left (a := a) (by omega : a ≤ 0) this
        omega
      omega
  · by_cases h : 0 ≤ a
    · have := Int.ediv_le_self (2 ^ j : Int) h; omega
    · have : a / 2 ^ j < 0 := Int.ediv_neg_of_neg_of_pos (by omega) hp
      omega

theorem ringAdd (k : IntKind) (a b : Int) : wr k (a + b) = wr k (b + a) := by rw [Int.add_comm]
theorem ringMul (k : IntKind) (a b : Int) : wr k (a * b) = wr k (b * a) := by rw [Int.mul_comm]
theorem wr_wr_add (k : IntKind) (a b : Int) : wr k (wr k a + b) = wr k (a + b) := wr_of_mod (by rw [Int.add_emod, wr_mod, ← Int.add_emod])
theorem wr_wr_mul (k : IntKind) (a b : Int) : wr k (wr k a * b) = wr k (a * b) := wr_of_mod (by rw [Int.mul_emod, wr_mod, ← Int.mul_emod])
theorem ringBack {k : IntKind} {a : Int} (b : Int) (ha : Fit k a) : wr k (wr k (a - b) + b) = a := by
  rw [wr_wr_add, show a - b + b = a by omega]
  exact ha
theorem ringDiv {k : IntKind} {a : Int} (b : Int) (ha : Fit k a) : wr k (wr k (wr k (a.tdiv b) * b) + wr k (a.tmod b)) = a := by
  rw [wr_wr_mul, wr_wr_add, Int.add_comm, wr_wr_add, show a.tmod b + a.tdiv b * b = a from Int.tmod_add_tdiv_mul a b]
  exact ha

theorem wr_modle {k k' : IntKind} (h : k.bits ≤ k'.bits) (n : Int) : (wr k' n) % (2 : Int) ^ k.bits = n % (2 : Int) ^ k.bits := by
  have h1 : ((2 : Int) ^ k.bits) ∣ (2 : Int) ^ k'.bits := ⟨2 ^ (k'.bits - k.bits), by rw [← Int.pow_add]; congr 1; omega⟩
  rw [← Int.emod_emod_of_dvd (wr k' n) h1, wr_mod, Int.emod_emod_of_dvd n h1]
theorem wr_wr {k k' : IntKind} (h : k.bits ≤ k'.bits) (n : Int) : wr k (wr k' n) = wr k n := wr_of_mod (wr_modle h n)
theorem shlMul {k : IntKind} (h : k.bits ≤ 64) (A c : Int) : wr k (A * c) = wr k (A * wr k (wr .i64 (wr .u64 (1 * c)))) := by
  rw [wr_wr (k' := .i64) h, wr_wr (k' := .u64) h, Int.one_mul]
  exact (wr_of_mod (by rw [Int.mul_emod, wr_mod, ← Int.mul_emod])).symm
theorem shrTwice {k : IntKind} {a : Int} (ha : Fit k a) (n : Nat) : a.fdiv (2 ^ (n + 1)) = (wr k (a.fdiv (2 ^ n))).fdiv (2 ^ 1) := by
  rw [show wr k (a.fdiv (2 ^ n)) = a.fdiv (2 ^ n) from fit_shr ha n]
  have hp : ∀ j : Nat, (0 : Int) ≤ 2 ^ j := fun j => Int.le_of_lt (Int.pow_pos (by decide))
  rw [Int.fdiv_eq_ediv_of_nonneg _ (hp _), Int.fdiv_eq_ediv_of_nonneg _ (hp n), Int.fdiv_eq_ediv_of_nonneg _ (hp 1), Int.ediv_ediv_of_nonneg (hp n), ← Int.pow_add]
theorem shrAll {k : IntKind} {a : Int} {w : Nat} (ha : Fit k a) (hk : k.signed = true) (hw : k.bits = w + 1) : (if a < 0 then -1 else 0) = (wr k (a.fdiv (2 ^ w))).fdiv (2 ^ 1) := by
  rw [← shrTwice ha]
  obtain ⟨h1, h2⟩ := ha.range
  simp only [IntKind.min, IntKind.max, hk, if_true, hw, Nat.add_sub_cancel] at h1 h2
  have hp : (0 : Int) < 2 ^ (w + 1) := Int.pow_pos (by decide)
  have h3 : (2 : Int) ^ (w + 1) = 2 * 2 ^ w := by rw [Int.pow_succ, Int.mul_comm]
  rw [Int.fdiv_eq_ediv_of_nonneg _ (by omega)]
  split
  · symm
    refine (Int.ediv_eq_iff_of_pos hp).2 ⟨?_, ?_⟩ <;> omega
  · symm
    exact Int.ediv_eq_zero_of_lt (by omega) (by omega)
theorem shrAll' {k : IntKind} {a : Int} {w : Nat} (ha : Fit k a) (hk : k.signed = false) (hw : k.bits = w + 1) : 0 = (wr k (a.fdiv (2 ^ w))).fdiv (2 ^ 1) := by
  rw [← shrTwice ha]
  obtain ⟨h1, h2⟩ := ha.range
  simp only [IntKind.min, IntKind.max, hk, Bool.false_eq_true, if_false, hw] at h1 h2
  have hp : (0 : Int) < 2 ^ (w + 1) := Int.pow_pos (by decide)
  rw [Int.fdiv_eq_ediv_of_nonneg _ (by omega)]
  exact (Int.ediv_eq_zero_of_lt h1 (by omega)).symm
theorem modW (k w : Nat) (hw : w ≠ 0) : (wr .i64 (Int.ofNat k)) = Int.ofNat k → (wr .i64 (Int.ofNat k)).tmod (w : Int) = Int.ofNat (k % w) := fun h => by
  rw [h]
  rfl

theorem fit_wf {k : IntKind} {n : Int} (h : (Lit.int k n).wf = true) : Fit k n := by
  simp only [Lit.wf, Bool.and_eq_true, decide_eq_true_eq] at h
  exact wr_in h.1 h.2
/-- The bits of a real, as a natural number. -/
def flb (n : Int) : Nat := (wr .u64 n).toNat
def nanB (w : Nat) : Bool := (FloatKind.f64.format.read w).isNaN

theorem u64_nonneg (n : Int) : 0 ≤ wr .u64 n ∧ wr .u64 n < 18446744073709551616 := by
  obtain ⟨h1, h2⟩ := wr_range .u64 n
  simp only [IntKind.min, IntKind.max, IntKind.signed, IntKind.bits, Bool.false_eq_true, if_false, Int.reducePow, Int.reduceSub] at h1 h2
  omega
theorem flb_cast (n : Int) : ((flb n : Nat) : Int) = wr .u64 n := Int.toNat_of_nonneg (u64_nonneg n).1
theorem flb_lt (n : Int) : flb n < 18446744073709551616 := by have := (u64_nonneg n).2; have := flb_cast n; omega

omit [Vals] in
theorem read64 (w : Nat) : FloatKind.f64.format.read w = if w % 9223372036854775808 < 4503599627370496 then .number (w / 9223372036854775808 % 2 == 1) (w % 9223372036854775808) (-1074)
    else if w % 9223372036854775808 < 9218868437227405312 then .number (w / 9223372036854775808 % 2 == 1) (4503599627370496 + w % 9223372036854775808 % 4503599627370496) (-1074 + (w % 9223372036854775808 / 4503599627370496 - 1 : Nat))
    else if w % 9223372036854775808 = 9218868437227405312 then .infinity (w / 9223372036854775808 % 2 == 1)
    else .nan (w / 9223372036854775808 % 2 == 1) (w % 9223372036854775808 - 9218868437227405312) := by rfl

omit [Vals] in
theorem nanB_eq (w : Nat) (hw : w < 18446744073709551616) : nanB w = (decide (w / 4503599627370496 % 2048 = 2047) && decide ((w * 4096) % 18446744073709551616 ≠ 0)) := by
  unfold nanB
  rw [read64]
  have h1 : w / 4503599627370496 % 2048 = w % 9223372036854775808 / 4503599627370496 := by omega
  have h2 : (w * 4096) % 18446744073709551616 = w % 4503599627370496 * 4096 := by omega
  rw [h1, h2]
  have h3 : w % 9223372036854775808 % 4503599627370496 = w % 4503599627370496 := by omega
  by_cases c1 : w % 9223372036854775808 < 4503599627370496
  · rw [if_pos c1]
    simp only [Ieee.Datum.isNaN, Bool.false_eq, Bool.and_eq_false_iff, decide_eq_false_iff_not]
    left; omega
  · rw [if_neg c1]
    by_cases c2 : w % 9223372036854775808 < 9218868437227405312
    · rw [if_pos c2]
      simp only [Ieee.Datum.isNaN, Bool.false_eq, Bool.and_eq_false_iff, decide_eq_false_iff_not]
      left; omega
    · rw [if_neg c2]
      by_cases c3 : w % 9223372036854775808 = 9218868437227405312
      · rw [if_pos c3]
        simp only [Ieee.Datum.isNaN, Bool.false_eq, Bool.and_eq_false_iff, decide_eq_false_iff_not]
        right; omega
      · rw [if_neg c3]
        simp only [Ieee.Datum.isNaN, Bool.true_eq, Bool.and_eq_true, decide_eq_true_eq]
        omega

theorem nan_exp (n : Int) : wr .u64 (Int.ofNat ((((wr .u64 n).fdiv (2 ^ 52)) % 2 ^ 64).toNat &&& ((2047 : Int) % 2 ^ 64).toNat)) = ((flb n / 4503599627370496 % 2048 : Nat) : Int) := by
  have hx : wr .u64 n = ((flb n : Nat) : Int) := (flb_cast n).symm
  rw [hx, Int.fdiv_eq_ediv_of_nonneg _ (by decide)]
  have hlt := flb_lt n
  have h1 : (((flb n : Int) / 2 ^ 52) % 2 ^ 64).toNat = flb n / 4503599627370496 := by
    simp only [Int.reducePow]
    omega
  have h2 : ((2047 : Int) % 2 ^ 64).toNat = 2 ^ 11 - 1 := by decide
  rw [h1, h2, Nat.and_two_pow_sub_one_eq_mod]
  have h3 : flb n / 4503599627370496 % 2 ^ 11 = flb n / 4503599627370496 % 2048 := by simp
  rw [h3]
  exact wr_in (by simp [IntKind.min, IntKind.signed]; omega) (by simp [IntKind.max, IntKind.signed, IntKind.bits]; omega)

theorem nan_frac (n : Int) : wr .u64 (wr .u64 n * 2 ^ 12) = (((flb n * 4096) % 18446744073709551616 : Nat) : Int) := by
  have hx : wr .u64 n = ((flb n : Nat) : Int) := (flb_cast n).symm
  rw [hx, wr_if]
  simp only [IntKind.signed, Bool.false_eq_true, false_and, if_false, IntKind.bits, Int.reducePow]
  omega

theorem nan_T {n : Int} (h : eqI (wr .u64 (Int.ofNat ((((wr .u64 n).fdiv (2 ^ 52)) % 2 ^ 64).toNat &&& ((2047 : Int) % 2 ^ 64).toNat))) 2047 = true) : (!eqI (wr .u64 (wr .u64 n * 2 ^ 12)) 0) = nanB (flb n) := by
  rw [nan_exp, eqI_eq, decide_eq_true_eq] at h
  rw [nan_frac, eqI_eq, nanB_eq _ (flb_lt n)]
  have : flb n / 4503599627370496 % 2048 = 2047 := by omega
  simp only [this, decide_true, Bool.true_and, ne_eq]
  rw [← decide_not]
  congr 1
  simp only [eq_iff_iff]
  omega
theorem nan_F {n : Int} (h : eqI (wr .u64 (Int.ofNat ((((wr .u64 n).fdiv (2 ^ 52)) % 2 ^ 64).toNat &&& ((2047 : Int) % 2 ^ 64).toNat))) 2047 = false) : false = nanB (flb n) := by
  rw [nan_exp, eqI_eq, decide_eq_false_iff_not] at h
  rw [nanB_eq _ (flb_lt n)]
  have : ¬ flb n / 4503599627370496 % 2048 = 2047 := by omega
  simp only [this, decide_false, Bool.false_and]

omit [Vals] in
theorem order_self (w : Nat) : (FloatKind.f64.format.order w w != some .eq) = nanB w := by
  unfold nanB Ieee.Format.order
  generalize FloatKind.f64.format.read w = d
  cases d with
  | nan s f => rfl
  | infinity s => cases s <;> rfl
  | number s m i =>
    simp only [Ieee.Datum.order, Ieee.Datum.isNaN]
    simp

theorem wr_flb {n : Int} (h : wr .i64 n = n) : wr .i64 (Int.ofNat (flb n)) = n := by
  show wr .i64 ((flb n : Nat) : Int) = n
  rw [flb_cast, wr_of_mod (k := .i64) (a := wr .u64 n) (b := n), h]
  have := wr_mod .u64 n
  simpa [IntKind.bits] using this

theorem and255 (n : Int) : wr .i64 (Int.ofNat ((n % 2 ^ 64).toNat &&& ((255 : Int) % 2 ^ 64).toNat)) = wr .u8 n := by
  have h2 : ((255 : Int) % 2 ^ 64).toNat = 2 ^ 8 - 1 := by decide
  rw [h2, Nat.and_two_pow_sub_one_eq_mod]
  have h3 : Int.ofNat ((n % 2 ^ 64).toNat % 2 ^ 8) = n % 256 := by
    simp only [Int.reducePow, Nat.reducePow, Int.ofNat_eq_natCast]
    omega
  rw [h3, wr_if .u8]
  simp only [IntKind.signed, Bool.false_eq_true, false_and, if_false, IntKind.bits, Int.reducePow]
  exact wr_in (by simp [IntKind.min, IntKind.signed, IntKind.bits]; omega) (by simp [IntKind.max, IntKind.signed, IntKind.bits]; omega)

omit [Vals] in
theorem order_none (x y : Nat) : FloatKind.f64.format.order x y = none ↔ nanB x = true ∨ nanB y = true := by
  unfold nanB Ieee.Format.order
  generalize FloatKind.f64.format.read x = d
  generalize FloatKind.f64.format.read y = e
  cases d <;> cases e <;> simp [Ieee.Datum.order, Ieee.Datum.isNaN]

omit [Vals] in
theorem order_swap (x y : Nat) : FloatKind.f64.format.order y x = (FloatKind.f64.format.order x y).map Ordering.swap := by
  unfold Ieee.Format.order
  generalize FloatKind.f64.format.read x = d
  generalize FloatKind.f64.format.read y = e
  cases d with
  | nan s f => cases e <;> rfl
  | infinity s =>
    cases e with
    | nan t g => rfl
    | infinity t => cases s <;> cases t <;> rfl
    | number t n j => cases s <;> rfl
  | number s m i =>
    cases e with
    | nan t g => rfl
    | infinity t => cases t <;> rfl
    | number t n j =>
      simp only [Ieee.Datum.order, Option.map_some, Option.some.injEq]
      rw [Int.min_comm j i]
      exact Std.OrientedCmp.eq_swap

/-- Of two numbers just one is less, equal, greater. -/
theorem tri (A B : Int) : (ltI A B = true ∧ eqI A B = false ∧ ltI B A = false) ∨ (ltI A B = false ∧ eqI A B = true ∧ ltI B A = false) ∨ (ltI A B = false ∧ eqI A B = false ∧ ltI B A = true) := by
  simp only [ltI_eq, eqI_eq, decide_eq_true_eq, decide_eq_false_iff_not]
  omega

omit [Vals] in
theorem triF (x y : Nat) (hx : nanB x = false) (hy : nanB y = false) : let o := FloatKind.f64.format.order x y; let p := FloatKind.f64.format.order y x
    ((o == some .lt) = true ∧ (o == some .eq) = false ∧ (o == some .gt) = false ∧ (p == some .lt) = false) ∨ ((o == some .lt) = false ∧ (o == some .eq) = true ∧ (o == some .gt) = false ∧ (p == some .lt) = false) ∨ ((o == some .lt) = false ∧ (o == some .eq) = false ∧ (o == some .gt) = true ∧ (p == some .lt) = true) := by
  simp only
  rw [order_swap x y]
  cases h : FloatKind.f64.format.order x y with
  | none =>
    rcases (order_none x y).1 h with h | h
    · rw [hx] at h; cases h
    · rw [hy] at h; cases h
  | some o => cases o <;> simp [Ordering.swap]

omit [Vals] in
theorem nanF (x y : Nat) (h : nanB x = true ∨ nanB y = true) : let o := FloatKind.f64.format.order x y; let p := FloatKind.f64.format.order y x
    (o == some .lt) = false ∧ (o == some .eq) = false ∧ (o == some .gt) = false ∧ (p == some .lt) = false := by
  simp only
  rw [order_swap x y, (order_none x y).2 h]
  exact ⟨rfl, rfl, rfl, rfl⟩

end Go.Proofs.YtmcjihhfgmfcpaaGreatDoor
