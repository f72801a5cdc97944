/-
  Plain laws of numbers. Conditions: none.
-/
import Derived.Test.YtmcjihhfgmfcpaaGreatDoorEng7
import Derived.Laws.FloatArith
namespace Go.Proofs.YtmcjihhfgmfcpaaGreatDoor
open Go Go.Ab
set_option linter.unusedVariables false
set_option linter.unusedSimpArgs false
set_option linter.unusedSectionVars false
variable [Vals]
def Fit (k : IntKind) (n : Int) : Prop := wr k n = n
theorem Fit.wr (k : IntKind) (n : Int) : Fit k (Ab.wr k n) := wr_in (wr_range k n).1 (wr_range k n).2
theorem Fit.range {k : IntKind} {n : Int} (h : Fit k n) : k.min ≤ n ∧ n ≤ k.max := by
 have := wr_range k n
 rw [h] at this
 exact this
theorem Fit.le {k k' : IntKind} {n : Int} (h : Fit k n) (h1 : k'.min ≤ k.min) (h2 : k.max ≤ k'.max) : Fit k' n := wr_in (Int.le_trans h1 h.range.1) (Int.le_trans h.range.2 h2)
theorem wr64 (k : IntKind) (n : Int) (h1 : IntKind.i64.min ≤ k.min) (h2 : k.max ≤ IntKind.i64.max) : wr .i64 (wr k n) = wr k n := (Fit.wr k n).le h1 h2
theorem wr_modle {k k' : IntKind} (h : k.bits ≤ k'.bits) (n : Int) : (wr k' n) % (2 : Int) ^ k.bits = n % (2 : Int) ^ k.bits := by
 have h1 : ((2 : Int) ^ k.bits) ∣ (2 : Int) ^ k'.bits := ⟨2 ^ (k'.bits - k.bits), by rw [← Int.pow_add]; congr 1; omega⟩
 rw [← Int.emod_emod_of_dvd (wr k' n) h1, wr_mod, Int.emod_emod_of_dvd n h1]
theorem wr_wr {k k' : IntKind} (h : k.bits ≤ k'.bits) (n : Int) : wr k (wr k' n) = wr k n := wr_of_mod (wr_modle h n)
theorem fit_wf {k : IntKind} {n : Int} (h : (Lit.int k n).wf = true) : Fit k n := by
 simp only [Lit.wf, Bool.and_eq_true, decide_eq_true_eq] at h
 exact wr_in h.1 h.2
def flb (n : Int) : Nat := (wr .u64 n).toNat
def nanB (w : Nat) : Bool := (FloatKind.f64.format.read w).isNaN
theorem u64_nonneg (n : Int) : 0 ≤ wr .u64 n ∧ wr .u64 n < 18446744073709551616 := by
 obtain ⟨h1, h2⟩ := wr_range .u64 n
 simp only [IntKind.min, IntKind.max, IntKind.signed, IntKind.bits, Bool.false_eq_true, if_false, Int.reducePow, Int.reduceSub] at h1 h2
 omega
theorem flb_cast (n : Int) : ((flb n : Nat) : Int) = wr .u64 n := Int.toNat_of_nonneg (u64_nonneg n).1
theorem flb_lt (n : Int) : flb n < 18446744073709551616 := by have := (u64_nonneg n).2; have := flb_cast n; omega
omit [Vals] in
theorem read64 (w : Nat) : FloatKind.f64.format.read w = if w % 9223372036854775808 < 4503599627370496 then .number (w / 9223372036854775808 % 2 == 1) (w % 9223372036854775808) (-1074)
  else if w % 9223372036854775808 < 9218868437227405312 then .number (w / 9223372036854775808 % 2 == 1) (4503599627370496 + w % 9223372036854775808 % 4503599627370496) (-1074 + (w % 9223372036854775808 / 4503599627370496 - 1 : Nat))
  else if w % 9223372036854775808 = 9218868437227405312 then .infinity (w / 9223372036854775808 % 2 == 1)
  else .nan (w / 9223372036854775808 % 2 == 1) (w % 9223372036854775808 - 9218868437227405312) := by rfl
omit [Vals] in
theorem nanB_eq (w : Nat) (hw : w < 18446744073709551616) : nanB w = (decide (w / 4503599627370496 % 2048 = 2047) && decide ((w * 4096) % 18446744073709551616 ≠ 0)) := by
 unfold nanB
 rw [read64]
 have h1 : w / 4503599627370496 % 2048 = w % 9223372036854775808 / 4503599627370496 := by omega
 have h2 : (w * 4096) % 18446744073709551616 = w % 4503599627370496 * 4096 := by omega
 rw [h1, h2]
 have h3 : w % 9223372036854775808 % 4503599627370496 = w % 4503599627370496 := by omega
 by_cases c1 : w % 9223372036854775808 < 4503599627370496
 ·rw [if_pos c1]
  simp only [Ieee.Datum.isNaN, Bool.false_eq, Bool.and_eq_false_iff, decide_eq_false_iff_not]
  left; omega
 ·rw [if_neg c1]
  by_cases c2 : w % 9223372036854775808 < 9218868437227405312
  ·rw [if_pos c2]
   simp only [Ieee.Datum.isNaN, Bool.false_eq, Bool.and_eq_false_iff, decide_eq_false_iff_not]
   left; omega
  ·rw [if_neg c2]
   by_cases c3 : w % 9223372036854775808 = 9218868437227405312
   ·rw [if_pos c3]
    simp only [Ieee.Datum.isNaN, Bool.false_eq, Bool.and_eq_false_iff, decide_eq_false_iff_not]
    right; omega
   ·rw [if_neg c3]
    simp only [Ieee.Datum.isNaN, Bool.true_eq, Bool.and_eq_true, decide_eq_true_eq]
    omega
theorem nan_exp (n : Int) : wr .u64 (Int.ofNat ((((wr .u64 n).fdiv (2 ^ 52)) % 2 ^ 64).toNat &&& ((2047 : Int) % 2 ^ 64).toNat)) = ((flb n / 4503599627370496 % 2048 : Nat) : Int) := by
 have hx : wr .u64 n = ((flb n : Nat) : Int) := (flb_cast n).symm
 rw [hx, Int.fdiv_eq_ediv_of_nonneg _ (by decide)]
 have hlt := flb_lt n
 have h1 : (((flb n : Int) / 2 ^ 52) % 2 ^ 64).toNat = flb n / 4503599627370496 := by
  simp only [Int.reducePow]
  omega
 have h2 : ((2047 : Int) % 2 ^ 64).toNat = 2 ^ 11 - 1 := by decide
 rw [h1, h2, Nat.and_two_pow_sub_one_eq_mod]
 have h3 : flb n / 4503599627370496 % 2 ^ 11 = flb n / 4503599627370496 % 2048 := by simp
 rw [h3]
 exact wr_in (by simp [IntKind.min, IntKind.signed]; omega) (by simp [IntKind.max, IntKind.signed, IntKind.bits]; omega)
theorem nan_frac (n : Int) : wr .u64 (wr .u64 n * 2 ^ 12) = (((flb n * 4096) % 18446744073709551616 : Nat) : Int) := by
 have hx : wr .u64 n = ((flb n : Nat) : Int) := (flb_cast n).symm
 rw [hx, wr_if]
 simp only [IntKind.signed, Bool.false_eq_true, false_and, if_false, IntKind.bits, Int.reducePow]
 omega
theorem nan_T {n : Int} (h : eqI (wr .u64 (Int.ofNat ((((wr .u64 n).fdiv (2 ^ 52)) % 2 ^ 64).toNat &&& ((2047 : Int) % 2 ^ 64).toNat))) 2047 = true) : (!eqI (wr .u64 (wr .u64 n * 2 ^ 12)) 0) = nanB (flb n) := by
 rw [nan_exp, eqI_eq, decide_eq_true_eq] at h
 rw [nan_frac, eqI_eq, nanB_eq _ (flb_lt n)]
 have : flb n / 4503599627370496 % 2048 = 2047 := by omega
 simp only [this, decide_true, Bool.true_and, ne_eq]
 rw [← decide_not]
 congr 1
 simp only [eq_iff_iff]
 omega
theorem nan_F {n : Int} (h : eqI (wr .u64 (Int.ofNat ((((wr .u64 n).fdiv (2 ^ 52)) % 2 ^ 64).toNat &&& ((2047 : Int) % 2 ^ 64).toNat))) 2047 = false) : false = nanB (flb n) := by
 rw [nan_exp, eqI_eq, decide_eq_false_iff_not] at h
 rw [nanB_eq _ (flb_lt n)]
 have : ¬ flb n / 4503599627370496 % 2048 = 2047 := by omega
 simp only [this, decide_false, Bool.false_and]
omit [Vals] in
theorem order_self (w : Nat) : (FloatKind.f64.format.order w w != some .eq) = nanB w := by
 unfold nanB Ieee.Format.order
 generalize FloatKind.f64.format.read w = d
 cases d with
 | nan s f => rfl
 | infinity s => cases s <;> rfl
 | number s m i =>
  simp only [Ieee.Datum.order, Ieee.Datum.isNaN]
  simp
theorem wr_flb {n : Int} (h : wr .i64 n = n) : wr .i64 (Int.ofNat (flb n)) = n := by
 show wr .i64 ((flb n : Nat) : Int) = n
 rw [flb_cast, wr_of_mod (k := .i64) (a := wr .u64 n) (b := n), h]
 have := wr_mod .u64 n
 simpa [IntKind.bits] using this
theorem and255 (n : Int) : wr .i64 (Int.ofNat ((n % 2 ^ 64).toNat &&& ((255 : Int) % 2 ^ 64).toNat)) = wr .u8 n := by
 have h2 : ((255 : Int) % 2 ^ 64).toNat = 2 ^ 8 - 1 := by decide
 rw [h2, Nat.and_two_pow_sub_one_eq_mod]
 have h3 : Int.ofNat ((n % 2 ^ 64).toNat % 2 ^ 8) = n % 256 := by
  simp only [Int.reducePow, Nat.reducePow, Int.ofNat_eq_natCast]
  omega
 rw [h3, wr_if .u8]
 simp only [IntKind.signed, Bool.false_eq_true, false_and, if_false, IntKind.bits, Int.reducePow]
 exact wr_in (by simp [IntKind.min, IntKind.signed, IntKind.bits]; omega) (by simp [IntKind.max, IntKind.signed, IntKind.bits]; omega)
theorem flb_back (X : Nat) (h : X < 18446744073709551616) : flb (wr .i64 (Int.ofNat X)) = X := by
 have h1 := flb_cast (wr .i64 (Int.ofNat X))
 rw [wr_wr (k := .u64) (k' := .i64) (by decide), wr_in (k := .u64) (show (0 : Int) ≤ Int.ofNat X from Int.natCast_nonneg X) (show Int.ofNat X ≤ 18446744073709551615 by simp only [Int.ofNat_eq_natCast]; omega)] at h1
 simp only [Int.ofNat_eq_natCast] at h1 ⊢
 omega
def eU : Nat := 1073
def hU : Nat := 2 ^ eU
def iU : Nat := 2 ^ (eU + 1025)
theorem eU_eq : eU = 1073 := rfl
def sg (s : Bool) (S : Nat) : Int := if s then -(S : Int) else S
def FinR (w : Nat) (s : Bool) (S : Nat) : Prop := ∃ M E, FloatKind.f64.format.read w = .number s M E ∧ -1074 ≤ E ∧ S = M * 2 ^ (E + 1074).toNat
def OrdR (w : Nat) (s : Bool) (S : Nat) : Prop := FinR w s S ∨ FloatKind.f64.format.read w = .infinity s ∧ S = iU
theorem hU_pos : 0 < hU := Nat.pow_pos (by decide)
theorem hU2 : 2 * hU = 2 ^ (eU + 1) := by unfold hU; rw [Nat.pow_succ, Nat.mul_comm]
theorem cmp_mul (a b : Int) {c : Int} (hc : 0 < c) : compare (a * c) (b * c) = compare a b := by
 show compareOfLessAndEq _ _ = compareOfLessAndEq _ _
 unfold compareOfLessAndEq
 have h1 : a * c < b * c ↔ a < b := Int.mul_lt_mul_right hc
 have h2 : a * c = b * c ↔ a = b := ⟨fun h => Int.eq_of_mul_eq_mul_right (by omega) h, fun h => by rw [h]⟩
 by_cases h : a < b
 ·rw [if_pos h, if_pos (h1.2 h)]
 ·rw [if_neg h, if_neg (fun x => h (h1.1 x))]
  by_cases e : a = b
  ·rw [if_pos e, if_pos (h2.2 e)]
  ·rw [if_neg e, if_neg (fun x => e (h2.1 x))]
theorem signed_sg (s : Bool) (m up : Nat) : Ieee.signed s m up = sg s (m * 2 ^ up) := by
 unfold Ieee.signed sg
 rw [Nat.shiftLeft_eq]
theorem sg_mul (s : Bool) (S c : Nat) : sg s (S * c) = sg s S * (c : Int) := by
 unfold sg
 split
 ·rw [Int.natCast_mul, Int.neg_mul]
 ·rw [Int.natCast_mul]
theorem scale {m : Nat} {i base : Int} (hb : base ≤ i) (h0 : -1074 ≤ base) : m * 2 ^ (i - base).toNat * 2 ^ (base + 1074).toNat = m * 2 ^ (i + 1074).toNat := by
 rw [Nat.mul_assoc, ← Nat.pow_add]
 congr 2
 omega
theorem fin_order {x y : Nat} {s t : Bool} {S T : Nat} (hx : FinR x s S) (hy : FinR y t T) : FloatKind.f64.format.order x y = some (compare (sg s S) (sg t T)) := by
 obtain ⟨m, i, h1, h2, rfl⟩ := hx
 obtain ⟨n, j, h3, h4, rfl⟩ := hy
 unfold Ieee.Format.order
 rw [h1, h3]
 show some (compare (Ieee.signed s m (i - min i j).toNat) (Ieee.signed t n (j - min i j).toNat)) = _
 have hb : -1074 ≤ min i j := by omega
 have hc : (0 : Int) < ((2 ^ (min i j + 1074).toNat : Nat) : Int) := by
  have := Nat.pow_pos (n := (min i j + 1074).toNat) (show 0 < 2 by decide)
  omega
 rw [signed_sg, signed_sg, ← cmp_mul _ _ hc, ← sg_mul, ← sg_mul, scale (by omega) hb, scale (by omega) hb]
theorem ord_order {x y : Nat} {s t : Bool} {S T : Nat} (hx : OrdR x s S) (hy : FinR y t T) (hT : T < iU) : FloatKind.f64.format.order x y = some (compare (sg s S) (sg t T)) := by
 rcases hx with hx | ⟨h1, hS⟩
 ·exact fin_order hx hy
 ·obtain ⟨n, j, h3, h4, rfl⟩ := hy
  unfold Ieee.Format.order
  rw [h1, h3]
  show some (if s then Ordering.lt else .gt) = _
  rw [hS]
  have h5 : -((iU : Nat) : Int) < sg t (n * 2 ^ (j + 1074).toNat) ∧ sg t (n * 2 ^ (j + 1074).toNat) < ((iU : Nat) : Int) := by
   generalize n * 2 ^ (j + 1074).toNat = Y at hT
   generalize iU = Z at hT
   unfold sg
   split <;> omega
  generalize sg t (n * 2 ^ (j + 1074).toNat) = Y at h5
  generalize iU = Z at h5
  show _ = some (compareOfLessAndEq _ _)
  unfold compareOfLessAndEq sg
  cases s with
  | true => simp only [if_true]; rw [if_pos (by omega)]
  | false => simp only [Bool.false_eq_true, if_false]; rw [if_neg (by omega), if_neg (by omega)]
theorem fin_toInt {x : Nat} {s : Bool} {S : Nat} (hx : FinR x s S) : (FloatKind.f64.decode x).toInt .zero = some (sg s (S / (2 * hU))) := by
 obtain ⟨m, i, h1, h2, rfl⟩ := hx
 unfold FloatKind.decode
 rw [h1, hU2]
 have he := eU_eq
 show some (Ieee.signed s (Ieee.Toward.zero.cut s (m <<< i.toNat) (-i).toNat) 0) = _
 rw [signed_sg, Nat.pow_zero, Nat.mul_one]
 congr 2
 unfold Ieee.Toward.cut
 show m <<< i.toNat / (1 <<< min (-i).toNat ((m <<< i.toNat).log2 + 2)) + 0 = _
 rw [Nat.add_zero, Nat.shiftLeft_eq, Nat.one_shiftLeft]
 by_cases hi : 0 ≤ i
 ·rw [show (-i).toNat = 0 by omega, Nat.zero_min, Nat.pow_zero, Nat.div_one, show (i + 1074).toNat = i.toNat + (eU + 1) by omega, Nat.pow_add, ← Nat.mul_assoc, Nat.mul_div_cancel _ (Nat.pow_pos (by decide))]
 ·rw [show i.toNat = 0 by omega, Nat.pow_zero, Nat.mul_one]
  have e : (2 : Nat) ^ (eU + 1) = 2 ^ (-i).toNat * 2 ^ (i + 1074).toNat := by rw [← Nat.pow_add]; congr 1; omega
  rw [e, Nat.mul_div_mul_right _ _ (Nat.pow_pos (by decide))]
  by_cases hd : (-i).toNat ≤ m.log2 + 2
  ·rw [Nat.min_eq_left hd]
  ·have h3 : m < 2 ^ (m.log2 + 2) := Nat.lt_of_lt_of_le Nat.lt_log2_self (Nat.pow_le_pow_right (by decide) (by omega))
   have h4 : m < 2 ^ (-i).toNat := Nat.lt_of_lt_of_le h3 (Nat.pow_le_pow_right (by decide) (by omega))
   rw [Nat.min_eq_right (by omega), Nat.div_eq_of_lt h3, Nat.div_eq_of_lt h4]
theorem fin_word (neg : Bool) (L K : Nat) (hL : L ≤ 2044) (hK : K < 9007199254740992) (h : L = 0 ∨ 4503599627370496 ≤ K) : FinR (if neg then 9223372036854775808 + (L * 4503599627370496 + K) else L * 4503599627370496 + K) neg (K * 2 ^ L) := by
 have h1 : (if neg then 9223372036854775808 + (L * 4503599627370496 + K) else L * 4503599627370496 + K) % 9223372036854775808 = L * 4503599627370496 + K := by split <;> omega
 have h2 : ((if neg then 9223372036854775808 + (L * 4503599627370496 + K) else L * 4503599627370496 + K) / 9223372036854775808 % 2 == 1) = neg := by
  cases neg
  ·simp only [Bool.false_eq_true, if_false, beq_eq_false_iff_ne]; omega
  ·simp only [if_true, beq_iff_eq]; omega
 unfold FinR
 rw [read64, h1, h2]
 by_cases c1 : L * 4503599627370496 + K < 4503599627370496
 ·rw [if_pos c1]
  have hL0 : L = 0 := by omega
  subst hL0
  exact ⟨_, _, rfl, by omega, by simp⟩
 ·rw [if_neg c1, if_pos (by omega)]
  refine ⟨_, _, rfl, by omega, ?_⟩
  rcases h with rfl | h
  ·rw [show (0 * 4503599627370496 + K) / 4503599627370496 - 1 = 0 by omega, show 4503599627370496 + (0 * 4503599627370496 + K) % 4503599627370496 = K by omega]
   rfl
  ·rw [show (L * 4503599627370496 + K) / 4503599627370496 - 1 = L by omega, show 4503599627370496 + (L * 4503599627370496 + K) % 4503599627370496 = K by omega, show ((-1074 : Int) + (L : Nat) + 1074).toNat = L by omega]
theorem cut_exact (neg : Bool) (n drop : Nat) (hn : n ≠ 0) (h : 2 ^ drop ∣ n) : Ieee.Toward.even.cut neg n drop = n / 2 ^ drop := by
 have h1 : drop ≤ n.log2 := (Nat.le_log2 hn).2 (Nat.le_of_dvd (by omega) h)
 unfold Ieee.Toward.cut
 have hp : (2 : Nat) ^ drop ≠ 0 := Nat.ne_of_gt (Nat.pow_pos (by decide))
 simp only [Nat.min_eq_left (show drop ≤ n.log2 + 2 by omega), Nat.one_shiftLeft, Nat.mod_eq_zero_of_dvd h, Nat.mul_zero]
 rw [show (decide (2 ^ drop < 0) || (2 ^ drop == 0 && n / 2 ^ drop % 2 == 1)) = false by simp [hp]]
 rfl
theorem nearest64 (neg : Bool) (mag : Nat) (place : Int) (h : mag ≠ 0) : FloatKind.f64.format.nearest neg mag place = (if neg then 9223372036854775808 + min ((max (place + mag.log2 - 52) (-1074) - -1074).toNat * 4503599627370496 + Ieee.Toward.even.cut neg (mag <<< (place - max (place + mag.log2 - 52) (-1074)).toNat) (max (place + mag.log2 - 52) (-1074) - place).toNat) 9218868437227405312
  else min ((max (place + mag.log2 - 52) (-1074) - -1074).toNat * 4503599627370496 + Ieee.Toward.even.cut neg (mag <<< (place - max (place + mag.log2 - 52) (-1074)).toNat) (max (place + mag.log2 - 52) (-1074) - place).toNat) 9218868437227405312) := by
 unfold Ieee.Format.nearest
 rw [if_neg h]
 rfl
theorem fin_write (neg : Bool) (a j : Nat) (p : Int) (ha : a < 9007199254740992) (hp : -1074 ≤ p) (hb : p + j ≤ 900) : FinR (FloatKind.f64.format.nearest neg (a * 2 ^ j) p) neg (a * 2 ^ j * 2 ^ (p + 1074).toNat) := by
 by_cases h0 : a * 2 ^ j = 0
 ·rw [h0, Nat.zero_mul]
  have := fin_word neg 0 0 (by decide) (by decide) (.inl rfl)
  rw [Nat.zero_mul] at this
  exact this
 have ha0 : a ≠ 0 := fun h => h0 (by rw [h, Nat.zero_mul])
 rw [nearest64 _ _ _ h0]
 have hlog : (a * 2 ^ j).log2 < 53 + j := (Nat.log2_lt h0).2 (by rw [Nat.pow_add]; exact Nat.mul_lt_mul_of_pos_right ha (Nat.pow_pos (by decide)))
 have hlo : 2 ^ (a * 2 ^ j).log2 ≤ a * 2 ^ j := Nat.log2_self_le h0
 have hhi : a * 2 ^ j < 2 ^ ((a * 2 ^ j).log2 + 1) := Nat.lt_log2_self
 generalize hl : (a * 2 ^ j).log2 = l at hlog hlo hhi
 generalize hlast : max (p + (l : Nat) - 52) (-1074) = last
 by_cases hc : last ≤ p
 ·rw [show (last - p).toNat = 0 by omega, cut_exact _ _ _ (by rw [Nat.shiftLeft_eq]; exact Nat.ne_of_gt (Nat.mul_pos (by omega) (Nat.pow_pos (by decide)))) (by simp), Nat.pow_zero, Nat.div_one, Nat.shiftLeft_eq]
  have hk1 : a * 2 ^ j * 2 ^ (p - last).toNat < 9007199254740992 := by
   refine Nat.lt_of_lt_of_le (Nat.mul_lt_mul_of_pos_right hhi (Nat.pow_pos (by decide))) ?_
   rw [← Nat.pow_add]
   exact Nat.pow_le_pow_right (by decide) (show l + 1 + (p - last).toNat ≤ 53 by omega)
  have hk2 : (last - -1074).toNat = 0 ∨ 4503599627370496 ≤ a * 2 ^ j * 2 ^ (p - last).toNat := by
   by_cases hz : last = -1074
   ·left; omega
   ·right
    refine Nat.le_trans ?_ (Nat.mul_le_mul_right _ hlo)
    rw [← Nat.pow_add]
    exact Nat.pow_le_pow_right (n := 2) (by decide) (show 52 ≤ l + (p - last).toNat by omega)
  have := fin_word neg (last - -1074).toNat _ (by omega) hk1 hk2
  rw [Nat.min_eq_left (by omega)]
  rw [show a * 2 ^ j * 2 ^ (p - last).toNat * 2 ^ (last - -1074).toNat = a * 2 ^ j * 2 ^ (p + 1074).toNat by rw [Nat.mul_assoc, ← Nat.pow_add]; congr 2; omega] at this
  exact this
 ·rw [show (p - last).toNat = 0 by omega, Nat.shiftLeft_eq, Nat.pow_zero, Nat.mul_one]
  have hdj : (last - p).toNat ≤ j := by omega
  have hdv : 2 ^ (last - p).toNat ∣ a * 2 ^ j := Nat.dvd_trans (Nat.pow_dvd_pow 2 hdj) (Nat.dvd_mul_left _ _)
  rw [cut_exact _ _ _ h0 hdv]
  have hd : (last - p).toNat + 52 = l := by omega
  have hk1 : a * 2 ^ j / 2 ^ (last - p).toNat < 9007199254740992 := by
   rw [Nat.div_lt_iff_lt_mul (Nat.pow_pos (by decide))]
   refine Nat.lt_of_lt_of_le hhi ?_
   rw [show (9007199254740992 : Nat) = 2 ^ 53 by decide, ← Nat.pow_add]
   exact Nat.pow_le_pow_right (by decide) (by omega)
  have hk2 : 4503599627370496 ≤ a * 2 ^ j / 2 ^ (last - p).toNat := by
   rw [Nat.le_div_iff_mul_le (Nat.pow_pos (by decide))]
   refine Nat.le_trans ?_ hlo
   rw [show (4503599627370496 : Nat) = 2 ^ 52 by decide, ← Nat.pow_add]
   exact Nat.pow_le_pow_right (by decide) (by omega)
  have := fin_word neg (last - -1074).toNat _ (by omega) hk1 (.inr hk2)
  rw [Nat.min_eq_left (by omega)]
  rw [show a * 2 ^ j / 2 ^ (last - p).toNat * 2 ^ (last - -1074).toNat = a * 2 ^ j * 2 ^ (p + 1074).toNat by
   rw [show (last - -1074).toNat = (last - p).toNat + (p + 1074).toNat by omega, Nat.pow_add, ← Nat.mul_assoc, Nat.div_mul_cancel hdv]] at this
  exact this
def sgR (w : Nat) : Bool := w / 9223372036854775808 % 2 == 1
def szR (w : Nat) : Nat := if w % 9223372036854775808 < 4503599627370496 then w % 9223372036854775808 else (4503599627370496 + w % 9223372036854775808 % 4503599627370496) * 2 ^ (w % 9223372036854775808 / 4503599627370496 - 1)
theorem read_fin (w : Nat) (h : w % 9223372036854775808 < 9218868437227405312) : ∃ M i, FloatKind.f64.format.read w = .number (sgR w) M i ∧ -1074 ≤ i ∧ M < 9007199254740992 ∧ szR w = M * 2 ^ (i + 1074).toNat := by
 unfold szR sgR
 rw [read64]
 by_cases c1 : w % 9223372036854775808 < 4503599627370496
 ·rw [if_pos c1, if_pos c1]
  exact ⟨_, _, rfl, by omega, by omega, by simp⟩
 ·rw [if_neg c1, if_neg c1, if_pos h]
  exact ⟨_, _, rfl, by omega, by omega, by rw [show ((-1074 : Int) + ((w % 9223372036854775808 / 4503599627370496 - 1 : Nat) : Int) + 1074).toNat = w % 9223372036854775808 / 4503599627370496 - 1 by omega]⟩
theorem fin_read {w : Nat} (h : w % 9223372036854775808 < 9218868437227405312) : FinR w (sgR w) (szR w) := by
 obtain ⟨M, i, h1, h2, -, h3⟩ := read_fin w h
 exact ⟨M, i, h1, h2, h3⟩
theorem nan_inf {w : Nat} (h : nanB w = false) : w % 9223372036854775808 ≤ 9218868437227405312 := by
 unfold nanB at h
 rw [read64] at h
 by_cases c : w % 9223372036854775808 ≤ 9218868437227405312
 ·exact c
 ·rw [if_neg (by omega), if_neg (by omega), if_neg (by omega)] at h
  cases h
theorem ord_read {w : Nat} (h : nanB w = false) : OrdR w (sgR w) (szR w) := by
 by_cases c : w % 9223372036854775808 < 9218868437227405312
 ·exact .inl (fin_read c)
 ·have h1 : w % 9223372036854775808 = 9218868437227405312 := by have := nan_inf h; omega
  right
  refine ⟨?_, ?_⟩
  ·rw [read64, h1, if_neg (by decide), if_neg (by decide), if_pos rfl]
   rfl
  ·unfold szR iU
   rw [h1, if_neg (by decide), show (4503599627370496 + 9218868437227405312 % 4503599627370496 : Nat) = 2 ^ 52 by decide, show 9218868437227405312 / 4503599627370496 - 1 = eU + 973 by decide, ← Nat.pow_add]
   congr 1
theorem ord_notnan {w : Nat} {s : Bool} {S : Nat} (h : OrdR w s S) : nanB w = false := by
 unfold nanB
 rcases h with ⟨M, E, h, -⟩ | ⟨h, -⟩ <;> rw [h] <;> rfl
def roundN (w : Nat) : Nat := if w / 4503599627370496 % 2048 < 1023 then w / 9223372036854775808 * 9223372036854775808 + (if w / 4503599627370496 % 2048 = 1022 then 4607182418800017408 else 0)
 else if w / 4503599627370496 % 2048 < 1075 then (w + 2 ^ (1074 - w / 4503599627370496 % 2048)) / 2 ^ (1075 - w / 4503599627370496 % 2048) * 2 ^ (1075 - w / 4503599627370496 % 2048) else w
def rndS (S : Nat) : Nat := (S + hU) / (2 * hU)
theorem word_sg (w X : Nat) (hw : w < 18446744073709551616) : w / 9223372036854775808 * 9223372036854775808 + X = if sgR w then 9223372036854775808 + X else X := by
 unfold sgR
 by_cases h : w / 9223372036854775808 % 2 = 1
 ·rw [if_pos (by simpa using h)]; omega
 ·rw [if_neg (by simpa using h)]; omega
theorem rnd_mul (c : Nat) : rndS (c * (2 * hU)) = c := by
 unfold rndS
 have hp := hU_pos
 rw [Nat.mul_comm c, Nat.mul_add_div (by omega), Nat.div_eq_of_lt (by omega), Nat.add_zero]
theorem round_ord {w : Nat} (hw : w < 18446744073709551616) (h : nanB w = false) : OrdR (roundN w) (sgR w) (rndS (szR w) * (2 * hU)) := by
 have hi := nan_inf h
 have he := eU_eq
 have hp := hU_pos
 have hr : w % 9223372036854775808 / 4503599627370496 = w / 4503599627370496 % 2048 := by omega
 unfold roundN
 generalize hE : w / 4503599627370496 % 2048 = E at hr
 have hEr : E < 2048 := by omega
 by_cases c1 : E < 1023
 ·rw [if_pos c1]
  by_cases c2 : E = 1022
  ·rw [if_pos c2]
   have hS : szR w = (4503599627370496 + w % 4503599627370496) * 2 ^ (eU - 52) := by
    unfold szR
    rw [if_neg (by omega), hr, show E - 1 = eU - 52 by omega]
    congr 2
    omega
   have h2 : hU = 4503599627370496 * 2 ^ (eU - 52) := by unfold hU; rw [show (4503599627370496 : Nat) = 2 ^ 52 by decide, ← Nat.pow_add]; congr 1
   have h3 : rndS (szR w) = 1 := by
    unfold rndS
    have hq : (0 : Nat) < 2 ^ (eU - 52) := Nat.pow_pos (by decide)
    rw [hS, h2, ← Nat.add_mul, ← Nat.mul_assoc, Nat.mul_div_mul_right _ _ hq]
    omega
   rw [h3, Nat.one_mul, word_sg w _ hw]
   have := fin_word (sgR w) (eU - 51) 4503599627370496 (by omega) (by decide) (.inr (by decide))
   rw [show 4503599627370496 * 2 ^ (eU - 51) = 2 * hU by rw [hU2, show (4503599627370496 : Nat) = 2 ^ 52 by decide, ← Nat.pow_add]; congr 1] at this
   rw [he] at this
   exact .inl this
  ·rw [if_neg c2, Nat.add_zero]
   have hS : szR w < hU := by
    have h5 : szR w < 2 ^ (E + 52) ∨ szR w < 2 ^ 52 := by
     unfold szR
     by_cases c3 : w % 9223372036854775808 < 4503599627370496
     ·rw [if_pos c3]; right; exact c3
     ·rw [if_neg c3, hr]
      left
      refine Nat.lt_of_lt_of_le (Nat.mul_lt_mul_of_pos_right (show _ < 2 ^ 53 by omega) (Nat.pow_pos (by decide))) ?_
      rw [← Nat.pow_add]
      exact Nat.pow_le_pow_right (by decide) (by omega)
    unfold hU
    rcases h5 with h5 | h5 <;> exact Nat.lt_of_lt_of_le h5 (Nat.pow_le_pow_right (by decide) (by omega))
   have h3 : rndS (szR w) = 0 := by unfold rndS; exact Nat.div_eq_of_lt (by omega)
   rw [h3, Nat.zero_mul]
   have := fin_word (sgR w) 0 0 (by decide) (by decide) (.inl rfl)
   have e := word_sg w 0 hw
   rw [Nat.add_zero] at e
   rw [e]
   rw [Nat.zero_mul] at this
   exact .inl this
 ·rw [if_neg c1]
  by_cases c2 : E < 1075
  ·rw [if_pos c2]
   obtain ⟨d, hd⟩ : ∃ d, d + E = 1074 := ⟨1074 - E, by omega⟩
   rw [show 1074 - E = d by omega, show 1075 - E = d + 1 by omega]
   have hS : szR w = (4503599627370496 + w % 4503599627370496) * 2 ^ (E - 1) := by
    unfold szR
    rw [if_neg (by omega), hr]
    congr 2
    omega
   generalize hm : w % 4503599627370496 = m at hS
   have hml : m < 4503599627370496 := by omega
   have h2 : hU = 2 ^ d * 2 ^ (E - 1) := by unfold hU; rw [he, ← Nat.pow_add]; congr 1; omega
   have h2' : 2 * hU = 2 ^ (d + 1) * 2 ^ (E - 1) := by rw [h2, Nat.pow_succ, ← Nat.mul_assoc, Nat.mul_comm 2]
   have h52 : (4503599627370496 : Nat) = 2 ^ (d + 1) * 2 ^ (51 - d) := by rw [← Nat.pow_add, show d + 1 + (51 - d) = 52 by omega]
   have hq : (0 : Nat) < 2 ^ (E - 1) := Nat.pow_pos (by decide)
   have hd1 : (0 : Nat) < 2 ^ (d + 1) := Nat.pow_pos (by decide)
   have h3 : rndS (szR w) = 2 ^ (51 - d) + (m + 2 ^ d) / 2 ^ (d + 1) := by
    unfold rndS
    rw [hS, h2', h2, ← Nat.add_mul, Nat.mul_div_mul_right _ _ hq, Nat.add_assoc]
    conv => lhs; rw [h52]
    rw [Nat.mul_add_div hd1]
   have hw2 : (w + 2 ^ d) / 2 ^ (d + 1) * 2 ^ (d + 1) = w / 9223372036854775808 * 9223372036854775808 + (E * 4503599627370496 + (m + 2 ^ d) / 2 ^ (d + 1) * 2 ^ (d + 1)) := by
    have e1 : w + 2 ^ d = 2 ^ (d + 1) * ((w / 9223372036854775808 * 2048 + E) * 2 ^ (51 - d)) + (m + 2 ^ d) := by
     rw [← Nat.mul_assoc, Nat.mul_comm (2 ^ (d + 1)), Nat.mul_assoc, ← h52]
     omega
    rw [e1, Nat.mul_add_div hd1, Nat.add_mul, Nat.mul_assoc, Nat.mul_comm (2 ^ (51 - d)), ← h52]
    omega
   rw [hw2, word_sg w _ hw, h3]
   have hq1 : (m + 2 ^ d) / 2 ^ (d + 1) ≤ 2 ^ (51 - d) := by
    have hle : m + 2 ^ d < 2 ^ (d + 1) * (2 ^ (51 - d) + 1) := by
     rw [Nat.mul_add, ← h52, Nat.mul_one]
     have : 2 ^ d < 2 ^ (d + 1) := Nat.pow_lt_pow_right (by decide) (by omega)
     omega
    have := Nat.div_lt_of_lt_mul hle
    omega
   generalize hQ : (m + 2 ^ d) / 2 ^ (d + 1) = Q at hq1
   by_cases c3 : Q = 2 ^ (51 - d)
   ·have := fin_word (sgR w) E 4503599627370496 (by omega) (by decide) (.inr (by decide))
    rw [c3, Nat.mul_comm (2 ^ (51 - d)), ← h52]
    rw [show 4503599627370496 * 2 ^ E = (2 ^ (51 - d) + 2 ^ (51 - d)) * (2 * hU) by
     rw [h2', ← Nat.two_mul, ← Nat.mul_assoc, Nat.mul_comm (2 * 2 ^ (51 - d)), ← Nat.mul_assoc, Nat.mul_comm (2 ^ (d + 1)) 2, Nat.mul_assoc 2, ← h52, Nat.mul_comm 2, Nat.mul_assoc, ← Nat.pow_succ', show (E - 1).succ = E by omega]] at this
    exact .inl this
   ·have hQ2 : Q * 2 ^ (d + 1) < 4503599627370496 := by
     conv => rhs; rw [h52, Nat.mul_comm]
     exact Nat.mul_lt_mul_of_pos_right (by omega) hd1
    have := fin_word (sgR w) (E - 1) (4503599627370496 + Q * 2 ^ (d + 1)) (by omega) (by omega) (.inr (by omega))
    rw [show (E - 1) * 4503599627370496 + (4503599627370496 + Q * 2 ^ (d + 1)) = E * 4503599627370496 + Q * 2 ^ (d + 1) by omega,
     show (4503599627370496 + Q * 2 ^ (d + 1)) * 2 ^ (E - 1) = (2 ^ (51 - d) + Q) * (2 * hU) by
      rw [h2', ← Nat.mul_assoc, Nat.add_mul (2 ^ (51 - d)), Nat.mul_comm (2 ^ (51 - d)), ← h52]] at this
    exact .inl this
  ·rw [if_neg c2]
   have hS : szR w = (4503599627370496 + w % 4503599627370496) * 2 ^ (E - 1075) * (2 * hU) := by
    unfold szR
    rw [if_neg (by omega), hr, hU2, Nat.mul_assoc, ← Nat.pow_add, show E - 1075 + (eU + 1) = E - 1 by omega]
    congr 2
    omega
   have h4 := ord_read h
   rw [hS] at h4 ⊢
   rw [rnd_mul]
   exact h4
theorem sub_fin {x y M : Nat} {s t : Bool} {i : Int} (h1 : FloatKind.f64.format.read x = .number s M i) (h2 : -1074 ≤ i) (h3 : M < 9007199254740992) (hi : i ≤ 900) {S : Nat} (hS : S = M * 2 ^ (i + 1074).toNat) (hy : FinR y t (S / (2 * hU) * (2 * hU))) (ht : t = s ∨ S / (2 * hU) = 0) :
  ∃ r u, FloatKind.f64.format.sub x y = some r ∧ FinR r u (S % (2 * hU)) ∧ (S % (2 * hU) ≠ 0 → u = s) := by
 obtain ⟨N, j, g1, g2, g3⟩ := hy
 have he := eU_eq
 unfold Ieee.Format.sub
 rw [h1, g1]
 show ∃ r u, some (FloatKind.f64.format.nearest (if Ieee.signed s M (i - min i j).toNat + Ieee.signed (!t) N (j - min i j).toNat = 0 then s && !t else decide (Ieee.signed s M (i - min i j).toNat + Ieee.signed (!t) N (j - min i j).toNat < 0)) (Ieee.signed s M (i - min i j).toNat + Ieee.signed (!t) N (j - min i j).toNat).natAbs (min i j)) = some r ∧ _
 have hb : -1074 ≤ min i j := by omega
 have hcp : 0 < 2 ^ (min i j + 1074).toNat := Nat.pow_pos (by decide)
 have htot : (Ieee.signed s M (i - min i j).toNat + Ieee.signed (!t) N (j - min i j).toNat) * ((2 ^ (min i j + 1074).toNat : Nat) : Int) = sg s (S % (2 * hU)) := by
  rw [Int.add_mul, signed_sg, signed_sg, ← sg_mul, ← sg_mul, scale (by omega) hb, scale (by omega) hb, ← hS, ← g3]
  have hd := Nat.div_add_mod S (2 * hU)
  rw [Nat.mul_comm] at hd
  rcases ht with rfl | h0
  ·generalize S / (2 * hU) * (2 * hU) = A at hd
   generalize S % (2 * hU) = R at hd
   unfold sg
   cases t <;> simp <;> omega
  ·rw [h0, Nat.zero_mul] at hd ⊢
   generalize S % (2 * hU) = R at hd
   unfold sg
   cases t <;> cases s <;> simp <;> omega
 have hR : S % (2 * hU) = (if i < 0 then M % 2 ^ (-i).toNat * 2 ^ (i - min i j).toNat else 0) * 2 ^ (min i j + 1074).toNat := by
  rw [hS, hU2]
  split
  ·rw [scale (by omega) hb, show 2 ^ (eU + 1) = 2 ^ (-i).toNat * 2 ^ (i + 1074).toNat by rw [← Nat.pow_add, show (-i).toNat + (i + 1074).toNat = eU + 1 by omega], Nat.mul_mod_mul_right]
  ·rw [show (i + 1074).toNat = i.toNat + (eU + 1) by omega, Nat.pow_add, ← Nat.mul_assoc, Nat.mul_mod_left, Nat.zero_mul]
 generalize hT : Ieee.signed s M (i - min i j).toNat + Ieee.signed (!t) N (j - min i j).toNat = T at htot
 have habs : T.natAbs * 2 ^ (min i j + 1074).toNat = S % (2 * hU) := by
  have := congrArg Int.natAbs htot
  rw [Int.natAbs_mul, Int.natAbs_natCast] at this
  rw [this]
  unfold sg
  split <;> omega
 have hA : T.natAbs = (if i < 0 then M % 2 ^ (-i).toNat * 2 ^ (i - min i j).toNat else 0) := Nat.eq_of_mul_eq_mul_right hcp (habs.trans hR)
 have hsg : S % (2 * hU) ≠ 0 → (if T = 0 then s && !t else decide (T < 0)) = s := by
  intro hne
  have hT0 : T ≠ 0 := fun h => hne (by rw [← habs, h]; simp)
  rw [if_neg hT0]
  have hc : (0 : Int) < ((2 ^ (min i j + 1074).toNat : Nat) : Int) := by omega
  cases s with
  | true =>
   apply decide_eq_true
   have h5 : T * ((2 ^ (min i j + 1074).toNat : Nat) : Int) < 0 := by rw [htot]; unfold sg; simp only [if_true]; omega
   exact Int.neg_of_mul_neg_left h5 (by omega)
  | false =>
   apply decide_eq_false
   have h5 : 0 < T * ((2 ^ (min i j + 1074).toNat : Nat) : Int) := by rw [htot]; unfold sg; simp only [Bool.false_eq_true, if_false]; omega
   exact Int.not_lt.2 (Int.le_of_lt (Int.pos_of_mul_pos_left h5 hc))
 refine ⟨_, _, rfl, ?_, hsg⟩
 generalize (if T = 0 then s && !t else decide (T < 0)) = u
 rw [← habs, hA]
 split
 ·refine fin_write u (M % 2 ^ (-i).toNat) (i - min i j).toNat (min i j) (Nat.lt_of_le_of_lt (Nat.mod_le _ _) h3) hb (by omega)
 ·have := fin_write u 0 0 (min i j) (by decide) hb (by omega)
  simpa using this
section
variable {X : Cx} {ops : Array Oper} {e : Env} {h : Hp} {Q : Out → Prop} {o : Oper} {rest : List Oper} {t : Tmp} {s d : TypeId} {x : Operand}
theorem _root_.Go.Ab.Ie.convIF {k : IntKind} {f : FloatKind} {n : Int} (hd : o.dst = some t) (ht : Nat.blt t X.n = true) (hg : wantE ops e o = some true) (ho : o.op = .convert s d x) (hs : X.P.underlying s = some (.int k)) (hd' : X.P.underlying d = some (.float f)) (hx : evE X.P e x = some (.int k n)) (q : Ie X ops ((t, .float f (f.nearest n)) :: e) h rest Q) : Ie X ops e h (o :: rest) Q :=
 Ie.conv hd ht hg ho hx (by unfold cls; simp only [hs, hd']) (by unfold convS convA; simp only [hs, hd']) q
theorem _root_.Go.Ab.Ie.convFI {k : IntKind} {f : FloatKind} {b : Nat} {n : Int} (hd : o.dst = some t) (ht : Nat.blt t X.n = true) (hg : wantE ops e o = some true) (ho : o.op = .convert s d x) (hs : X.P.underlying s = some (.float f)) (hd' : X.P.underlying d = some (.int k)) (hx : evE X.P e x = some (.float f b)) (hv : fltInt f b k = some (.int k n)) (q : Ie X ops ((t, .int k n) :: e) h rest Q) : Ie X ops e h (o :: rest) Q :=
 Ie.conv hd ht hg ho hx (by unfold cls; simp only [hs, hd']) (by unfold convS convA; simp only [hs, hd', hv]) q
theorem _root_.Go.Ab.Ie.max {x y : Operand} {k k' : IntKind} {a b : Int} {ats : Array TypeId} (hd : o.dst = some t) (ht : Nat.blt t X.n = true) (hg : wantE ops e o = some true) (ho : o.op = .call { callee := .builtin .max, args := #[x, y], argTypes := ats }) (hx : evE X.P e x = some (.int k a)) (hy : evE X.P e y = some (.int k' b)) (q : Ie X ops ((t, .int k (if a < b then b else a)) :: e) h rest Q) : Ie X ops e h (o :: rest) Q := by
 refine Ie.val h hd ht hg (by rw [ho]; rfl) (fun ts m h1 h2 => ⟨0, m, ?_, h2⟩) q
 rw [ho, doOp_p rfl]
 have : evs X.P ts [x, y] = some [.int k a, .int k' b] := by
  unfold evs evs evs
  rw [evE_ev h1 hx, evE_ev h1 hy]
  rfl
 show doP (minMax1 false (evs X.P ts [x, y])) m = _
 rw [this]
 rfl
end
theorem binS_fsub {P : Program} {ty : TypeId} {x y : Operand} {a b r : Nat} (h : FloatKind.f64.format.sub a b = some r) : binS P .sub ty x y (.float .f64 a) (.float .f64 b) = some (.float .f64 r) := by
 have h2 : binA P .sub ty x y (.float .f64 a) (.float .f64 b) = some (.float .f64 r) := by
  show (FloatKind.f64.format.sub a b).map (Value.float .f64) = _
  rw [h]
  rfl
 unfold binS
 rw [h2]
theorem fltInt_fin {x : Nat} {s : Bool} {S : Nat} (hx : FinR x s S) (h1 : -9223372036854775808 ≤ sg s (S / (2 * hU))) (h2 : sg s (S / (2 * hU)) ≤ 9223372036854775807) : fltInt .f64 x .i64 = some (.int .i64 (sg s (S / (2 * hU)))) := by
 unfold fltInt
 rw [fin_toInt hx]
 show (bif decide (IntKind.i64.min ≤ _) && decide (_ ≤ IntKind.i64.max) then _ else _) = _
 rw [decide_eq_true (show IntKind.i64.min ≤ sg s (S / (2 * hU)) from h1), decide_eq_true (show sg s (S / (2 * hU)) ≤ IntKind.i64.max from h2)]
 rfl
theorem u64_nat {n : Nat} (h : n < 18446744073709551616) : wr .u64 (Int.ofNat n) = Int.ofNat n := wr_in (show (0 : Int) ≤ Int.ofNat n from Int.natCast_nonneg n) (show Int.ofNat n ≤ 18446744073709551615 by simp only [Int.ofNat_eq_natCast]; omega)
theorem nat_m64 {n : Nat} (h : n < 18446744073709551616) : ((n : Int) % 2 ^ 64).toNat = n := by
 simp only [Int.reducePow]
 omega
theorem expo_eq {w : Nat} (hw : w < 18446744073709551616) : wr .u64 (Int.ofNat ((((w : Int).fdiv (2 ^ 52)) % 2 ^ 64).toNat &&& ((2047 : Int) % 2 ^ 64).toNat)) = Int.ofNat (w / 4503599627370496 % 2048) := by
 have h := nan_exp (w : Int)
 have h1 : wr .u64 (w : Int) = (w : Int) := u64_nat hw
 have h2 : flb (w : Int) = w := by unfold flb; rw [h1]; rfl
 rw [h1, h2] at h
 exact h
theorem top_eq {w : Nat} (hw : w < 18446744073709551616) : wr .u64 (Int.ofNat (((w : Int) % 2 ^ 64).toNat &&& ((9223372036854775808 : Int) % 2 ^ 64).toNat)) = Int.ofNat (w / 9223372036854775808 * 9223372036854775808) := by
 rw [nat_m64 hw, show Int.toNat ((9223372036854775808 : Int) % (2 : Int) ^ 64) = 2 ^ 63 by decide]
 have h3 : (w &&& 2 ^ 63) / 2 ^ 63 = w / 2 ^ 63 := by
  rw [← Nat.shiftRight_eq_div_pow, Nat.shiftRight_and_distrib, Nat.shiftRight_eq_div_pow, Nat.shiftRight_eq_div_pow, Nat.div_self (Nat.pow_pos (by decide)), show (1 : Nat) = 2 ^ 1 - 1 from rfl, Nat.and_two_pow_sub_one_eq_mod]
  omega
 have h4 : (w &&& 2 ^ 63) % 2 ^ 63 = 0 := by rw [Nat.and_mod_two_pow, Nat.mod_self, Nat.and_zero]
 have h5 := Nat.div_add_mod (w &&& 2 ^ 63) (2 ^ 63)
 rw [h3, h4, Nat.add_zero, Nat.mul_comm] at h5
 rw [← h5, show (2 : Nat) ^ 63 = 9223372036854775808 by decide]
 exact u64_nat (by omega)
theorem or_eq {w : Nat} (hw : w < 18446744073709551616) : wr .u64 (Int.ofNat (((Int.ofNat (w / 9223372036854775808 * 9223372036854775808)) % 2 ^ 64).toNat ||| ((4607182418800017408 : Int) % 2 ^ 64).toNat)) = Int.ofNat (w / 9223372036854775808 * 9223372036854775808 + 4607182418800017408) := by
 have h1 : ((Int.ofNat (w / 9223372036854775808 * 9223372036854775808)) % 2 ^ 64).toNat = w / 9223372036854775808 * 9223372036854775808 := nat_m64 (by omega)
 have h2 : w / 9223372036854775808 * 9223372036854775808 ||| 4607182418800017408 = w / 9223372036854775808 * 9223372036854775808 + 4607182418800017408 := by
  rw [Nat.mul_comm, show (9223372036854775808 : Nat) = 2 ^ 63 by decide]
  exact (Nat.two_pow_add_eq_or_of_lt (show 4607182418800017408 < 2 ^ 63 by decide) _).symm
 rw [h1, show Int.toNat ((4607182418800017408 : Int) % (2 : Int) ^ 64) = 4607182418800017408 by decide, h2]
 exact u64_nat (by omega)
theorem sub_eq {E : Nat} (h1 : ¬ E < 1023) (h2 : E < 2048) : wr .u64 (Int.ofNat E - 1023) = Int.ofNat (E - 1023) := by
 rw [show Int.ofNat E - 1023 = Int.ofNat (E - 1023) by simp only [Int.ofNat_eq_natCast]; omega]
 exact u64_nat (by omega)
theorem fdiv_nat (a k : Nat) : (a : Int).fdiv (2 ^ k) = Int.ofNat (a / 2 ^ k) := by
 rw [Int.fdiv_eq_ediv_of_nonneg _ (Int.le_of_lt (Int.pow_pos (by decide)))]
 show _ = ((a / 2 ^ k : Nat) : Int)
 rw [Int.natCast_ediv, Int.natCast_pow]
 rfl
theorem halfshr_eq {E : Nat} (h1 : ¬ E < 1023) (h2 : E < 1075) : (2251799813685248 : Int).fdiv (2 ^ (E - 1023)) = Int.ofNat (2 ^ (1074 - E)) := by
 have := fdiv_nat 2251799813685248 (E - 1023)
 rw [show (2251799813685248 : Nat) / 2 ^ (E - 1023) = 2 ^ (1074 - E) by rw [show (2251799813685248 : Nat) = 2 ^ 51 by decide, Nat.pow_div (by omega) (by decide), show 51 - (E - 1023) = 1074 - E by omega]] at this
 exact this
theorem maskshr_eq {E : Nat} (h1 : ¬ E < 1023) (h2 : E < 1075) : (4503599627370495 : Int).fdiv (2 ^ (E - 1023)) = Int.ofNat (2 ^ (1075 - E) - 1) := by
 have := fdiv_nat 4503599627370495 (E - 1023)
 have hp : 0 < 2 ^ (E - 1023) := Nat.pow_pos (by decide)
 have hq : 0 < 2 ^ (1075 - E) := Nat.pow_pos (by decide)
 have e : (4503599627370496 : Nat) = 2 ^ (1075 - E) * 2 ^ (E - 1023) := by rw [← Nat.pow_add, show 1075 - E + (E - 1023) = 52 by omega]
 rw [show (4503599627370495 : Nat) / 2 ^ (E - 1023) = 2 ^ (1075 - E) - 1 by
  rw [show (4503599627370495 : Nat) = 2 ^ (1075 - E) * 2 ^ (E - 1023) - 1 by omega]
  exact Nat.div_eq_of_lt_le (by rw [Nat.sub_mul, Nat.one_mul]; omega) (by rw [Nat.sub_add_cancel hq]; exact Nat.sub_lt (Nat.mul_pos hq hp) (by decide))] at this
 exact this
theorem addhalf_eq {w E : Nat} (hE : E = w / 4503599627370496 % 2048) (hw : w < 18446744073709551616) (h1 : ¬ E < 1023) (h2 : E < 1075) : wr .u64 ((w : Int) + Int.ofNat (2 ^ (1074 - E))) = Int.ofNat (w + 2 ^ (1074 - E)) ∧ w + 2 ^ (1074 - E) < 18446744073709551616 := by
 have hp : 2 ^ (1074 - E) ≤ 2 ^ 51 := Nat.pow_le_pow_right (by decide) (by omega)
 have hl : w + 2 ^ (1074 - E) < 18446744073709551616 := by omega
 exact ⟨u64_nat hl, hl⟩
theorem andnot_eq {A d : Nat} (hA : A < 18446744073709551616) (hd : d ≤ 52) : wr .u64 (Int.ofNat (((Int.ofNat A) % 2 ^ 64).toNat &&& (2 ^ 64 - 1 - ((Int.ofNat (2 ^ d - 1)) % 2 ^ 64).toNat))) = Int.ofNat (A / 2 ^ d * 2 ^ d) := by
 have hp : 0 < 2 ^ d := Nat.pow_pos (by decide)
 have hp2 : 2 ^ d ≤ 2 ^ 52 := Nat.pow_le_pow_right (by decide) hd
 have h1 : ((Int.ofNat A) % 2 ^ 64).toNat = A := nat_m64 hA
 have h2 : ((Int.ofNat (2 ^ d - 1)) % 2 ^ 64).toNat = 2 ^ d - 1 := nat_m64 (by omega)
 rw [h1, h2, show (2 : Nat) ^ 64 - 1 - (2 ^ d - 1) = 2 ^ 64 - 2 ^ d by omega]
 have e : (2 : Nat) ^ 64 - 2 ^ d = (2 ^ (64 - d) - 1) * 2 ^ d := by rw [Nat.sub_mul, ← Nat.pow_add, show 64 - d + d = 64 by omega, Nat.one_mul]
 have h3 : (A &&& (2 ^ 64 - 2 ^ d)) / 2 ^ d = A / 2 ^ d := by
  rw [← Nat.shiftRight_eq_div_pow, Nat.shiftRight_and_distrib, Nat.shiftRight_eq_div_pow, Nat.shiftRight_eq_div_pow, e, Nat.mul_div_cancel _ hp, Nat.and_two_pow_sub_one_eq_mod]
  apply Nat.mod_eq_of_lt
  rw [Nat.div_lt_iff_lt_mul hp, ← Nat.pow_add, show 64 - d + d = 64 by omega]
  exact hA
 have h4 : (A &&& (2 ^ 64 - 2 ^ d)) % 2 ^ d = 0 := by
  rw [Nat.and_mod_two_pow, e, Nat.mul_mod_left, Nat.and_zero]
 have h5 := Nat.div_add_mod (A &&& (2 ^ 64 - 2 ^ d)) (2 ^ d)
 rw [h3, h4, Nat.add_zero, Nat.mul_comm] at h5
 rw [← h5]
 exact u64_nat (Nat.lt_of_le_of_lt (Nat.div_mul_le_self _ _) hA)
def EndR (c : Int) (y : Nat) : Prop := ∃ t T, FinR y t T ∧ sg t T = c * ((2 * hU : Nat) : Int) ∧ T < iU
theorem endR_int (n : Int) (a j : Nat) (h : n.natAbs = a * 2 ^ j) (ha : a < 9007199254740992) (hj : j ≤ 64) : EndR n (FloatKind.f64.nearest n) := by
 have he := eU_eq
 have h1 := fin_write (decide (n < 0)) a j 0 ha (by decide) (by omega)
 rw [← h, show ((0 : Int) + 1074).toNat = eU + 1 by omega, ← hU2] at h1
 refine ⟨_, _, h1, ?_, ?_⟩
 ·rw [sg_mul]
  congr 1
  unfold sg
  by_cases hn : n < 0
  ·rw [decide_eq_true hn]; simp only [if_true]; omega
  ·rw [decide_eq_false hn]; simp only [Bool.false_eq_true, if_false]; omega
 ·rw [h, hU2]
  unfold iU
  have h2 : a * 2 ^ j < 2 ^ (53 + 64) := by
   rw [Nat.pow_add]
   exact Nat.lt_of_lt_of_le (Nat.mul_lt_mul_of_pos_right ha (Nat.pow_pos (by decide))) (Nat.mul_le_mul_left _ (Nat.pow_le_pow_right (by decide) hj))
  refine Nat.lt_of_lt_of_le (Nat.mul_lt_mul_of_pos_right h2 (Nat.pow_pos (by decide))) ?_
  rw [← Nat.pow_add]
  exact Nat.pow_le_pow_right (by decide) (by omega)
theorem cmp_le (a b : Int) : (some (compare a b) == some Ordering.lt || some (compare a b) == some Ordering.eq) = decide (a ≤ b) := by
 show (some (compareOfLessAndEq a b) == some Ordering.lt || some (compareOfLessAndEq a b) == some Ordering.eq) = decide (a ≤ b)
 unfold compareOfLessAndEq
 by_cases h : a < b
 ·rw [if_pos h, decide_eq_true (by omega)]; rfl
 ·rw [if_neg h]
  by_cases h2 : a = b
  ·rw [if_pos h2, decide_eq_true (by omega)]; rfl
  ·rw [if_neg h2, decide_eq_false (by omega)]; rfl
theorem cmp_ge (a b : Int) : (some (compare a b) == some Ordering.gt || some (compare a b) == some Ordering.eq) = decide (b ≤ a) := by
 show (some (compareOfLessAndEq a b) == some Ordering.gt || some (compareOfLessAndEq a b) == some Ordering.eq) = decide (b ≤ a)
 unfold compareOfLessAndEq
 by_cases h : a < b
 ·rw [if_pos h, decide_eq_false (by omega)]; rfl
 ·rw [if_neg h]
  by_cases h2 : a = b
  ·rw [if_pos h2, decide_eq_true (by omega)]; rfl
  ·rw [if_neg h2, decide_eq_true (by omega)]; rfl
theorem leq_ord {x y : Nat} {s : Bool} {S : Nat} {c : Int} (hx : OrdR x s S) (hy : EndR c y) : (FloatKind.f64.format.order x y == some .lt || FloatKind.f64.format.order x y == some .eq) = decide (sg s S ≤ c * ((2 * hU : Nat) : Int)) := by
 obtain ⟨t, T, h1, h2, h3⟩ := hy
 rw [ord_order hx h1 h3, cmp_le, h2]
theorem geq_ord {x y : Nat} {s : Bool} {S : Nat} {c : Int} (hx : OrdR x s S) (hy : EndR c y) : (FloatKind.f64.format.order x y == some .gt || FloatKind.f64.format.order x y == some .eq) = decide (c * ((2 * hU : Nat) : Int) ≤ sg s S) := by
 obtain ⟨t, T, h1, h2, h3⟩ := hy
 rw [ord_order hx h1 h3, cmp_ge, h2]
theorem hUi : (0 : Int) < ((2 * hU : Nat) : Int) := by have := hU_pos; omega
def valR (w : Nat) : Int := sg (sgR w) (rndS (szR w))
def clampV (lo hi v : Int) : Int := if v ≤ lo then lo else if hi ≤ v then hi else v
def convR (lo hi : Int) (w : Nat) : Int := if nanB w then 0 else clampV lo hi (valR w)
theorem round_leq {w y : Nat} {c : Int} (hw : w < 18446744073709551616) (h : nanB w = false) (hy : EndR c y) : (FloatKind.f64.format.order (roundN w) y == some .lt || FloatKind.f64.format.order (roundN w) y == some .eq) = decide (valR w ≤ c) := by
 rw [leq_ord (round_ord hw h) hy, sg_mul]
 exact decide_eq_decide.2 ⟨fun h => Int.le_of_mul_le_mul_right h hUi, fun h => Int.mul_le_mul_of_nonneg_right h (Int.le_of_lt hUi)⟩
theorem round_geq {w y : Nat} {c : Int} (hw : w < 18446744073709551616) (h : nanB w = false) (hy : EndR c y) : (FloatKind.f64.format.order (roundN w) y == some .gt || FloatKind.f64.format.order (roundN w) y == some .eq) = decide (c ≤ valR w) := by
 rw [geq_ord (round_ord hw h) hy, sg_mul]
 exact decide_eq_decide.2 ⟨fun h => Int.le_of_mul_le_mul_right h hUi, fun h => Int.mul_le_mul_of_nonneg_right h (Int.le_of_lt hUi)⟩
theorem round_nan {w : Nat} (hw : w < 18446744073709551616) : nanB (roundN w) = nanB w := by
 cases h : nanB w with
 | false => exact ord_notnan (round_ord hw h)
 | true =>
  have h2 := h
  rw [nanB_eq w hw] at h2
  simp only [Bool.and_eq_true, decide_eq_true_eq] at h2
  unfold roundN
  rw [h2.1, if_neg (by decide), if_neg (by decide)]
  exact h
theorem big_iU : ((iU : Nat) : Int) ≥ 9223372036854775808 * ((2 * hU : Nat) : Int) := by
 have he := eU_eq
 have h : 9223372036854775808 * (2 * hU) ≤ iU := by
  rw [hU2]
  unfold iU
  rw [show (9223372036854775808 : Nat) = 2 ^ 63 by decide, ← Nat.pow_add]
  exact Nat.pow_le_pow_right (by decide) (by omega)
 have h2 : ((9223372036854775808 * (2 * hU) : Nat) : Int) = 9223372036854775808 * ((2 * hU : Nat) : Int) := Int.natCast_mul ..
 omega
theorem round_int {w : Nat} (hw : w < 18446744073709551616) (h : nanB w = false) (h1 : -9223372036854775808 < valR w) (h2 : valR w < 9223372036854775808) : fltInt .f64 (roundN w) .i64 = some (.int .i64 (valR w)) := by
 rcases round_ord hw h with hf | ⟨-, hS⟩
 ·have e : sg (sgR w) (rndS (szR w) * (2 * hU) / (2 * hU)) = valR w := by
   rw [Nat.mul_div_cancel _ (by have := hU_pos; omega)]
   rfl
  have := fltInt_fin hf (by rw [e]; omega) (by rw [e]; omega)
  rw [e] at this
  exact this
 ·exfalso
  have h3 : ((rndS (szR w) : Nat) : Int) * ((2 * hU : Nat) : Int) ≥ 9223372036854775808 * ((2 * hU : Nat) : Int) := by
   rw [← Int.natCast_mul, hS]
   exact big_iU
  have h4 := Int.le_of_mul_le_mul_right h3 hUi
  unfold valR sg at h1 h2
  cases hs : sgR w <;> simp only [hs, Bool.false_eq_true, if_false, if_true] at h1 h2 <;> omega
theorem rnd_gen {h q r : Nat} (hp : 0 < h) : (h ≤ r → r < 2 * h → (2 * h * q + r + h) / (2 * h) = q + 1) ∧ (r < h → (2 * h * q + r + h) / (2 * h) = q) := by
 constructor
 ·intro h1 h2
  rw [show 2 * h * q + r + h = 2 * h * (q + 1) + (r - h) by rw [Nat.mul_add, Nat.mul_one]; generalize 2 * h * q = A; omega, Nat.mul_add_div (by omega), Nat.div_eq_of_lt (by omega), Nat.add_zero]
 ·intro h1
  rw [Nat.add_assoc, Nat.mul_add_div (by omega), Nat.div_eq_of_lt (by omega), Nat.add_zero]
theorem rnd_parts (S : Nat) : (hU ≤ S % (2 * hU) → rndS S = S / (2 * hU) + 1) ∧ (S % (2 * hU) < hU → rndS S = S / (2 * hU)) := by
 have hp := hU_pos
 have hm := Nat.mod_lt S (show 0 < 2 * hU by omega)
 obtain ⟨h1, h2⟩ := rnd_gen (h := hU) (q := S / (2 * hU)) (r := S % (2 * hU)) hp
 rw [Nat.div_add_mod] at h1 h2
 exact ⟨fun h => h1 h hm, h2⟩
theorem sg_dec (s : Bool) (q : Nat) : sg (decide (sg s q < 0)) q = sg s q := by
 unfold sg
 cases s with
 | false => simp only [Bool.false_eq_true, if_false]; rw [decide_eq_false (by omega)]; rfl
 | true =>
  simp only [if_true]
  by_cases hq : q = 0
  ·subst hq; rfl
  ·rw [decide_eq_true (by omega)]; rfl
theorem near_facts {w : Nat} (hw : w < 18446744073709551616) (h : nanB w = false) (h1 : ¬ 9223372036854775808 * ((2 * hU : Nat) : Int) ≤ sg (sgR w) (szR w)) (h2 : ¬ sg (sgR w) (szR w) ≤ -9223372036854775808 * ((2 * hU : Nat) : Int)) :
  ∃ (n : Int) (r : Nat) (u : Bool) (R : Nat), fltInt .f64 w .i64 = some (.int .i64 n) ∧ FloatKind.f64.format.sub w (FloatKind.f64.nearest n) = some r ∧ FinR r u R ∧ -9223372036854775808 ≤ n ∧ n ≤ 9223372036854775807 ∧
   (hU ≤ sg u R → valR w = n + 1 ∧ n < 9223372036854775807) ∧ (sg u R ≤ -hU → valR w = n - 1 ∧ -9223372036854775808 < n) ∧ (¬ hU ≤ sg u R → ¬ sg u R ≤ -hU → valR w = n) := by
 have hp := hU_pos
 have he := eU_eq
 have hfin : w % 9223372036854775808 < 9218868437227405312 := by
  rcases Nat.lt_or_ge (w % 9223372036854775808) 9218868437227405312 with h3 | h3
  ·exact h3
  ·exfalso
   have h4 : szR w = iU := by
    rcases ord_read h with ⟨M, E, h5, -⟩ | ⟨-, h5⟩
    ·rw [read64, show w % 9223372036854775808 = 9218868437227405312 by have := nan_inf h; omega, if_neg (by decide), if_neg (by decide), if_pos rfl] at h5
     cases h5
    ·exact h5
   have h5 := big_iU
   rw [h4] at h1 h2
   generalize ((2 * hU : Nat) : Int) = U at h1 h2 h5
   unfold sg at h1 h2
   cases hs : sgR w <;> simp only [hs, Bool.false_eq_true, if_false, if_true] at h1 h2 <;> omega
 obtain ⟨M, i, g1, g2, g3, g4⟩ := read_fin w hfin
 have hF := fin_read hfin
 have hTU : szR w / (2 * hU) < 9223372036854775808 ∨ (sgR w = true ∧ szR w / (2 * hU) ≤ 9223372036854775808) := by
  have hm := Nat.div_mul_le_self (szR w) (2 * hU)
  have hm2 : ((szR w / (2 * hU) : Nat) : Int) * ((2 * hU : Nat) : Int) ≤ (szR w : Int) := by rw [← Int.natCast_mul]; exact Int.ofNat_le.2 hm
  cases hs : sgR w with
  | false =>
   left
   rw [hs] at h1
   unfold sg at h1
   simp only [Bool.false_eq_true, if_false] at h1
   have : ((szR w / (2 * hU) : Nat) : Int) < 9223372036854775808 := Int.lt_of_mul_lt_mul_right (by omega : ((szR w / (2 * hU) : Nat) : Int) * ((2 * hU : Nat) : Int) < 9223372036854775808 * ((2 * hU : Nat) : Int)) (Int.le_of_lt hUi)
   omega
  | true =>
   right
   rw [hs] at h2
   unfold sg at h2
   simp only [if_true] at h2
   have : ((szR w / (2 * hU) : Nat) : Int) < 9223372036854775808 := Int.lt_of_mul_lt_mul_right (by rw [Int.neg_mul] at h2; omega : ((szR w / (2 * hU) : Nat) : Int) * ((2 * hU : Nat) : Int) < 9223372036854775808 * ((2 * hU : Nat) : Int)) (Int.le_of_lt hUi)
   exact ⟨rfl, by omega⟩
 have hn1 : -9223372036854775808 ≤ sg (sgR w) (szR w / (2 * hU)) ∧ sg (sgR w) (szR w / (2 * hU)) ≤ 9223372036854775807 := by
  unfold sg
  generalize szR w / (2 * hU) = q_ at hTU ⊢
  rcases hTU with hT | ⟨hs, hT⟩
  ·cases sgR w <;> simp only [Bool.false_eq_true, if_false, if_true] <;> omega
  ·rw [hs]; simp only [if_true]; omega
 have hi9 : i ≤ 900 := by
  rcases Int.lt_or_le 900 i with h3 | h3
  ·exfalso
   have h4 : M ≠ 0 := fun h0 => by
    have h7 := g1
    rw [h0, read64] at h7
    by_cases c1 : w % 9223372036854775808 < 4503599627370496
    ·rw [if_pos c1] at h7
     simp only [Ieee.Datum.number.injEq] at h7
     omega
    ·rw [if_neg c1, if_pos hfin] at h7
     simp only [Ieee.Datum.number.injEq] at h7
     omega
   have h5 : 2 ^ (eU + 1 + 100) ≤ szR w := by
    rw [g4]
    refine Nat.le_trans (Nat.pow_le_pow_right (by decide) (show eU + 1 + 100 ≤ (i + 1074).toNat by omega)) (Nat.le_mul_of_pos_left _ (by omega))
   have h6 : 2 ^ 100 ≤ szR w / (2 * hU) := by
    rw [Nat.le_div_iff_mul_le (by omega), hU2, ← Nat.pow_add, Nat.add_comm 100]
    exact h5
   have h7 : (2 : Nat) ^ 100 = 1267650600228229401496703205376 := by decide
   omega
  ·exact h3
 have hq0 : (0 : Int) ≤ ((szR w / (2 * hU) : Nat) : Int) := Int.natCast_nonneg _
 have hsmall : szR w % (2 * hU) ≠ 0 → szR w / (2 * hU) < 9007199254740992 := by
  intro hne
  have hi0 : i < 0 := by
   rcases Int.lt_or_le i 0 with h3 | h3
   ·exact h3
   ·exfalso
    apply hne
    rw [g4, hU2, show (i + 1074).toNat = i.toNat + (eU + 1) by omega, Nat.pow_add, ← Nat.mul_assoc, Nat.mul_mod_left]
  refine Nat.lt_of_le_of_lt ?_ g3
  rw [g4, hU2, show eU + 1 = (-i).toNat + (i + 1074).toNat by omega, Nat.pow_add, Nat.mul_div_mul_right _ _ (Nat.pow_pos (by decide))]
  exact Nat.div_le_self _ _
 have hY : EndR (sg (sgR w) (szR w / (2 * hU))) (FloatKind.f64.nearest (sg (sgR w) (szR w / (2 * hU)))) ∧ FinR (FloatKind.f64.nearest (sg (sgR w) (szR w / (2 * hU)))) (decide (sg (sgR w) (szR w / (2 * hU)) < 0)) (szR w / (2 * hU) * (2 * hU)) := by
  have hab : (sg (sgR w) (szR w / (2 * hU))).natAbs = szR w / (2 * hU) := by unfold sg; split <;> omega
  obtain ⟨a, j, h3, h4, h5⟩ : ∃ a j, szR w / (2 * hU) = a * 2 ^ j ∧ a < 9007199254740992 ∧ j ≤ 900 := by
   rcases Int.lt_or_le i 0 with h3 | h3
   ·refine ⟨M / 2 ^ (-i).toNat, 0, ?_, Nat.lt_of_le_of_lt (Nat.div_le_self _ _) g3, by omega⟩
    rw [g4, hU2, show eU + 1 = (-i).toNat + (i + 1074).toNat by omega, Nat.pow_add, Nat.mul_div_mul_right _ _ (Nat.pow_pos (by decide)), Nat.pow_zero, Nat.mul_one]
   ·refine ⟨M, i.toNat, ?_, g3, by omega⟩
    rw [g4, hU2, show (i + 1074).toNat = i.toNat + (eU + 1) by omega, Nat.pow_add, ← Nat.mul_assoc, Nat.mul_div_cancel _ (Nat.pow_pos (by decide))]
  have h6 := fin_write (decide (sg (sgR w) (szR w / (2 * hU)) < 0)) a j 0 h4 (by decide) (by omega)
  rw [← h3, show ((0 : Int) + 1074).toNat = eU + 1 by omega, ← hU2] at h6
  have h7 : FloatKind.f64.nearest (sg (sgR w) (szR w / (2 * hU))) = FloatKind.f64.format.nearest (decide (sg (sgR w) (szR w / (2 * hU)) < 0)) (szR w / (2 * hU)) 0 := by
   show FloatKind.f64.format.nearest (decide (sg (sgR w) (szR w / (2 * hU)) < 0)) (sg (sgR w) (szR w / (2 * hU))).natAbs 0 = _
   rw [hab]
  rw [h7]
  refine ⟨⟨_, _, h6, ?_, ?_⟩, h6⟩
  ·rw [sg_mul]
   rw [sg_dec]
  ·have h8 : szR w / (2 * hU) * (2 * hU) ≤ 9223372036854775808 * (2 * hU) := Nat.mul_le_mul_right _ (by omega)
   refine Nat.lt_of_le_of_lt h8 ?_
   rw [hU2]
   unfold iU
   rw [show (9223372036854775808 : Nat) = 2 ^ 63 by decide, ← Nat.pow_add]
   exact Nat.pow_lt_pow_right (by decide) (by omega)
 obtain ⟨r, u, k1, k2, k3⟩ := sub_fin g1 g2 g3 hi9 g4 hY.2 (by
  unfold sg
  cases sgR w with
  | false => left; apply decide_eq_false; simp only [Bool.false_eq_true, if_false]; omega
  | true =>
   by_cases h0 : szR w / (2 * hU) = 0
   ·right; exact h0
   ·left; apply decide_eq_true; simp only [if_true]; omega)
 obtain ⟨q1, q2⟩ := rnd_parts (szR w)
 have hV : valR w = sg (sgR w) (rndS (szR w)) := rfl
 refine ⟨_, r, u, _, fltInt_fin hF hn1.1 hn1.2, k1, k2, hn1.1, hn1.2, fun h3 => ?_, fun h3 => ?_, fun h3 h4 => ?_⟩
 ·have h5 : u = false ∧ hU ≤ szR w % (2 * hU) := by
   unfold sg at h3
   cases u <;> simp only [Bool.false_eq_true, if_false, if_true] at h3
   ·exact ⟨rfl, by omega⟩
   ·exfalso; omega
  have h6 : sgR w = false := by rw [← k3 (by omega)]; exact h5.1
  have h7 := hsmall (by omega)
  rw [hV, q1 h5.2, h6]
  unfold sg
  simp only [Bool.false_eq_true, if_false]
  omega
 ·have h5 : u = true ∧ hU ≤ szR w % (2 * hU) := by
   unfold sg at h3
   cases u <;> simp only [Bool.false_eq_true, if_false, if_true] at h3
   ·exfalso; omega
   ·exact ⟨rfl, by omega⟩
  have h6 : sgR w = true := by rw [← k3 (by omega)]; exact h5.1
  have h7 := hsmall (by omega)
  rw [hV, q1 h5.2, h6]
  unfold sg
  simp only [if_true]
  omega
 ·have h5 : szR w % (2 * hU) < hU := by
   unfold sg at h3 h4
   cases u <;> simp only [Bool.false_eq_true, if_false, if_true] at h3 h4 <;> omega
  rw [hV, q2 h5]
theorem endHi : EndR 9223372036854775808 4890909195324358656 := by
 have h := endR_int 9223372036854775808 1 63 (by decide) (by decide) (by decide)
 rw [show FloatKind.f64.nearest 9223372036854775808 = 4890909195324358656 by decide +kernel] at h
 exact h
theorem endLo : EndR (-9223372036854775808) 14114281232179134464 := by
 have h := endR_int (-9223372036854775808) 1 63 (by decide) (by decide) (by decide)
 rw [show FloatKind.f64.nearest (-9223372036854775808) = 14114281232179134464 by decide +kernel] at h
 exact h
theorem end64lo : EndR (-9223372036854775808) (FloatKind.f64.nearest (-9223372036854775808)) := endR_int _ 1 63 (by decide) (by decide) (by decide)
theorem end64hi : EndR 9223372036854775808 (FloatKind.f64.nearest 9223372036854775807) := by
 rw [show FloatKind.f64.nearest 9223372036854775807 = 4890909195324358656 by decide +kernel]
 exact endHi
theorem end32lo : EndR (-2147483648) (FloatKind.f64.nearest (-2147483648)) := endR_int _ 1 31 (by decide) (by decide) (by decide)
theorem end32hi : EndR 2147483647 (FloatKind.f64.nearest 2147483647) := endR_int _ 2147483647 0 (by decide) (by decide) (by decide)
theorem half_word : FinR 4602678819172646912 false hU ∧ FinR 13826050856027422720 true hU := by
 have he := eU_eq
 have h1 := fin_word false (eU - 52) 4503599627370496 (by omega) (by decide) (.inr (by decide))
 have h2 := fin_word true (eU - 52) 4503599627370496 (by omega) (by decide) (.inr (by decide))
 rw [show 4503599627370496 * 2 ^ (eU - 52) = hU by unfold hU; rw [show (4503599627370496 : Nat) = 2 ^ 52 by decide, ← Nat.pow_add]; congr 1] at h1 h2
 rw [he] at h1 h2
 exact ⟨h1, h2⟩
theorem geq_half {x R : Nat} {u : Bool} (hx : FinR x u R) : (FloatKind.f64.format.order x 4602678819172646912 == some .gt || FloatKind.f64.format.order x 4602678819172646912 == some .eq) = decide ((hU : Int) ≤ sg u R) := by
 rw [fin_order hx half_word.1, cmp_ge]
 rfl
theorem leq_half {x R : Nat} {u : Bool} (hx : FinR x u R) : (FloatKind.f64.format.order x 13826050856027422720 == some .lt || FloatKind.f64.format.order x 13826050856027422720 == some .eq) = decide (sg u R ≤ -(hU : Int)) := by
 rw [fin_order hx half_word.2, cmp_le]
 rfl
theorem rnd_ge (S : Nat) : S / (2 * hU) ≤ rndS S := by
 unfold rndS
 exact Nat.div_le_div_right (by omega)
theorem val_hi {w : Nat} (h : 9223372036854775808 * ((2 * hU : Nat) : Int) ≤ sg (sgR w) (szR w)) : 9223372036854775808 ≤ valR w := by
 have hp := hUi
 have hs : sgR w = false := by
  cases hs : sgR w with
  | false => rfl
  | true =>
   exfalso
   rw [hs] at h
   unfold sg at h
   simp only [if_true] at h
   omega
 rw [hs] at h
 have h1 : 9223372036854775808 * (2 * hU) ≤ szR w := by
  have h2 : ((9223372036854775808 * (2 * hU) : Nat) : Int) = 9223372036854775808 * ((2 * hU : Nat) : Int) := Int.natCast_mul ..
  unfold sg at h
  simp only [Bool.false_eq_true, if_false] at h
  omega
 have h3 := (Nat.le_div_iff_mul_le (by have := hU_pos; omega)).2 h1
 have h4 := rnd_ge (szR w)
 unfold valR sg
 rw [hs]
 simp only [Bool.false_eq_true, if_false]
 omega
theorem val_lo {w : Nat} (h : sg (sgR w) (szR w) ≤ -9223372036854775808 * ((2 * hU : Nat) : Int)) : valR w ≤ -9223372036854775808 := by
 have hp := hUi
 rw [Int.neg_mul] at h
 have hs : sgR w = true := by
  cases hs : sgR w with
  | true => rfl
  | false =>
   exfalso
   rw [hs] at h
   unfold sg at h
   simp only [Bool.false_eq_true, if_false] at h
   omega
 rw [hs] at h
 have h1 : 9223372036854775808 * (2 * hU) ≤ szR w := by
  have h2 : ((9223372036854775808 * (2 * hU) : Nat) : Int) = 9223372036854775808 * ((2 * hU : Nat) : Int) := Int.natCast_mul ..
  unfold sg at h
  simp only [if_true] at h
  omega
 have h3 := (Nat.le_div_iff_mul_le (by have := hU_pos; omega)).2 h1
 have h4 := rnd_ge (szR w)
 unfold valR sg
 rw [hs]
 simp only [if_true]
 omega
theorem clamp_min {lo hi v : Int} (h : lo ≤ hi) : (if lo < (if v < hi then v else hi) then (if v < hi then v else hi) else lo) = clampV lo hi v := by
 unfold clampV
 split <;> split <;> split <;> (try split) <;> omega
theorem clamp_fit {lo hi v : Int} (h : lo ≤ hi) : lo ≤ clampV lo hi v ∧ clampV lo hi v ≤ hi := by
 unfold clampV
 split
 ·omega
 ·split <;> omega
theorem conv_fit {lo hi : Int} {w : Nat} (h : lo ≤ 0) (h2 : 0 ≤ hi) : lo ≤ convR lo hi w ∧ convR lo hi w ≤ hi := by
 unfold convR
 split
 ·exact ⟨h, h2⟩
 ·exact clamp_fit (by omega)
theorem near_lt (n : Int) : FloatKind.f64.nearest n < 18446744073709551616 := by
 have h := FloatKind.f64.format.write_lt (.number (decide (n < 0)) n.natAbs 0)
 rw [show FloatKind.f64.format.width = 64 from rfl, show (2 : Nat) ^ 64 = 18446744073709551616 by decide] at h
 exact h
theorem convR_nan {lo hi : Int} {w : Nat} (h : nanB w = true) : convR lo hi w = 0 := by unfold convR; rw [if_pos h]
theorem convR_num {lo hi : Int} {w : Nat} (h : nanB w = false) : convR lo hi w = clampV lo hi (valR w) := by unfold convR; rw [h]; rfl

end Go.Proofs.YtmcjihhfgmfcpaaGreatDoor
