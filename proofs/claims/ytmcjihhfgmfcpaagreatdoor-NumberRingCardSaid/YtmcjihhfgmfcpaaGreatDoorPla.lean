/-
  Plain laws of numbers. Conditions: none.
-/
import Derived.Test.YtmcjihhfgmfcpaaGreatDoorEng5
namespace Go.Proofs.YtmcjihhfgmfcpaaGreatDoor
open Go Go.Ab

set_option linter.unusedSectionVars false
variable [Vals]
/-- A number of a kind. -/
def Fit (k : IntKind) (n : Int) : Prop := wr k n = n

theorem Fit.wr (k : IntKind) (n : Int) : Fit k (Ab.wr k n) := wr_in (wr_range k n).1 (wr_range k n).2
theorem Fit.range {k : IntKind} {n : Int} (h : Fit k n) : k.min ≤ n ∧ n ≤ k.max := by
  have := wr_range k n
  rw [h] at this
  exact this
theorem Fit.le {k k' : IntKind} {n : Int} (h : Fit k n) (h1 : k'.min ≤ k.min) (h2 : k.max ≤ k'.max) : Fit k' n := wr_in (Int.le_trans h1 h.range.1) (Int.le_trans h.range.2 h2)

theorem wr64 (k : IntKind) (n : Int) (h1 : IntKind.i64.min ≤ k.min) (h2 : k.max ≤ IntKind.i64.max) : wr .i64 (wr k n) = wr k n := (Fit.wr k n).le h1 h2

theorem fit_rem {k : IntKind} {a b : Int} (ha : Fit k a) (_ : Fit k b) (_ : b ≠ 0) : Fit k (a.tmod b) := by
  obtain ⟨h1, h2⟩ := ha.range
  have h3 : (a.tmod b).natAbs ≤ a.natAbs := by rw [Int.natAbs_tmod]; exact Nat.mod_le _ _
  have h4 : 0 ≤ a → 0 ≤ a.tmod b := Int.tmod_nonneg b
  have h5 : a ≤ 0 → a.tmod b ≤ 0 := fun h => by
    have := Int.tmod_nonneg (a := -a) b (by omega)
    rw [Int.neg_tmod] at this
    omega
  have hmin : k.min ≤ 0 := by cases k <;> decide
  have hmax : 0 ≤ k.max := by cases k <;> decide
  refine wr_in ?_ ?_
  · by_cases h : 0 ≤ a
    · have := h4 h; omega
    · have := h5 (by omega); omega
  · by_cases h : 0 ≤ a
    · have := h4 h; omega
    · have := h5 (by omega); omega

theorem fit_shr {k : IntKind} {a : Int} (ha : Fit k a) (j : Nat) : Fit k (a.fdiv (2 ^ j)) := by
  obtain ⟨h1, h2⟩ := ha.range
  have hp : (0 : Int) < 2 ^ j := Int.pow_pos (by decide)
  have hmin : k.min ≤ 0 := by cases k <;> decide
  have hmax : 0 ≤ k.max := by cases k <;> decide
  rw [Int.fdiv_eq_ediv_of_nonneg _ (by omega)]
  refine wr_in ?_ ?_
  · by_cases h : 0 ≤ a
    · have := Int.ediv_nonneg h (by omega : (0 : Int) ≤ 2 ^ j); omega
    · have h3 : a ≤ a / 2 ^ j := by
        rw [Int.le_ediv_iff_mul_le hp]
        have : (1 : Int) ≤ 2 ^ j := hp
        have := Int.mul_le_mul_of_nonpos_left (a := a) (by omega : a ≤ 0) this
        omega
      omega
  · by_cases h : 0 ≤ a
    · have := Int.ediv_le_self (2 ^ j : Int) h; omega
    · have : a / 2 ^ j < 0 := Int.ediv_neg_of_neg_of_pos (by omega) hp
      omega

theorem ringAdd (k : IntKind) (a b : Int) : wr k (a + b) = wr k (b + a) := by rw [Int.add_comm]
theorem ringMul (k : IntKind) (a b : Int) : wr k (a * b) = wr k (b * a) := by rw [Int.mul_comm]
theorem wr_wr_add (k : IntKind) (a b : Int) : wr k (wr k a + b) = wr k (a + b) := wr_of_mod (by rw [Int.add_emod, wr_mod, ← Int.add_emod])
theorem wr_wr_mul (k : IntKind) (a b : Int) : wr k (wr k a * b) = wr k (a * b) := wr_of_mod (by rw [Int.mul_emod, wr_mod, ← Int.mul_emod])
theorem ringBack {k : IntKind} {a : Int} (b : Int) (ha : Fit k a) : wr k (wr k (a - b) + b) = a := by
  rw [wr_wr_add, show a - b + b = a by omega]
  exact ha
theorem ringDiv {k : IntKind} {a : Int} (b : Int) (ha : Fit k a) : wr k (wr k (wr k (a.tdiv b) * b) + wr k (a.tmod b)) = a := by
  rw [wr_wr_mul, wr_wr_add, Int.add_comm, wr_wr_add, show a.tmod b + a.tdiv b * b = a from Int.tmod_add_tdiv_mul a b]
  exact ha

theorem wr_modle {k k' : IntKind} (h : k.bits ≤ k'.bits) (n : Int) : (wr k' n) % (2 : Int) ^ k.bits = n % (2 : Int) ^ k.bits := by
  have h1 : ((2 : Int) ^ k.bits) ∣ (2 : Int) ^ k'.bits := ⟨2 ^ (k'.bits - k.bits), by rw [← Int.pow_add]; congr 1; omega⟩
  rw [← Int.emod_emod_of_dvd (wr k' n) h1, wr_mod, Int.emod_emod_of_dvd n h1]
theorem wr_wr {k k' : IntKind} (h : k.bits ≤ k'.bits) (n : Int) : wr k (wr k' n) = wr k n := wr_of_mod (wr_modle h n)
theorem shlMul {k : IntKind} (h : k.bits ≤ 64) (A c : Int) : wr k (A * c) = wr k (A * wr k (wr .i64 (wr .u64 (1 * c)))) := by
  rw [wr_wr (k' := .i64) h, wr_wr (k' := .u64) h, Int.one_mul]
  exact (wr_of_mod (by rw [Int.mul_emod, wr_mod, ← Int.mul_emod])).symm
theorem shrTwice {k : IntKind} {a : Int} (ha : Fit k a) (n : Nat) : a.fdiv (2 ^ (n + 1)) = (wr k (a.fdiv (2 ^ n))).fdiv (2 ^ 1) := by
  rw [show wr k (a.fdiv (2 ^ n)) = a.fdiv (2 ^ n) from fit_shr ha n]
  have hp : ∀ j : Nat, (0 : Int) ≤ 2 ^ j := fun j => Int.le_of_lt (Int.pow_pos (by decide))
  rw [Int.fdiv_eq_ediv_of_nonneg _ (hp _), Int.fdiv_eq_ediv_of_nonneg _ (hp n), Int.fdiv_eq_ediv_of_nonneg _ (hp 1), Int.ediv_ediv_of_nonneg (hp n), ← Int.pow_add]
theorem shrAll {k : IntKind} {a : Int} {w : Nat} (ha : Fit k a) (hk : k.signed = true) (hw : k.bits = w + 1) : (if a < 0 then -1 else 0) = (wr k (a.fdiv (2 ^ w))).fdiv (2 ^ 1) := by
  rw [← shrTwice ha]
  obtain ⟨h1, h2⟩ := ha.range
  simp only [IntKind.min, IntKind.max, hk, if_true, hw, Nat.add_sub_cancel] at h1 h2
  have hp : (0 : Int) < 2 ^ (w + 1) := Int.pow_pos (by decide)
  have h3 : (2 : Int) ^ (w + 1) = 2 * 2 ^ w := by rw [Int.pow_succ, Int.mul_comm]
  rw [Int.fdiv_eq_ediv_of_nonneg _ (by omega)]
  split
  · symm
    refine (Int.ediv_eq_iff_of_pos hp).2 ⟨?_, ?_⟩ <;> omega
  · symm
    exact Int.ediv_eq_zero_of_lt (by omega) (by omega)
theorem shrAll' {k : IntKind} {a : Int} {w : Nat} (ha : Fit k a) (hk : k.signed = false) (hw : k.bits = w + 1) : 0 = (wr k (a.fdiv (2 ^ w))).fdiv (2 ^ 1) := by
  rw [← shrTwice ha]
  obtain ⟨h1, h2⟩ := ha.range
  simp only [IntKind.min, IntKind.max, hk, Bool.false_eq_true, if_false, hw] at h1 h2
  have hp : (0 : Int) < 2 ^ (w + 1) := Int.pow_pos (by decide)
  rw [Int.fdiv_eq_ediv_of_nonneg _ (by omega)]
  exact (Int.ediv_eq_zero_of_lt h1 (by omega)).symm
theorem modW (k w : Nat) (hw : w ≠ 0) : (wr .i64 (Int.ofNat k)) = Int.ofNat k → (wr .i64 (Int.ofNat k)).tmod (w : Int) = Int.ofNat (k % w) := fun h => by
  rw [h]
  rfl

theorem fit_wf {k : IntKind} {n : Int} (h : (Lit.int k n).wf = true) : Fit k n := by
  simp only [Lit.wf, Bool.and_eq_true, decide_eq_true_eq] at h
  exact wr_in h.1 h.2

end Go.Proofs.YtmcjihhfgmfcpaaGreatDoor
