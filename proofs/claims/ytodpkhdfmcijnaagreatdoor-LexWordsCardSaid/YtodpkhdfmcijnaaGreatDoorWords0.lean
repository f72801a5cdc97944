/-
  LexWords: the functions that it calls, followed. Conditions: none.
-/
import Derived.Test.YtodpkhdfmcijnaaGreatDoorAwk
import Derived.Test.YtodpkhdfmcijnaaGreatDoorPla
namespace Go.Proofs.YtodpkhdfmcijnaaGreatDoor
open Go Go.Ab
set_option linter.unusedVariables false
set_option linter.unusedSimpArgs false
set_option linter.unusedSectionVars false
variable [Mx]
theorem ag9 : aggT Tryz.prog 9 = some false := by kernel_rfl
theorem ln36 : ∀ a n c, lenA Tryz.prog 36 (.slice a n c) = some (.imm (.int .i64 (Int.ofNat n))) := fun _ _ _ => by kernel_rfl
theorem ln9 : ∀ s, lenA Tryz.prog 9 (.string s) = some (.imm (.int .i64 (Int.ofNat s.size))) := fun _ => by kernel_rfl
theorem sz9 : sizeT Tryz.prog 9 = some 1 := by kernel_rfl
theorem letter_ok {c : Nat} {m : AW} (hm : m.lo ≤ m.next) : Fc Tryz.prog 21 [.int .u8 (Int.ofNat c)] m fun v m' => v = .bool (letB c) ∧ Ext m m' := by
  refine Fc.body (c := _) Tryz.func21 rfl rfl rfl rfl hm ?_
  refine Ce.seq ?_
  refine Ce.region ?_
  refine Ie.p rfl rfl rfl rfl ?_
  refine Ie.nil ?_
  refine Ne.seq ?_
  refine Ce.seq ?_
  refine Ce.region ?_
  refine Ie.p rfl rfl rfl rfl ?_
  refine Ie.p rfl rfl rfl rfl ?_
  refine Ie.p rfl rfl rfl rfl ?_
  refine Ie.splitB 5 rfl (fun hs0 => ?_) (fun hs0 => ?_)
  · (try simp only [decide_eq_true_eq, decide_eq_false_iff_not, nrm_lt, nrm_nlt, nrm_eq, nrm_neq, nrm_seq, nrm_sneq, nrm_sempty, nrm_snempty, nrm_ofNat, Bool.not_eq_true', Bool.not_eq_false'] at hs0)
    refine Ie.p rfl rfl rfl rfl ?_
    refine Ie.p rfl rfl rfl rfl ?_
    refine Ie.p rfl rfl rfl rfl ?_
    refine Ie.p rfl rfl rfl rfl ?_
    refine Ie.splitB 9 rfl (fun hs1 => ?_) (fun hs1 => ?_)
    · (try simp only [decide_eq_true_eq, decide_eq_false_iff_not, nrm_lt, nrm_nlt, nrm_eq, nrm_neq, nrm_seq, nrm_sneq, nrm_sempty, nrm_snempty, nrm_ofNat, Bool.not_eq_true', Bool.not_eq_false'] at hs1)
      refine Ie.off rfl rfl rfl ?_
      refine Ie.off rfl rfl rfl ?_
      refine Ie.off rfl rfl rfl ?_
      refine Ie.off rfl rfl rfl ?_
      refine Ie.off rfl rfl rfl ?_
      refine Ie.off rfl rfl rfl ?_
      refine Ie.p rfl rfl rfl rfl ?_
      refine Ie.p rfl rfl rfl rfl ?_
      refine Ie.off rfl rfl rfl ?_
      refine Ie.off rfl rfl rfl ?_
      refine Ie.p rfl rfl rfl rfl ?_
      refine Ie.p rfl rfl rfl rfl ?_
      refine Ie.nil ?_
      refine Ne.seq ?_
      refine Ce.ret ?_
      exact Re.end_ rfl rfl (fun m hm => ⟨congrArg Value.bool ((by unfold letB; rw [Bool.eq_iff_iff]; simp only [nrm_lt, nrm_nlt, nrm_eq, nrm_neq, nrm_seq, nrm_sneq, nrm_sempty, nrm_snempty, nrm_ofNat, Bool.not_eq_true', Bool.not_eq_false', decide_eq_true_eq, Bool.false_eq_true, reduceCtorEq, Classical.not_not, true_iff, false_iff, iff_true, iff_false]; omega)), hm.ext⟩)
    · (try simp only [decide_eq_true_eq, decide_eq_false_iff_not, nrm_lt, nrm_nlt, nrm_eq, nrm_neq, nrm_seq, nrm_sneq, nrm_sempty, nrm_snempty, nrm_ofNat, Bool.not_eq_true', Bool.not_eq_false'] at hs1)
      refine Ie.p rfl rfl rfl rfl ?_
      refine Ie.p rfl rfl rfl rfl ?_
      refine Ie.p rfl rfl rfl rfl ?_
      refine Ie.splitB 12 rfl (fun hs2 => ?_) (fun hs2 => ?_)
      · (try simp only [decide_eq_true_eq, decide_eq_false_iff_not, nrm_lt, nrm_nlt, nrm_eq, nrm_neq, nrm_seq, nrm_sneq, nrm_sempty, nrm_snempty, nrm_ofNat, Bool.not_eq_true', Bool.not_eq_false'] at hs2)
        refine Ie.p rfl rfl rfl rfl ?_
        refine Ie.p rfl rfl rfl rfl ?_
        refine Ie.p rfl rfl rfl rfl ?_
        refine Ie.p rfl rfl rfl rfl ?_
        refine Ie.p rfl rfl rfl rfl ?_
        refine Ie.splitB 17 rfl (fun hs3 => ?_) (fun hs3 => ?_)
        · (try simp only [decide_eq_true_eq, decide_eq_false_iff_not, nrm_lt, nrm_nlt, nrm_eq, nrm_neq, nrm_seq, nrm_sneq, nrm_sempty, nrm_snempty, nrm_ofNat, Bool.not_eq_true', Bool.not_eq_false'] at hs3)
          refine Ie.off rfl rfl rfl ?_
          refine Ie.off rfl rfl rfl ?_
          refine Ie.p rfl rfl rfl rfl ?_
          refine Ie.p rfl rfl rfl rfl ?_
          refine Ie.nil ?_
          refine Ne.seq ?_
          refine Ce.ret ?_
          exact Re.end_ rfl rfl (fun m hm => ⟨congrArg Value.bool ((by unfold letB; rw [Bool.eq_iff_iff]; simp only [nrm_lt, nrm_nlt, nrm_eq, nrm_neq, nrm_seq, nrm_sneq, nrm_sempty, nrm_snempty, nrm_ofNat, Bool.not_eq_true', Bool.not_eq_false', decide_eq_true_eq, Bool.false_eq_true, reduceCtorEq, Classical.not_not, true_iff, false_iff, iff_true, iff_false]; omega)), hm.ext⟩)
        · (try simp only [decide_eq_true_eq, decide_eq_false_iff_not, nrm_lt, nrm_nlt, nrm_eq, nrm_neq, nrm_seq, nrm_sneq, nrm_sempty, nrm_snempty, nrm_ofNat, Bool.not_eq_true', Bool.not_eq_false'] at hs3)
          refine Ie.p rfl rfl rfl rfl ?_
          refine Ie.p rfl rfl rfl rfl ?_
          refine Ie.p rfl rfl rfl rfl ?_
          refine Ie.p rfl rfl rfl rfl ?_
          refine Ie.nil ?_
          refine Ne.seq ?_
          refine Ce.ret ?_
          exact Re.end_ rfl rfl (fun m hm => ⟨congrArg Value.bool ((by unfold letB; rw [Bool.eq_iff_iff]; simp only [nrm_lt, nrm_nlt, nrm_eq, nrm_neq, nrm_seq, nrm_sneq, nrm_sempty, nrm_snempty, nrm_ofNat, Bool.not_eq_true', Bool.not_eq_false', decide_eq_true_eq, Bool.false_eq_true, reduceCtorEq, Classical.not_not, true_iff, false_iff, iff_true, iff_false]; omega)), hm.ext⟩)
      · (try simp only [decide_eq_true_eq, decide_eq_false_iff_not, nrm_lt, nrm_nlt, nrm_eq, nrm_neq, nrm_seq, nrm_sneq, nrm_sempty, nrm_snempty, nrm_ofNat, Bool.not_eq_true', Bool.not_eq_false'] at hs2)
        refine Ie.off rfl rfl rfl ?_
        refine Ie.off rfl rfl rfl ?_
        refine Ie.p rfl rfl rfl rfl ?_
        refine Ie.p rfl rfl rfl rfl ?_
        refine Ie.p rfl rfl rfl rfl ?_
        refine Ie.p rfl rfl rfl rfl ?_
        refine Ie.p rfl rfl rfl rfl ?_
        refine Ie.p rfl rfl rfl rfl ?_
        refine Ie.p rfl rfl rfl rfl ?_
        refine Ie.nil ?_
        refine Ne.seq ?_
        refine Ce.ret ?_
        exact Re.end_ rfl rfl (fun m hm => ⟨congrArg Value.bool ((by unfold letB; rw [Bool.eq_iff_iff]; simp only [nrm_lt, nrm_nlt, nrm_eq, nrm_neq, nrm_seq, nrm_sneq, nrm_sempty, nrm_snempty, nrm_ofNat, Bool.not_eq_true', Bool.not_eq_false', decide_eq_true_eq, Bool.false_eq_true, reduceCtorEq, Classical.not_not, true_iff, false_iff, iff_true, iff_false]; omega)), hm.ext⟩)
  · (try simp only [decide_eq_true_eq, decide_eq_false_iff_not, nrm_lt, nrm_nlt, nrm_eq, nrm_neq, nrm_seq, nrm_sneq, nrm_sempty, nrm_snempty, nrm_ofNat, Bool.not_eq_true', Bool.not_eq_false'] at hs0)
    refine Ie.off rfl rfl rfl ?_
    refine Ie.off rfl rfl rfl ?_
    refine Ie.p rfl rfl rfl rfl ?_
    refine Ie.p rfl rfl rfl rfl ?_
    refine Ie.p rfl rfl rfl rfl ?_
    refine Ie.p rfl rfl rfl rfl ?_
    refine Ie.p rfl rfl rfl rfl ?_
    refine Ie.splitB 12 rfl (fun hs4 => ?_) (fun hs4 => ?_)
    · (try simp only [decide_eq_true_eq, decide_eq_false_iff_not, nrm_lt, nrm_nlt, nrm_eq, nrm_neq, nrm_seq, nrm_sneq, nrm_sempty, nrm_snempty, nrm_ofNat, Bool.not_eq_true', Bool.not_eq_false'] at hs4)
      refine Ie.p rfl rfl rfl rfl ?_
      refine Ie.p rfl rfl rfl rfl ?_
      refine Ie.p rfl rfl rfl rfl ?_
      refine Ie.p rfl rfl rfl rfl ?_
      refine Ie.p rfl rfl rfl rfl ?_
      refine Ie.splitB 17 rfl (fun hs5 => ?_) (fun hs5 => ?_)
      · (try simp only [decide_eq_true_eq, decide_eq_false_iff_not, nrm_lt, nrm_nlt, nrm_eq, nrm_neq, nrm_seq, nrm_sneq, nrm_sempty, nrm_snempty, nrm_ofNat, Bool.not_eq_true', Bool.not_eq_false'] at hs5)
        refine Ie.off rfl rfl rfl ?_
        refine Ie.off rfl rfl rfl ?_
        refine Ie.p rfl rfl rfl rfl ?_
        refine Ie.p rfl rfl rfl rfl ?_
        refine Ie.nil ?_
        refine Ne.seq ?_
        refine Ce.ret ?_
        exact Re.end_ rfl rfl (fun m hm => ⟨congrArg Value.bool ((by unfold letB; rw [Bool.eq_iff_iff]; simp only [nrm_lt, nrm_nlt, nrm_eq, nrm_neq, nrm_seq, nrm_sneq, nrm_sempty, nrm_snempty, nrm_ofNat, Bool.not_eq_true', Bool.not_eq_false', decide_eq_true_eq, Bool.false_eq_true, reduceCtorEq, Classical.not_not, true_iff, false_iff, iff_true, iff_false]; omega)), hm.ext⟩)
      · (try simp only [decide_eq_true_eq, decide_eq_false_iff_not, nrm_lt, nrm_nlt, nrm_eq, nrm_neq, nrm_seq, nrm_sneq, nrm_sempty, nrm_snempty, nrm_ofNat, Bool.not_eq_true', Bool.not_eq_false'] at hs5)
        refine Ie.p rfl rfl rfl rfl ?_
        refine Ie.p rfl rfl rfl rfl ?_
        refine Ie.p rfl rfl rfl rfl ?_
        refine Ie.p rfl rfl rfl rfl ?_
        refine Ie.nil ?_
        refine Ne.seq ?_
        refine Ce.ret ?_
        exact Re.end_ rfl rfl (fun m hm => ⟨congrArg Value.bool ((by unfold letB; rw [Bool.eq_iff_iff]; simp only [nrm_lt, nrm_nlt, nrm_eq, nrm_neq, nrm_seq, nrm_sneq, nrm_sempty, nrm_snempty, nrm_ofNat, Bool.not_eq_true', Bool.not_eq_false', decide_eq_true_eq, Bool.false_eq_true, reduceCtorEq, Classical.not_not, true_iff, false_iff, iff_true, iff_false]; omega)), hm.ext⟩)
    · (try simp only [decide_eq_true_eq, decide_eq_false_iff_not, nrm_lt, nrm_nlt, nrm_eq, nrm_neq, nrm_seq, nrm_sneq, nrm_sempty, nrm_snempty, nrm_ofNat, Bool.not_eq_true', Bool.not_eq_false'] at hs4)
      refine Ie.off rfl rfl rfl ?_
      refine Ie.off rfl rfl rfl ?_
      refine Ie.p rfl rfl rfl rfl ?_
      refine Ie.p rfl rfl rfl rfl ?_
      refine Ie.p rfl rfl rfl rfl ?_
      refine Ie.p rfl rfl rfl rfl ?_
      refine Ie.p rfl rfl rfl rfl ?_
      refine Ie.p rfl rfl rfl rfl ?_
      refine Ie.p rfl rfl rfl rfl ?_
      refine Ie.nil ?_
      refine Ne.seq ?_
      refine Ce.ret ?_
      exact Re.end_ rfl rfl (fun m hm => ⟨congrArg Value.bool ((by unfold letB; rw [Bool.eq_iff_iff]; simp only [nrm_lt, nrm_nlt, nrm_eq, nrm_neq, nrm_seq, nrm_sneq, nrm_sempty, nrm_snempty, nrm_ofNat, Bool.not_eq_true', Bool.not_eq_false', decide_eq_true_eq, Bool.false_eq_true, reduceCtorEq, Classical.not_not, true_iff, false_iff, iff_true, iff_false]; omega)), hm.ext⟩)

theorem digit_ok {c : Nat} {m : AW} (hm : m.lo ≤ m.next) : Fc Tryz.prog 12 [.int .u8 (Int.ofNat c)] m fun v m' => v = .bool (digB c) ∧ Ext m m' := by
  refine Fc.body (c := _) Tryz.func12 rfl rfl rfl rfl hm ?_
  refine Ce.seq ?_
  refine Ce.region ?_
  refine Ie.p rfl rfl rfl rfl ?_
  refine Ie.nil ?_
  refine Ne.seq ?_
  refine Ce.seq ?_
  refine Ce.region ?_
  refine Ie.p rfl rfl rfl rfl ?_
  refine Ie.p rfl rfl rfl rfl ?_
  refine Ie.p rfl rfl rfl rfl ?_
  refine Ie.splitB 5 rfl (fun hs0 => ?_) (fun hs0 => ?_)
  · (try simp only [decide_eq_true_eq, decide_eq_false_iff_not, nrm_lt, nrm_nlt, nrm_eq, nrm_neq, nrm_seq, nrm_sneq, nrm_sempty, nrm_snempty, nrm_ofNat, Bool.not_eq_true', Bool.not_eq_false'] at hs0)
    refine Ie.p rfl rfl rfl rfl ?_
    refine Ie.p rfl rfl rfl rfl ?_
    refine Ie.p rfl rfl rfl rfl ?_
    refine Ie.p rfl rfl rfl rfl ?_
    refine Ie.nil ?_
    refine Ne.seq ?_
    refine Ce.ret ?_
    exact Re.end_ rfl rfl (fun m hm => ⟨congrArg Value.bool ((by unfold digB; rw [Bool.eq_iff_iff]; simp only [nrm_lt, nrm_nlt, nrm_eq, nrm_neq, nrm_seq, nrm_sneq, nrm_sempty, nrm_snempty, nrm_ofNat, Bool.not_eq_true', Bool.not_eq_false', decide_eq_true_eq, Bool.false_eq_true, reduceCtorEq, Classical.not_not, true_iff, false_iff, iff_true, iff_false]; omega)), hm.ext⟩)
  · (try simp only [decide_eq_true_eq, decide_eq_false_iff_not, nrm_lt, nrm_nlt, nrm_eq, nrm_neq, nrm_seq, nrm_sneq, nrm_sempty, nrm_snempty, nrm_ofNat, Bool.not_eq_true', Bool.not_eq_false'] at hs0)
    refine Ie.off rfl rfl rfl ?_
    refine Ie.off rfl rfl rfl ?_
    refine Ie.p rfl rfl rfl rfl ?_
    refine Ie.p rfl rfl rfl rfl ?_
    refine Ie.nil ?_
    refine Ne.seq ?_
    refine Ce.ret ?_
    exact Re.end_ rfl rfl (fun m hm => ⟨congrArg Value.bool ((by unfold digB; rw [Bool.eq_iff_iff]; simp only [nrm_lt, nrm_nlt, nrm_eq, nrm_neq, nrm_seq, nrm_sneq, nrm_sempty, nrm_snempty, nrm_ofNat, Bool.not_eq_true', Bool.not_eq_false', decide_eq_true_eq, Bool.false_eq_true, reduceCtorEq, Classical.not_not, true_iff, false_iff, iff_true, iff_false]; omega)), hm.ext⟩)

theorem rLetter_ok {c : Nat} {m : AW} (hm : m.lo ≤ m.next) : Fc Tryz.prog 36 [.int .u8 (Int.ofNat c)] m fun v m' => v = .bool (ltrB c) ∧ Ext m m' := by
  refine Fc.body (c := _) Tryz.func36 rfl rfl rfl rfl hm ?_
  refine Ce.seq ?_
  refine Ce.region ?_
  refine Ie.p rfl rfl rfl rfl ?_
  refine Ie.nil ?_
  refine Ne.seq ?_
  refine Ce.seq ?_
  refine Ce.region ?_
  refine Ie.p rfl rfl rfl rfl ?_
  refine Ie.p rfl rfl rfl rfl ?_
  refine Ie.p rfl rfl rfl rfl ?_
  refine Ie.splitB 5 rfl (fun hs0 => ?_) (fun hs0 => ?_)
  · (try simp only [decide_eq_true_eq, decide_eq_false_iff_not, nrm_lt, nrm_nlt, nrm_eq, nrm_neq, nrm_seq, nrm_sneq, nrm_sempty, nrm_snempty, nrm_ofNat, Bool.not_eq_true', Bool.not_eq_false'] at hs0)
    refine Ie.p rfl rfl rfl rfl ?_
    refine Ie.p rfl rfl rfl rfl ?_
    refine Ie.p rfl rfl rfl rfl ?_
    refine Ie.p rfl rfl rfl rfl ?_
    refine Ie.splitB 9 rfl (fun hs1 => ?_) (fun hs1 => ?_)
    · (try simp only [decide_eq_true_eq, decide_eq_false_iff_not, nrm_lt, nrm_nlt, nrm_eq, nrm_neq, nrm_seq, nrm_sneq, nrm_sempty, nrm_snempty, nrm_ofNat, Bool.not_eq_true', Bool.not_eq_false'] at hs1)
      refine Ie.off rfl rfl rfl ?_
      refine Ie.off rfl rfl rfl ?_
      refine Ie.off rfl rfl rfl ?_
      refine Ie.off rfl rfl rfl ?_
      refine Ie.off rfl rfl rfl ?_
      refine Ie.off rfl rfl rfl ?_
      refine Ie.p rfl rfl rfl rfl ?_
      refine Ie.p rfl rfl rfl rfl ?_
      refine Ie.nil ?_
      refine Ne.seq ?_
      refine Ce.ret ?_
      exact Re.end_ rfl rfl (fun m hm => ⟨congrArg Value.bool ((by unfold ltrB; rw [Bool.eq_iff_iff]; simp only [nrm_lt, nrm_nlt, nrm_eq, nrm_neq, nrm_seq, nrm_sneq, nrm_sempty, nrm_snempty, nrm_ofNat, Bool.not_eq_true', Bool.not_eq_false', decide_eq_true_eq, Bool.false_eq_true, reduceCtorEq, Classical.not_not, true_iff, false_iff, iff_true, iff_false]; omega)), hm.ext⟩)
    · (try simp only [decide_eq_true_eq, decide_eq_false_iff_not, nrm_lt, nrm_nlt, nrm_eq, nrm_neq, nrm_seq, nrm_sneq, nrm_sempty, nrm_snempty, nrm_ofNat, Bool.not_eq_true', Bool.not_eq_false'] at hs1)
      refine Ie.p rfl rfl rfl rfl ?_
      refine Ie.p rfl rfl rfl rfl ?_
      refine Ie.p rfl rfl rfl rfl ?_
      refine Ie.splitB 12 rfl (fun hs2 => ?_) (fun hs2 => ?_)
      · (try simp only [decide_eq_true_eq, decide_eq_false_iff_not, nrm_lt, nrm_nlt, nrm_eq, nrm_neq, nrm_seq, nrm_sneq, nrm_sempty, nrm_snempty, nrm_ofNat, Bool.not_eq_true', Bool.not_eq_false'] at hs2)
        refine Ie.p rfl rfl rfl rfl ?_
        refine Ie.p rfl rfl rfl rfl ?_
        refine Ie.p rfl rfl rfl rfl ?_
        refine Ie.p rfl rfl rfl rfl ?_
        refine Ie.p rfl rfl rfl rfl ?_
        refine Ie.nil ?_
        refine Ne.seq ?_
        refine Ce.ret ?_
        exact Re.end_ rfl rfl (fun m hm => ⟨congrArg Value.bool ((by unfold ltrB; rw [Bool.eq_iff_iff]; simp only [nrm_lt, nrm_nlt, nrm_eq, nrm_neq, nrm_seq, nrm_sneq, nrm_sempty, nrm_snempty, nrm_ofNat, Bool.not_eq_true', Bool.not_eq_false', decide_eq_true_eq, Bool.false_eq_true, reduceCtorEq, Classical.not_not, true_iff, false_iff, iff_true, iff_false]; omega)), hm.ext⟩)
      · (try simp only [decide_eq_true_eq, decide_eq_false_iff_not, nrm_lt, nrm_nlt, nrm_eq, nrm_neq, nrm_seq, nrm_sneq, nrm_sempty, nrm_snempty, nrm_ofNat, Bool.not_eq_true', Bool.not_eq_false'] at hs2)
        refine Ie.off rfl rfl rfl ?_
        refine Ie.off rfl rfl rfl ?_
        refine Ie.p rfl rfl rfl rfl ?_
        refine Ie.p rfl rfl rfl rfl ?_
        refine Ie.p rfl rfl rfl rfl ?_
        refine Ie.nil ?_
        refine Ne.seq ?_
        refine Ce.ret ?_
        exact Re.end_ rfl rfl (fun m hm => ⟨congrArg Value.bool ((by unfold ltrB; rw [Bool.eq_iff_iff]; simp only [nrm_lt, nrm_nlt, nrm_eq, nrm_neq, nrm_seq, nrm_sneq, nrm_sempty, nrm_snempty, nrm_ofNat, Bool.not_eq_true', Bool.not_eq_false', decide_eq_true_eq, Bool.false_eq_true, reduceCtorEq, Classical.not_not, true_iff, false_iff, iff_true, iff_false]; omega)), hm.ext⟩)
  · (try simp only [decide_eq_true_eq, decide_eq_false_iff_not, nrm_lt, nrm_nlt, nrm_eq, nrm_neq, nrm_seq, nrm_sneq, nrm_sempty, nrm_snempty, nrm_ofNat, Bool.not_eq_true', Bool.not_eq_false'] at hs0)
    refine Ie.off rfl rfl rfl ?_
    refine Ie.off rfl rfl rfl ?_
    refine Ie.p rfl rfl rfl rfl ?_
    refine Ie.p rfl rfl rfl rfl ?_
    refine Ie.p rfl rfl rfl rfl ?_
    refine Ie.p rfl rfl rfl rfl ?_
    refine Ie.p rfl rfl rfl rfl ?_
    refine Ie.splitB 12 rfl (fun hs3 => ?_) (fun hs3 => ?_)
    · (try simp only [decide_eq_true_eq, decide_eq_false_iff_not, nrm_lt, nrm_nlt, nrm_eq, nrm_neq, nrm_seq, nrm_sneq, nrm_sempty, nrm_snempty, nrm_ofNat, Bool.not_eq_true', Bool.not_eq_false'] at hs3)
      refine Ie.p rfl rfl rfl rfl ?_
      refine Ie.p rfl rfl rfl rfl ?_
      refine Ie.p rfl rfl rfl rfl ?_
      refine Ie.p rfl rfl rfl rfl ?_
      refine Ie.p rfl rfl rfl rfl ?_
      refine Ie.nil ?_
      refine Ne.seq ?_
      refine Ce.ret ?_
      exact Re.end_ rfl rfl (fun m hm => ⟨congrArg Value.bool ((by unfold ltrB; rw [Bool.eq_iff_iff]; simp only [nrm_lt, nrm_nlt, nrm_eq, nrm_neq, nrm_seq, nrm_sneq, nrm_sempty, nrm_snempty, nrm_ofNat, Bool.not_eq_true', Bool.not_eq_false', decide_eq_true_eq, Bool.false_eq_true, reduceCtorEq, Classical.not_not, true_iff, false_iff, iff_true, iff_false]; omega)), hm.ext⟩)
    · (try simp only [decide_eq_true_eq, decide_eq_false_iff_not, nrm_lt, nrm_nlt, nrm_eq, nrm_neq, nrm_seq, nrm_sneq, nrm_sempty, nrm_snempty, nrm_ofNat, Bool.not_eq_true', Bool.not_eq_false'] at hs3)
      refine Ie.off rfl rfl rfl ?_
      refine Ie.off rfl rfl rfl ?_
      refine Ie.p rfl rfl rfl rfl ?_
      refine Ie.p rfl rfl rfl rfl ?_
      refine Ie.p rfl rfl rfl rfl ?_
      refine Ie.nil ?_
      refine Ne.seq ?_
      refine Ce.ret ?_
      exact Re.end_ rfl rfl (fun m hm => ⟨congrArg Value.bool ((by unfold ltrB; rw [Bool.eq_iff_iff]; simp only [nrm_lt, nrm_nlt, nrm_eq, nrm_neq, nrm_seq, nrm_sneq, nrm_sempty, nrm_snempty, nrm_ofNat, Bool.not_eq_true', Bool.not_eq_false', decide_eq_true_eq, Bool.false_eq_true, reduceCtorEq, Classical.not_not, true_iff, false_iff, iff_true, iff_false]; omega)), hm.ext⟩)

theorem rDigit_ok {c : Nat} {m : AW} (hm : m.lo ≤ m.next) : Fc Tryz.prog 22 [.int .u8 (Int.ofNat c)] m fun v m' => v = .bool (digB c) ∧ Ext m m' := by
  refine Fc.body (c := _) Tryz.func22 rfl rfl rfl rfl hm ?_
  refine Ce.seq ?_
  refine Ce.region ?_
  refine Ie.p rfl rfl rfl rfl ?_
  refine Ie.nil ?_
  refine Ne.seq ?_
  refine Ce.seq ?_
  refine Ce.region ?_
  refine Ie.p rfl rfl rfl rfl ?_
  refine Ie.p rfl rfl rfl rfl ?_
  refine Ie.p rfl rfl rfl rfl ?_
  refine Ie.splitB 5 rfl (fun hs0 => ?_) (fun hs0 => ?_)
  · (try simp only [decide_eq_true_eq, decide_eq_false_iff_not, nrm_lt, nrm_nlt, nrm_eq, nrm_neq, nrm_seq, nrm_sneq, nrm_sempty, nrm_snempty, nrm_ofNat, Bool.not_eq_true', Bool.not_eq_false'] at hs0)
    refine Ie.p rfl rfl rfl rfl ?_
    refine Ie.p rfl rfl rfl rfl ?_
    refine Ie.p rfl rfl rfl rfl ?_
    refine Ie.p rfl rfl rfl rfl ?_
    refine Ie.nil ?_
    refine Ne.seq ?_
    refine Ce.ret ?_
    exact Re.end_ rfl rfl (fun m hm => ⟨congrArg Value.bool ((by unfold digB; rw [Bool.eq_iff_iff]; simp only [nrm_lt, nrm_nlt, nrm_eq, nrm_neq, nrm_seq, nrm_sneq, nrm_sempty, nrm_snempty, nrm_ofNat, Bool.not_eq_true', Bool.not_eq_false', decide_eq_true_eq, Bool.false_eq_true, reduceCtorEq, Classical.not_not, true_iff, false_iff, iff_true, iff_false]; omega)), hm.ext⟩)
  · (try simp only [decide_eq_true_eq, decide_eq_false_iff_not, nrm_lt, nrm_nlt, nrm_eq, nrm_neq, nrm_seq, nrm_sneq, nrm_sempty, nrm_snempty, nrm_ofNat, Bool.not_eq_true', Bool.not_eq_false'] at hs0)
    refine Ie.off rfl rfl rfl ?_
    refine Ie.off rfl rfl rfl ?_
    refine Ie.p rfl rfl rfl rfl ?_
    refine Ie.p rfl rfl rfl rfl ?_
    refine Ie.nil ?_
    refine Ne.seq ?_
    refine Ce.ret ?_
    exact Re.end_ rfl rfl (fun m hm => ⟨congrArg Value.bool ((by unfold digB; rw [Bool.eq_iff_iff]; simp only [nrm_lt, nrm_nlt, nrm_eq, nrm_neq, nrm_seq, nrm_sneq, nrm_sempty, nrm_snempty, nrm_ofNat, Bool.not_eq_true', Bool.not_eq_false', decide_eq_true_eq, Bool.false_eq_true, reduceCtorEq, Classical.not_not, true_iff, false_iff, iff_true, iff_false]; omega)), hm.ext⟩)

theorem rWord_ok {c : Nat} {m : AW} (hm : m.lo ≤ m.next) : Fc Tryz.prog 23 [.int .u8 (Int.ofNat c)] m fun v m' => v = .bool (wrdB c) ∧ Ext m m' := by
  refine Fc.body (c := _) Tryz.func23 rfl rfl rfl rfl hm ?_
  refine Ce.seq ?_
  refine Ce.region ?_
  refine Ie.p rfl rfl rfl rfl ?_
  refine Ie.nil ?_
  refine Ne.seq ?_
  refine Ce.seq ?_
  refine Ce.region ?_
  refine Ie.p rfl rfl rfl rfl ?_
  refine Ie.call _ rfl rfl rfl rfl rfl rfl (fun m hm => rLetter_ok hm.lole) ?_
  refine Ie.p rfl rfl rfl rfl ?_
  refine Ie.splitB 5 rfl (fun hs_5 => ?_) (fun hs_5 => ?_)
  · (try simp only [decide_eq_true_eq, decide_eq_false_iff_not, nrm_lt, nrm_nlt, nrm_eq, nrm_neq, nrm_seq, nrm_sneq, nrm_sempty, nrm_snempty, nrm_ofNat, Bool.not_eq_true', Bool.not_eq_false'] at hs_5)
    refine Ie.off rfl rfl rfl ?_
    refine Ie.off rfl rfl rfl ?_
    refine Ie.p rfl rfl rfl rfl ?_
    refine Ie.p rfl rfl rfl rfl ?_
    refine Ie.off rfl rfl rfl ?_
    refine Ie.off rfl rfl rfl ?_
    refine Ie.p rfl rfl rfl rfl ?_
    refine Ie.p rfl rfl rfl rfl ?_
    refine Ie.nil ?_
    refine Ne.seq ?_
    refine Ce.ret ?_
    exact Re.end_ rfl rfl (fun m hm => ⟨congrArg Value.bool (by rw [wrd_alt, Bool.eq_iff_iff]; simp only [*, Bool.or_eq_true, Bool.true_or, Bool.false_or, decide_eq_true_eq, nrm_lt, nrm_nlt, nrm_eq, nrm_neq, nrm_seq, nrm_sneq, nrm_sempty, nrm_snempty, nrm_ofNat, Bool.not_eq_true', Bool.not_eq_false']; first | done | omega), hm.ext⟩)
  · (try simp only [decide_eq_true_eq, decide_eq_false_iff_not, nrm_lt, nrm_nlt, nrm_eq, nrm_neq, nrm_seq, nrm_sneq, nrm_sempty, nrm_snempty, nrm_ofNat, Bool.not_eq_true', Bool.not_eq_false'] at hs_5)
    refine Ie.p rfl rfl rfl rfl ?_
    refine Ie.call _ rfl rfl rfl rfl rfl rfl (fun m hm => rDigit_ok hm.lole) ?_
    refine Ie.p rfl rfl rfl rfl ?_
    refine Ie.p rfl rfl rfl rfl ?_
    refine Ie.splitB 9 rfl (fun hs_9 => ?_) (fun hs_9 => ?_)
    · (try simp only [decide_eq_true_eq, decide_eq_false_iff_not, nrm_lt, nrm_nlt, nrm_eq, nrm_neq, nrm_seq, nrm_sneq, nrm_sempty, nrm_snempty, nrm_ofNat, Bool.not_eq_true', Bool.not_eq_false'] at hs_9)
      refine Ie.off rfl rfl rfl ?_
      refine Ie.off rfl rfl rfl ?_
      refine Ie.p rfl rfl rfl rfl ?_
      refine Ie.p rfl rfl rfl rfl ?_
      refine Ie.nil ?_
      refine Ne.seq ?_
      refine Ce.ret ?_
      exact Re.end_ rfl rfl (fun m hm => ⟨congrArg Value.bool (by rw [wrd_alt, Bool.eq_iff_iff]; simp only [*, Bool.or_eq_true, Bool.true_or, Bool.false_or, decide_eq_true_eq, nrm_lt, nrm_nlt, nrm_eq, nrm_neq, nrm_seq, nrm_sneq, nrm_sempty, nrm_snempty, nrm_ofNat, Bool.not_eq_true', Bool.not_eq_false']; first | done | omega), hm.ext⟩)
    · (try simp only [decide_eq_true_eq, decide_eq_false_iff_not, nrm_lt, nrm_nlt, nrm_eq, nrm_neq, nrm_seq, nrm_sneq, nrm_sempty, nrm_snempty, nrm_ofNat, Bool.not_eq_true', Bool.not_eq_false'] at hs_9)
      refine Ie.p rfl rfl rfl rfl ?_
      refine Ie.p rfl rfl rfl rfl ?_
      refine Ie.p rfl rfl rfl rfl ?_
      refine Ie.p rfl rfl rfl rfl ?_
      refine Ie.nil ?_
      refine Ne.seq ?_
      refine Ce.ret ?_
      exact Re.end_ rfl rfl (fun m hm => ⟨congrArg Value.bool (by rw [wrd_alt, Bool.eq_iff_iff]; simp only [*, Bool.or_eq_true, Bool.true_or, Bool.false_or, decide_eq_true_eq, nrm_lt, nrm_nlt, nrm_eq, nrm_neq, nrm_seq, nrm_sneq, nrm_sempty, nrm_snempty, nrm_ofNat, Bool.not_eq_true', Bool.not_eq_false']; first | done | omega), hm.ext⟩)

theorem word_ok {s : ByteArray} {m : AW} (hm : m.lo ≤ m.next) (hs : s.size ≤ 300) : Fc Tryz.prog 13 [.string s] m fun v m' => v = .int .i64 (Int.ofNat (wordN s)) ∧ Ext m m' := by
  refine Fc.body (c := _) Tryz.func13 rfl rfl rfl rfl hm ?_
  refine Ce.seq ?_
  refine Ce.region ?_
  refine Ie.p rfl rfl rfl rfl ?_
  refine Ie.nil ?_
  refine Ne.seq ?_
  refine Ce.seq ?_
  refine Ce.region ?_
  refine Ie.p rfl rfl rfl rfl ?_
  refine Ie.nil ?_
  refine Ne.seq ?_
  refine Ce.seq ?_
  refine Ce.block ?_
 
  refine Ce.loop (α := Nat) (fun i => [(0, .string s), (3, .int .i64 (Int.ofNat (i)))]) (fun i => []) (fun i => i ≤ s.size ∧ ∀ (j : Nat) (x : UInt8), j < i → s.data.toList[j]? = some x → wordC x = true) (fun i => s.size - i) 0 ⟨Nat.zero_le _, fun _ _ h => (by cases h)⟩ ⟨rfl, rfl, trivial⟩ (List.nil_sublist _) (fun i hi => ?_)
  refine Ce.seq ?_
  refine Ce.seq ?_
  refine Ce.region ?_
  refine Ie.p rfl rfl rfl rfl ?_
  refine Ie.p rfl rfl rfl rfl ?_
  refine Ie.len rfl rfl rfl rfl rfl (ln9 ..) ?_
  refine Ie.p rfl rfl rfl rfl ?_
  refine Ie.p rfl rfl rfl rfl ?_
  refine Ie.splitB 8 rfl (fun hs_8 => ?_) (fun hs_8 => ?_)
  · (try simp only [decide_eq_true_eq, decide_eq_false_iff_not, nrm_lt, nrm_nlt, nrm_eq, nrm_neq, nrm_seq, nrm_sneq, nrm_sempty, nrm_snempty, nrm_ofNat, Bool.not_eq_true', Bool.not_eq_false'] at hs_8)
    obtain ⟨x, hx⟩ := byte_at (s := s) (i := i) (by omega)
    refine Ie.p rfl rfl rfl rfl ?_
    refine Ie.p rfl rfl rfl rfl ?_
    refine Ie.indexStr rfl rfl rfl rfl Tryz.underlying9 rfl rfl (hx) ?_
    refine Ie.call _ rfl rfl rfl rfl rfl rfl (fun m hm => letter_ok hm.lole) ?_
    refine Ie.p rfl rfl rfl rfl ?_
    refine Ie.splitB 13 rfl (fun hs_13 => ?_) (fun hs_13 => ?_)
    · (try simp only [decide_eq_true_eq, decide_eq_false_iff_not, nrm_lt, nrm_nlt, nrm_eq, nrm_neq, nrm_seq, nrm_sneq, nrm_sempty, nrm_snempty, nrm_ofNat, Bool.not_eq_true', Bool.not_eq_false'] at hs_13)
      have hw : wordC x = true := by unfold wordC wrdB; rw [hs_13]; rfl
      refine Ie.off rfl rfl rfl ?_
      refine Ie.off rfl rfl rfl ?_
      refine Ie.off rfl rfl rfl ?_
      refine Ie.off rfl rfl rfl ?_
      refine Ie.p rfl rfl rfl rfl ?_
      refine Ie.p rfl rfl rfl rfl ?_
      refine Ie.nil ?_
      refine Ne.seq ?_
      refine Ce.cond_true rfl ?_
      refine Ce.skip ?_
      refine Ne.seq ?_
      refine Ce.block ?_
      refine Ce.region ?_
      refine Ie.p rfl rfl rfl rfl ?_
      refine Ie.p rfl rfl rfl rfl ?_
      refine Ie.as 21 (.int .i64 (Int.ofNat (i + 1))) rfl (congrArg (Value.int .i64) (wr_succ (by omega))) ?_
      refine Ie.p rfl rfl rfl rfl ?_
      refine Ie.nil ?_
      refine Ne.blk ?_
      exact Ne.loop (i + 1) ⟨by omega, upto_succ hi.2 hx hw⟩ (by omega) ⟨rfl, rfl, trivial⟩ (List.nil_sublist _)
    · (try simp only [decide_eq_true_eq, decide_eq_false_iff_not, nrm_lt, nrm_nlt, nrm_eq, nrm_neq, nrm_seq, nrm_sneq, nrm_sempty, nrm_snempty, nrm_ofNat, Bool.not_eq_true', Bool.not_eq_false'] at hs_13)
      refine Ie.p rfl rfl rfl rfl ?_
      refine Ie.p rfl rfl rfl rfl ?_
      refine Ie.indexStr rfl rfl rfl rfl Tryz.underlying9 rfl rfl (hx) ?_
      refine Ie.call _ rfl rfl rfl rfl rfl rfl (fun m hm => digit_ok hm.lole) ?_
      refine Ie.p rfl rfl rfl rfl ?_
      refine Ie.p rfl rfl rfl rfl ?_
      refine Ie.nil ?_
      refine Ne.seq ?_
      refine Ce.cond rfl (fun ht19 => ?_) (fun ht19 => ?_)
      · have hw : wordC x = true := by unfold wordC wrdB; rw [ht19, Bool.or_true]
        refine Ce.skip ?_
        refine Ne.seq ?_
        refine Ce.block ?_
        refine Ce.region ?_
        refine Ie.p rfl rfl rfl rfl ?_
        refine Ie.p rfl rfl rfl rfl ?_
        refine Ie.as 21 (.int .i64 (Int.ofNat (i + 1))) rfl (congrArg (Value.int .i64) (wr_succ (by omega))) ?_
        refine Ie.p rfl rfl rfl rfl ?_
        refine Ie.nil ?_
        refine Ne.blk ?_
        exact Ne.loop (i + 1) ⟨by omega, upto_succ hi.2 hx hw⟩ (by omega) ⟨rfl, rfl, trivial⟩ (List.nil_sublist _)
      · refine Ce.exit ?_
        refine Xe.seq ?_
        refine Xe.loop ?_
        refine Xe.here ?_
        refine Ne.seq ?_
        refine Ce.seq ?_
        refine Ce.region ?_
        refine Ie.p rfl rfl rfl rfl ?_
        refine Ie.p rfl rfl rfl rfl ?_
        refine Ie.nil ?_
        refine Ne.seq ?_
        refine Ce.ret ?_
        exact Re.end_ rfl rfl (fun m hm => ⟨congrArg (Value.int .i64) (congrArg Int.ofNat (take_len (by rw [size_eq]; omega) hi.2 (by first | exact .inl (by rw [size_eq]; omega) | exact .inr ⟨x, hx, by unfold wordC wrdB; rw [hs_13, ht19]; rfl⟩)).symm), hm.ext⟩)
  · (try simp only [decide_eq_true_eq, decide_eq_false_iff_not, nrm_lt, nrm_nlt, nrm_eq, nrm_neq, nrm_seq, nrm_sneq, nrm_sempty, nrm_snempty, nrm_ofNat, Bool.not_eq_true', Bool.not_eq_false'] at hs_8)
    refine Ie.off rfl rfl rfl ?_
    refine Ie.off rfl rfl rfl ?_
    refine Ie.off rfl rfl rfl ?_
    refine Ie.off rfl rfl rfl ?_
    refine Ie.off rfl rfl rfl ?_
    refine Ie.off rfl rfl rfl ?_
    refine Ie.off rfl rfl rfl ?_
    refine Ie.off rfl rfl rfl ?_
    refine Ie.off rfl rfl rfl ?_
    refine Ie.off rfl rfl rfl ?_
    refine Ie.p rfl rfl rfl rfl ?_
    refine Ie.nil ?_
    refine Ne.seq ?_
    refine Ce.cond_false rfl ?_
    refine Ce.exit ?_
    refine Xe.seq ?_
    refine Xe.loop ?_
    refine Xe.here ?_
    refine Ne.seq ?_
    refine Ce.seq ?_
    refine Ce.region ?_
    refine Ie.p rfl rfl rfl rfl ?_
    refine Ie.p rfl rfl rfl rfl ?_
    refine Ie.nil ?_
    refine Ne.seq ?_
    refine Ce.ret ?_
    exact Re.end_ rfl rfl (fun m hm => ⟨congrArg (Value.int .i64) (congrArg Int.ofNat (take_len (by rw [size_eq]; omega) hi.2 (by first | exact .inl (by rw [size_eq]; omega) | exact .inr ⟨x, hx, by unfold wordC wrdB; rw [hs_13, ht19]; rfl⟩)).symm), hm.ext⟩)

theorem spelt_ok {s : ByteArray} {m : AW} (hm : m.lo ≤ m.next) (hs : s.size ≤ 300) : Fc Tryz.prog 14 [.string s] m fun v m' => v = .bool (spB s) ∧ Ext m m' := by
  refine Fc.body (c := _) Tryz.func14 rfl rfl rfl rfl hm ?_
  refine Ce.seq ?_
  refine Ce.region ?_
  refine Ie.p rfl rfl rfl rfl ?_
  refine Ie.nil ?_
  refine Ne.seq ?_
  refine Ce.seq ?_
  refine Ce.seq ?_
  refine Ce.region ?_
  refine Ie.p rfl rfl rfl rfl ?_
  refine Ie.p rfl rfl rfl rfl ?_
  refine Ie.p rfl rfl rfl rfl ?_
  refine Ie.splitB 6 rfl (fun hs_6 => ?_) (fun hs_6 => ?_)
  · (try simp only [decide_eq_true_eq, decide_eq_false_iff_not, nrm_lt, nrm_nlt, nrm_eq, nrm_neq, nrm_seq, nrm_sneq, nrm_sempty, nrm_snempty, nrm_ofNat, Bool.not_eq_true', Bool.not_eq_false'] at hs_6)
    refine Ie.off rfl rfl rfl ?_
    refine Ie.off rfl rfl rfl ?_
    refine Ie.off rfl rfl rfl ?_
    refine Ie.p rfl rfl rfl rfl ?_
    refine Ie.nil ?_
    refine Ne.seq ?_
    refine Ce.cond_true rfl ?_
    refine Ce.seq ?_
    refine Ce.region ?_
    refine Ie.p rfl rfl rfl rfl ?_
    refine Ie.nil ?_
    refine Ne.seq ?_
    refine Ce.ret ?_
    refine Re.seq ?_
    exact Re.end_ rfl rfl (fun m hm => ⟨congrArg Value.bool (by unfold spB; rw [size_zero (by omega)]), hm.ext⟩)
  · (try simp only [decide_eq_true_eq, decide_eq_false_iff_not, nrm_lt, nrm_nlt, nrm_eq, nrm_neq, nrm_seq, nrm_sneq, nrm_sempty, nrm_snempty, nrm_ofNat, Bool.not_eq_true', Bool.not_eq_false'] at hs_6)
    obtain ⟨x0, hx0⟩ := byte_at (s := s) (i := 0) (by omega)
    refine Ie.p rfl rfl rfl rfl ?_
    refine Ie.indexStr rfl rfl rfl rfl Tryz.underlying9 rfl rfl (hx0) ?_
    refine Ie.call _ rfl rfl rfl rfl rfl rfl (fun m hm => rDigit_ok hm.lole) ?_
    refine Ie.p rfl rfl rfl rfl ?_
    refine Ie.nil ?_
    refine Ne.seq ?_
    refine Ce.cond rfl (fun ht10 => ?_) (fun ht10 => ?_)
    · refine Ce.seq ?_
      refine Ce.region ?_
      refine Ie.p rfl rfl rfl rfl ?_
      refine Ie.nil ?_
      refine Ne.seq ?_
      refine Ce.ret ?_
      refine Re.seq ?_
      exact Re.end_ rfl rfl (fun m hm => ⟨congrArg Value.bool (by rw [spB_at hx0, ht10]; rfl), hm.ext⟩)
    · refine Ce.skip ?_
      refine Ne.seq ?_
      refine Ce.seq ?_
      refine Ce.seq ?_
      refine Ce.region ?_
      refine Ie.p rfl rfl rfl rfl ?_
      refine Ie.nil ?_
      refine Ne.seq ?_
      refine Ce.block ?_
     
      refine Ce.loop (α := Nat) (fun i => [(0, .string s), (3, .int .i64 (Int.ofNat (i)))]) (fun i => []) (fun i => i ≤ s.size ∧ ∀ (j : Nat) (x : UInt8), j < i → s.data.toList[j]? = some x → wordC x = true) (fun i => s.size - i) 0 ⟨Nat.zero_le _, fun _ _ h => (by cases h)⟩ ⟨rfl, rfl, trivial⟩ (List.nil_sublist _) (fun i hi => ?_)
      refine Ce.seq ?_
      refine Ce.seq ?_
      refine Ce.region ?_
      refine Ie.p rfl rfl rfl rfl ?_
      refine Ie.p rfl rfl rfl rfl ?_
      refine Ie.len rfl rfl rfl rfl rfl (ln9 ..) ?_
      refine Ie.p rfl rfl rfl rfl ?_
      refine Ie.nil ?_
      refine Ne.seq ?_
      refine Ce.cond rfl (fun ht14 => ?_) (fun ht14 => ?_)
      · (try simp only [decide_eq_true_eq, decide_eq_false_iff_not, nrm_lt, nrm_nlt, nrm_eq, nrm_neq, nrm_seq, nrm_sneq, nrm_sempty, nrm_snempty, nrm_ofNat, Bool.not_eq_true', Bool.not_eq_false'] at ht14)
        obtain ⟨x, hx⟩ := byte_at (s := s) (i := i) (by omega)
        refine Ce.skip ?_
        refine Ne.seq ?_
        refine Ce.seq ?_
        refine Ce.block ?_
        refine Ce.seq ?_
        refine Ce.region ?_
        refine Ie.p rfl rfl rfl rfl ?_
        refine Ie.p rfl rfl rfl rfl ?_
        refine Ie.indexStr rfl rfl rfl rfl Tryz.underlying9 rfl rfl (hx) ?_
        refine Ie.call _ rfl rfl rfl rfl rfl rfl (fun m hm => rWord_ok hm.lole) ?_
        refine Ie.p rfl rfl rfl rfl ?_
        refine Ie.nil ?_
        refine Ne.seq ?_
        refine Ce.cond rfl (fun ht21 => ?_) (fun ht21 => ?_)
        · have hw : wordC x = false := by unfold wordC; cases hb_ : wrdB x.toNat with | false => rfl | true => (rw [hb_] at ht21; cases ht21)
          refine Ce.seq ?_
          refine Ce.region ?_
          refine Ie.p rfl rfl rfl rfl ?_
          refine Ie.nil ?_
          refine Ne.seq ?_
          refine Ce.ret ?_
          refine Re.blk ?_
          refine Re.seq ?_
          refine Re.loop ?_
          refine Re.blk ?_
          refine Re.seq ?_
          exact Re.end_ rfl rfl (fun m hm => ⟨congrArg Value.bool (by rw [spB_at hx0, not_word hx hw, Bool.and_false]), hm.ext⟩)
        · have hw : wordC x = true := by unfold wordC; cases hb_ : wrdB x.toNat with | true => rfl | false => (rw [hb_] at ht21; cases ht21)
          refine Ce.skip ?_
          refine Ne.blk ?_
          refine Ne.seq ?_
          refine Ce.region ?_
          refine Ie.p rfl rfl rfl rfl ?_
          refine Ie.p rfl rfl rfl rfl ?_
          refine Ie.as 16 (.int .i64 (Int.ofNat (i + 1))) rfl (congrArg (Value.int .i64) (wr_succ (by omega))) ?_
          refine Ie.p rfl rfl rfl rfl ?_
          refine Ie.nil ?_
          exact Ne.loop (i + 1) ⟨by omega, upto_succ hi.2 hx hw⟩ (by omega) ⟨rfl, rfl, trivial⟩ (List.nil_sublist _)
      · (try simp only [decide_eq_true_eq, decide_eq_false_iff_not, nrm_lt, nrm_nlt, nrm_eq, nrm_neq, nrm_seq, nrm_sneq, nrm_sempty, nrm_snempty, nrm_ofNat, Bool.not_eq_true', Bool.not_eq_false'] at ht14)
        refine Ce.exit ?_
        refine Xe.seq ?_
        refine Xe.loop ?_
        refine Xe.here ?_
        refine Ne.seq ?_
        refine Ce.seq ?_
        refine Ce.region ?_
        refine Ie.p rfl rfl rfl rfl ?_
        refine Ie.nil ?_
        refine Ne.seq ?_
        refine Ce.ret ?_
        exact Re.end_ rfl rfl (fun m hm => ⟨congrArg Value.bool (by rw [spB_at hx0, ht10, all_word fun j x hj hx => hi.2 j x (by omega) hx]; rfl), hm.ext⟩)

theorem isKey_ok {s : ByteArray} {m : AW} (hm : m.lo ≤ m.next) (hs : s.size ≤ 300) (hlay : LaidAt lays m) : Fc Tryz.prog 7 [.string s] m fun v m' => v = .bool (kwB s) ∧ Ext m m' := by
  have hd1 : ((⟨⟨[32]⟩⟩ : ByteArray) ++ s).size ≤ 301 := by rw [ByteArray.size_append]; show 1 + s.size ≤ 301; omega
  have hd2 : ((⟨⟨[32]⟩⟩ : ByteArray) ++ s ++ ⟨⟨[32]⟩⟩).size ≤ 302 := by rw [ByteArray.size_append]; exact Nat.add_le_add hd1 (Nat.le_refl 1)
  refine Fc.body (c := _) Tryz.func7 rfl rfl rfl rfl hm ?_
  refine Ce.seq ?_
  refine Ce.region ?_
  refine Ie.p rfl rfl rfl rfl ?_
  refine Ie.nil ?_
  refine Ne.seq ?_
  refine Ce.seq ?_
  refine Ce.region ?_
  refine Ie.p rfl rfl rfl rfl ?_
  refine Ie.p rfl rfl rfl rfl ?_
  refine Ie.p rfl rfl rfl rfl ?_
  refine Ie.splitB 5 rfl (fun hs_5 => ?_) (fun hs_5 => ?_)
  · (try simp only [decide_eq_true_eq, decide_eq_false_iff_not, nrm_lt, nrm_nlt, nrm_eq, nrm_neq, nrm_seq, nrm_sneq, nrm_sempty, nrm_snempty, nrm_ofNat, Bool.not_eq_true', Bool.not_eq_false'] at hs_5)
    refine Ie.p rfl rfl rfl rfl ?_
    refine Ie.call _ rfl rfl rfl rfl rfl rfl (fun m hm => word_ok hm.lole hs) ?_
    refine Ie.p rfl rfl rfl rfl ?_
    refine Ie.len rfl rfl rfl rfl rfl (ln9 ..) ?_
    refine Ie.p rfl rfl rfl rfl ?_
    refine Ie.p rfl rfl rfl rfl ?_
    refine Ie.p rfl rfl rfl rfl ?_
    refine Ie.splitB 12 rfl (fun hs_12 => ?_) (fun hs_12 => ?_)
    · (try simp only [decide_eq_true_eq, decide_eq_false_iff_not, nrm_lt, nrm_nlt, nrm_eq, nrm_neq, nrm_seq, nrm_sneq, nrm_sempty, nrm_snempty, nrm_ofNat, Bool.not_eq_true', Bool.not_eq_false'] at hs_12)
      have hal := word_all.1 (show wordN s = s.size by omega)
      refine Ie.p rfl rfl rfl rfl ?_
      refine Ie.bin rfl rfl rfl rfl rfl rfl (binS_cat (a := ⟨⟨[32]⟩⟩) (Nat.le_trans hd1 (by decide))) ?_
      refine Ie.bin rfl rfl rfl rfl rfl rfl (binS_cat (b := ⟨⟨[32]⟩⟩) (Nat.le_trans hd2 (by decide))) ?_
      refine Ie.call _ rfl rfl rfl rfl rfl rfl (fun m hm => contains_ok (k := ⟨⟨keyS⟩⟩) key_small (hlay.kr hm)) ?_
      refine Ie.p rfl rfl rfl rfl ?_
      refine Ie.p rfl rfl rfl rfl ?_
      refine Ie.nil ?_
      refine Ne.seq ?_
      refine Ce.ret ?_
      exact Re.end_ rfl rfl (fun m hm => ⟨congrArg Value.bool (by unfold kwB; rw [hal, decide_eq_true (by omega), ba_app, ba_app]; rfl), hm.ext⟩)
    · (try simp only [decide_eq_true_eq, decide_eq_false_iff_not, nrm_lt, nrm_nlt, nrm_eq, nrm_neq, nrm_seq, nrm_sneq, nrm_sempty, nrm_snempty, nrm_ofNat, Bool.not_eq_true', Bool.not_eq_false'] at hs_12)
      have hal : allW s = false := by cases hb_ : allW s with | false => rfl | true => exact absurd (word_all.2 hb_) (by omega)
      refine Ie.off rfl rfl rfl ?_
      refine Ie.off rfl rfl rfl ?_
      refine Ie.off rfl rfl rfl ?_
      refine Ie.off rfl rfl rfl ?_
      refine Ie.p rfl rfl rfl rfl ?_
      refine Ie.p rfl rfl rfl rfl ?_
      refine Ie.nil ?_
      refine Ne.seq ?_
      refine Ce.ret ?_
      exact Re.end_ rfl rfl (fun m hm => ⟨congrArg Value.bool (by unfold kwB; rw [hal, Bool.false_and, Bool.and_false]), hm.ext⟩)
  · (try simp only [decide_eq_true_eq, decide_eq_false_iff_not, nrm_lt, nrm_nlt, nrm_eq, nrm_neq, nrm_seq, nrm_sneq, nrm_sempty, nrm_snempty, nrm_ofNat, Bool.not_eq_true', Bool.not_eq_false'] at hs_5)
    refine Ie.off rfl rfl rfl ?_
    refine Ie.off rfl rfl rfl ?_
    refine Ie.off rfl rfl rfl ?_
    refine Ie.off rfl rfl rfl ?_
    refine Ie.off rfl rfl rfl ?_
    refine Ie.p rfl rfl rfl rfl ?_
    refine Ie.p rfl rfl rfl rfl ?_
    refine Ie.off rfl rfl rfl ?_
    refine Ie.off rfl rfl rfl ?_
    refine Ie.off rfl rfl rfl ?_
    refine Ie.off rfl rfl rfl ?_
    refine Ie.p rfl rfl rfl rfl ?_
    refine Ie.p rfl rfl rfl rfl ?_
    refine Ie.nil ?_
    refine Ne.seq ?_
    refine Ce.ret ?_
    exact Re.end_ rfl rfl (fun m hm => ⟨congrArg Value.bool (by unfold kwB; rw [decide_eq_false (by omega), Bool.false_and]), hm.ext⟩)

theorem sindex_ok {l : List (List UInt8)} {v : Value} {s : ByteArray} {m : AW} (hm : m.lo ≤ m.next) (hl : Sl (Mem m) 1 RStr l v) (hn : l.length ≤ 1000) : Fc Tryz.prog 25 [v, .string s] m fun v m' => ∃ z : Int, (0 ≤ z ↔ s.data.toList ∈ l) ∧ v = .int .i64 z ∧ Ext m m' ∧ News m m' [] := by
  obtain ⟨a, cap, rfl, hc0, hl⟩ := hl
  refine Fc.body (c := _) Tryz.func25 rfl rfl rfl rfl hm ?_
  refine Ce.seq ?_
  refine Ce.region ?_
  refine Ie.p rfl rfl rfl rfl ?_
  refine Ie.nil ?_
  refine Ne.seq ?_
  refine Ce.seq ?_
  refine Ce.seq ?_
  refine Ce.region ?_
  refine Ie.p rfl rfl rfl rfl ?_
  refine Ie.len rfl rfl rfl rfl rfl (ln36 ..) ?_
  refine Ie.p rfl rfl rfl rfl ?_
  refine Ie.nil ?_
  refine Ne.seq ?_
  refine Ce.block ?_
 
  refine Ce.loop (α := Nat) (fun i => [(0, .slice a l.length cap), (1, .string s), (7, .int .i64 (Int.ofNat (l.length))), (8, .int .i64 (Int.ofNat (i)))]) (fun i => []) (fun i => i ≤ l.length ∧ ∀ (j : Nat) (x : List UInt8), j < i → l[j]? = some x → s.data.toList ≠ x) (fun i => l.length - i) 0 ⟨Nat.zero_le _, fun _ _ h => (by cases h)⟩ ⟨rfl, rfl, rfl, rfl, trivial⟩ (List.nil_sublist _) (fun i hi => ?_)
  refine Ce.seq ?_
  refine Ce.region ?_
  refine Ie.p rfl rfl rfl rfl ?_
  refine Ie.nil ?_
  refine Ne.seq ?_
  refine Ce.seq ?_
  refine Ce.cond rfl (fun ht9 => ?_) (fun ht9 => ?_)
  · (try simp only [decide_eq_true_eq, decide_eq_false_iff_not, nrm_lt, nrm_nlt, nrm_eq, nrm_neq, nrm_seq, nrm_sneq, nrm_sempty, nrm_snempty, nrm_ofNat, Bool.not_eq_true', Bool.not_eq_false'] at ht9)
    have hlt : i < l.length := by omega
    obtain ⟨x, hx⟩ : ∃ w_, l[i]? = some w_ := ⟨_, List.getElem?_eq_getElem hlt⟩
    rcases hl with ⟨e0, -⟩ | ⟨b, off, cs, el, g, md, mate, rfl, ⟨hb, hh⟩, hle, hc⟩
    · rw [e0] at hlt; simp at hlt
    have hr := hc i x hx
    refine Ce.skip ?_
    refine Ne.seq ?_
    refine Ce.seq ?_
    refine Ce.block ?_
    refine Ce.seq ?_
    refine Ce.region ?_
    refine Ie.p rfl rfl rfl rfl ?_
    refine Ie.p rfl rfl rfl rfl ?_
    refine Ie.nil ?_
    refine Ne.seq ?_
    refine Ce.seq ?_
    refine Ce.region ?_
    refine Ie.p rfl rfl rfl rfl ?_
    refine Ie.p rfl rfl rfl rfl ?_
    refine Ie.p rfl rfl rfl rfl ?_
    refine Ie.indexAddr rfl rfl rfl rfl Tryz.underlying36 sz9 rfl rfl (by omega) ?_
    refine Ie.load rfl rfl rfl rfl rfl ag9 (.base hh hb (by simp)) (cell_of_take hr (k := 0) rfl) ?_
    refine Ie.p rfl rfl rfl rfl ?_
    refine Ie.nil ?_
    refine Ne.seq ?_
    refine Ce.cond rfl (fun ht16 => ?_) (fun ht16 => ?_)
    · have he := eqB_eq ht16
      refine Ce.seq ?_
      refine Ce.region ?_
      refine Ie.p rfl rfl rfl rfl ?_
      refine Ie.p rfl rfl rfl rfl ?_
      refine Ie.nil ?_
      refine Ne.seq ?_
      refine Ce.ret ?_
      refine Re.blk ?_
      refine Re.seq ?_
      refine Re.loop ?_
      refine Re.blk ?_
      refine Re.seq ?_
      exact Re.end_ rfl rfl (fun m hm => ⟨Int.ofNat i, ⟨fun _ => by rw [he]; exact List.mem_of_getElem? hx, fun _ => Int.natCast_nonneg _⟩, rfl, hm.ext, News.nil _ _⟩)
    · have he : s.data.toList ≠ x := fun e => by rw [e] at ht16; rw [eqBytes_eq] at ht16; exact absurd rfl (of_decide_eq_false ht16)
      refine Ce.skip ?_
      refine Ne.blk ?_
      refine Ne.seq ?_
      refine Ce.region ?_
      refine Ie.p rfl rfl rfl rfl ?_
      refine Ie.as 18 (.int .i64 (Int.ofNat (i + 1))) rfl (congrArg (Value.int .i64) (wr_succ (by omega))) ?_
      refine Ie.p rfl rfl rfl rfl ?_
      refine Ie.nil ?_
      exact Ne.loop (i + 1) ⟨hlt, upto_succ hi.2 hx he⟩ (by omega) ⟨rfl, rfl, rfl, rfl, trivial⟩ (List.nil_sublist _)
  · (try simp only [decide_eq_true_eq, decide_eq_false_iff_not, nrm_lt, nrm_nlt, nrm_eq, nrm_neq, nrm_seq, nrm_sneq, nrm_sempty, nrm_snempty, nrm_ofNat, Bool.not_eq_true', Bool.not_eq_false'] at ht9)
    refine Ce.exit ?_
    refine Xe.seq ?_
    refine Xe.loop ?_
    refine Xe.here ?_
    refine Ne.seq ?_
    refine Ce.seq ?_
    refine Ce.region ?_
    refine Ie.p rfl rfl rfl rfl ?_
    refine Ie.nil ?_
    refine Ne.seq ?_
    refine Ce.ret ?_
    exact Re.end_ rfl rfl (fun m hm => ⟨-1, ⟨fun h => absurd h (by decide), fun h => by obtain ⟨j, hj⟩ := List.getElem?_of_mem h; exact absurd rfl (hi.2 j _ (by have := (List.getElem?_eq_some_iff.1 hj).1; omega) hj)⟩, rfl, hm.ext, News.nil _ _⟩)

theorem scontains_ok {l : List (List UInt8)} {v : Value} {s : ByteArray} {m : AW} (hm : m.lo ≤ m.next) (hl : Sl (Mem m) 1 RStr l v) (hn : l.length ≤ 1000) : Fc Tryz.prog 16 [v, .string s] m fun v m' => v = .bool (decide (s.data.toList ∈ l)) ∧ Ext m m' := by
  have hl0 := hl
  obtain ⟨a, cap, rfl, -, -⟩ := hl0
  refine Fc.body (c := _) Tryz.func16 rfl rfl rfl rfl hm ?_
  refine Ce.seq ?_
  refine Ce.region ?_
  refine Ie.p rfl rfl rfl rfl ?_
  refine Ie.nil ?_
  refine Ne.seq ?_
  refine Ce.seq ?_
  refine Ce.region ?_
  refine Ie.p rfl rfl rfl rfl ?_
  refine Ie.p rfl rfl rfl rfl ?_
  refine Ie.calln _ _ _ rfl rfl rfl rfl rfl rfl (fun m hm => sindex_ok (s := s) hm.lole (hl.mono (Mem.kr hm) fun _ _ h => h) hn) (fun z hz => ?_)
  refine Ie.p rfl rfl rfl rfl ?_
  refine Ie.p rfl rfl rfl rfl ?_
  refine Ie.nil ?_
  refine Ne.seq ?_
  refine Ce.ret ?_
  exact Re.end_ rfl rfl (fun m hm => ⟨congrArg Value.bool (by rw [Bool.eq_iff_iff]; simp only [nrm_lt, nrm_nlt, nrm_eq, nrm_neq, nrm_seq, nrm_sneq, nrm_sempty, nrm_snempty, nrm_ofNat, Bool.not_eq_true', Bool.not_eq_false', decide_eq_true_eq]; exact hz), hm.ext⟩)

theorem isSign_ok {s : ByteArray} {m : AW} (hm : m.lo ≤ m.next) (hlay : LaidAt lays m) : Fc Tryz.prog 9 [.string s] m fun v m' => v = .bool (decide (s.data.toList ∈ signL)) ∧ Ext m m' := by
  obtain ⟨el, md, mate, hg0, hn0⟩ := signs_at hlay
  have hsl : Sl (Mem m) 1 RStr signL (.slice (some ⟨0, 0, none⟩) 49 49) := ⟨_, 49, rfl, ⟨by decide, by decide⟩, .inr ⟨0, 0, _, el, false, md, mate, rfl, ⟨hn0, hg0⟩, by decide, fun i x hx => by rw [Nat.zero_add, Nat.mul_one]; exact str_cells hx⟩⟩
  refine Fc.body (c := _) Tryz.func9 rfl rfl rfl rfl hm ?_
  refine Ce.seq ?_
  refine Ce.region ?_
  refine Ie.p rfl rfl rfl rfl ?_
  refine Ie.nil ?_
  refine Ne.seq ?_
  refine Ce.seq ?_
  refine Ce.region ?_
  refine Ie.p (v := .slice (some ⟨0, 0, none⟩) 49 49) rfl rfl rfl (by kernel_rfl) ?_
  refine Ie.p rfl rfl rfl rfl ?_
  refine Ie.call _ rfl rfl rfl rfl rfl rfl (fun m hm => scontains_ok (l := signL) hm.lole (hsl.mono (Mem.kr hm) fun _ _ h => h) (by decide)) ?_
  refine Ie.p rfl rfl rfl rfl ?_
  refine Ie.nil ?_
  refine Ne.seq ?_
  refine Ce.ret ?_
  exact Re.end_ rfl rfl (fun m hm => ⟨congrArg Value.bool (rfl), hm.ext⟩)

set_option maxRecDepth 100000 in
theorem rKey_ok {s : ByteArray} {m : AW} (hm : m.lo ≤ m.next) : Fc Tryz.prog 8 [.string s] m fun v m' => v = .bool (decide (s.data.toList ∈ keyL)) ∧ Ext m m' := by
  refine Fc.body (c := _) Tryz.func8 rfl rfl rfl rfl hm ?_
  refine Ce.seq ?_
  refine Ce.region ?_
  refine Ie.p rfl rfl rfl rfl ?_
  refine Ie.nil ?_
  refine Ne.seq ?_
  refine Ce.seq ?_
  refine Ce.seq ?_
  refine Ce.region ?_
  refine Ie.p rfl rfl rfl rfl ?_
  refine Ie.nil ?_
  refine Ne.seq ?_
  refine Ce.block ?_
  refine Ce.joinA (True) [(4, .bool (decide (s.data.toList ∈ keyL)))] ?_ (fun _ => ?_)
  · refine Ce.seq ?_
    refine Ce.region ?_
    refine Ie.p rfl rfl rfl rfl ?_
    refine Ie.p rfl rfl rfl rfl ?_
    refine Ie.nil ?_
    refine Ne.seq ?_
    refine Ce.cond rfl (fun hc0 => ?_) (fun hc0 => ?_)
    · refine Ce.as 4 (.bool true) rfl (congrArg Value.bool hc0) ?_
      (try simp only [decide_eq_true_eq, decide_eq_false_iff_not, nrm_lt, nrm_nlt, nrm_eq, nrm_neq, nrm_seq, nrm_sneq, nrm_sempty, nrm_snempty, nrm_ofNat, Bool.not_eq_true', Bool.not_eq_false'] at hc0)
      refine Ce.skip ?_
      refine Ne.as 4 (.bool (decide (s.data.toList ∈ keyL))) rfl (congrArg Value.bool (by first | exact (eqB_mem (by assumption) (by decide +kernel)).symm | exact last_mem (by intro w hw; unfold keyL at hw; simp only [List.mem_cons, List.not_mem_nil, or_false] at hw; rcases hw with rfl | rfl | rfl | rfl | rfl | rfl | rfl | rfl | rfl | rfl | rfl | rfl | rfl | rfl | rfl | rfl | rfl | rfl | rfl | rfl | rfl | rfl | rfl | rfl | rfl | rfl | rfl | rfl | rfl | rfl | rfl | rfl | rfl | rfl | rfl | rfl | rfl | rfl | rfl | rfl | rfl <;> first | exact .inl rfl | exact .inr (by assumption)) (by decide +kernel))) ?_
      exact Ne.jnx (trivial) (by repeat (first | exact trivial | refine ⟨rfl, ?_⟩)) (List.Sublist.refl _)
    · refine Ce.as 4 (.bool false) rfl (congrArg Value.bool hc0) ?_
      (try simp only [decide_eq_true_eq, decide_eq_false_iff_not, nrm_lt, nrm_nlt, nrm_eq, nrm_neq, nrm_seq, nrm_sneq, nrm_sempty, nrm_snempty, nrm_ofNat, Bool.not_eq_true', Bool.not_eq_false'] at hc0)
      refine Ce.seq ?_
      refine Ce.region ?_
      refine Ie.p rfl rfl rfl rfl ?_
      refine Ie.p rfl rfl rfl rfl ?_
      refine Ie.nil ?_
      refine Ne.seq ?_
      refine Ce.cond rfl (fun hc1 => ?_) (fun hc1 => ?_)
      · refine Ce.as 4 (.bool true) rfl (congrArg Value.bool hc1) ?_
        (try simp only [decide_eq_true_eq, decide_eq_false_iff_not, nrm_lt, nrm_nlt, nrm_eq, nrm_neq, nrm_seq, nrm_sneq, nrm_sempty, nrm_snempty, nrm_ofNat, Bool.not_eq_true', Bool.not_eq_false'] at hc1)
        refine Ce.skip ?_
        refine Ne.as 4 (.bool (decide (s.data.toList ∈ keyL))) rfl (congrArg Value.bool (by first | exact (eqB_mem (by assumption) (by decide +kernel)).symm | exact last_mem (by intro w hw; unfold keyL at hw; simp only [List.mem_cons, List.not_mem_nil, or_false] at hw; rcases hw with rfl | rfl | rfl | rfl | rfl | rfl | rfl | rfl | rfl | rfl | rfl | rfl | rfl | rfl | rfl | rfl | rfl | rfl | rfl | rfl | rfl | rfl | rfl | rfl | rfl | rfl | rfl | rfl | rfl | rfl | rfl | rfl | rfl | rfl | rfl | rfl | rfl | rfl | rfl | rfl | rfl <;> first | exact .inl rfl | exact .inr (by assumption)) (by decide +kernel))) ?_
        exact Ne.jnx (trivial) (by repeat (first | exact trivial | refine ⟨rfl, ?_⟩)) (List.Sublist.refl _)
      · refine Ce.as 4 (.bool false) rfl (congrArg Value.bool hc1) ?_
        (try simp only [decide_eq_true_eq, decide_eq_false_iff_not, nrm_lt, nrm_nlt, nrm_eq, nrm_neq, nrm_seq, nrm_sneq, nrm_sempty, nrm_snempty, nrm_ofNat, Bool.not_eq_true', Bool.not_eq_false'] at hc1)
        refine Ce.seq ?_
        refine Ce.region ?_
        refine Ie.p rfl rfl rfl rfl ?_
        refine Ie.p rfl rfl rfl rfl ?_
        refine Ie.nil ?_
        refine Ne.seq ?_
        refine Ce.cond rfl (fun hc2 => ?_) (fun hc2 => ?_)
        · refine Ce.as 4 (.bool true) rfl (congrArg Value.bool hc2) ?_
          (try simp only [decide_eq_true_eq, decide_eq_false_iff_not, nrm_lt, nrm_nlt, nrm_eq, nrm_neq, nrm_seq, nrm_sneq, nrm_sempty, nrm_snempty, nrm_ofNat, Bool.not_eq_true', Bool.not_eq_false'] at hc2)
          refine Ce.skip ?_
          refine Ne.as 4 (.bool (decide (s.data.toList ∈ keyL))) rfl (congrArg Value.bool (by first | exact (eqB_mem (by assumption) (by decide +kernel)).symm | exact last_mem (by intro w hw; unfold keyL at hw; simp only [List.mem_cons, List.not_mem_nil, or_false] at hw; rcases hw with rfl | rfl | rfl | rfl | rfl | rfl | rfl | rfl | rfl | rfl | rfl | rfl | rfl | rfl | rfl | rfl | rfl | rfl | rfl | rfl | rfl | rfl | rfl | rfl | rfl | rfl | rfl | rfl | rfl | rfl | rfl | rfl | rfl | rfl | rfl | rfl | rfl | rfl | rfl | rfl | rfl <;> first | exact .inl rfl | exact .inr (by assumption)) (by decide +kernel))) ?_
          exact Ne.jnx (trivial) (by repeat (first | exact trivial | refine ⟨rfl, ?_⟩)) (List.Sublist.refl _)
        · refine Ce.as 4 (.bool false) rfl (congrArg Value.bool hc2) ?_
          (try simp only [decide_eq_true_eq, decide_eq_false_iff_not, nrm_lt, nrm_nlt, nrm_eq, nrm_neq, nrm_seq, nrm_sneq, nrm_sempty, nrm_snempty, nrm_ofNat, Bool.not_eq_true', Bool.not_eq_false'] at hc2)
          refine Ce.seq ?_
          refine Ce.region ?_
          refine Ie.p rfl rfl rfl rfl ?_
          refine Ie.p rfl rfl rfl rfl ?_
          refine Ie.nil ?_
          refine Ne.seq ?_
          refine Ce.cond rfl (fun hc3 => ?_) (fun hc3 => ?_)
          · refine Ce.as 4 (.bool true) rfl (congrArg Value.bool hc3) ?_
            (try simp only [decide_eq_true_eq, decide_eq_false_iff_not, nrm_lt, nrm_nlt, nrm_eq, nrm_neq, nrm_seq, nrm_sneq, nrm_sempty, nrm_snempty, nrm_ofNat, Bool.not_eq_true', Bool.not_eq_false'] at hc3)
            refine Ce.skip ?_
            refine Ne.as 4 (.bool (decide (s.data.toList ∈ keyL))) rfl (congrArg Value.bool (by first | exact (eqB_mem (by assumption) (by decide +kernel)).symm | exact last_mem (by intro w hw; unfold keyL at hw; simp only [List.mem_cons, List.not_mem_nil, or_false] at hw; rcases hw with rfl | rfl | rfl | rfl | rfl | rfl | rfl | rfl | rfl | rfl | rfl | rfl | rfl | rfl | rfl | rfl | rfl | rfl | rfl | rfl | rfl | rfl | rfl | rfl | rfl | rfl | rfl | rfl | rfl | rfl | rfl | rfl | rfl | rfl | rfl | rfl | rfl | rfl | rfl | rfl | rfl <;> first | exact .inl rfl | exact .inr (by assumption)) (by decide +kernel))) ?_
            exact Ne.jnx (trivial) (by repeat (first | exact trivial | refine ⟨rfl, ?_⟩)) (List.Sublist.refl _)
          · refine Ce.as 4 (.bool false) rfl (congrArg Value.bool hc3) ?_
            (try simp only [decide_eq_true_eq, decide_eq_false_iff_not, nrm_lt, nrm_nlt, nrm_eq, nrm_neq, nrm_seq, nrm_sneq, nrm_sempty, nrm_snempty, nrm_ofNat, Bool.not_eq_true', Bool.not_eq_false'] at hc3)
            refine Ce.seq ?_
            refine Ce.region ?_
            refine Ie.p rfl rfl rfl rfl ?_
            refine Ie.p rfl rfl rfl rfl ?_
            refine Ie.nil ?_
            refine Ne.seq ?_
            refine Ce.cond rfl (fun hc4 => ?_) (fun hc4 => ?_)
            · refine Ce.as 4 (.bool true) rfl (congrArg Value.bool hc4) ?_
              (try simp only [decide_eq_true_eq, decide_eq_false_iff_not, nrm_lt, nrm_nlt, nrm_eq, nrm_neq, nrm_seq, nrm_sneq, nrm_sempty, nrm_snempty, nrm_ofNat, Bool.not_eq_true', Bool.not_eq_false'] at hc4)
              refine Ce.skip ?_
              refine Ne.as 4 (.bool (decide (s.data.toList ∈ keyL))) rfl (congrArg Value.bool (by first | exact (eqB_mem (by assumption) (by decide +kernel)).symm | exact last_mem (by intro w hw; unfold keyL at hw; simp only [List.mem_cons, List.not_mem_nil, or_false] at hw; rcases hw with rfl | rfl | rfl | rfl | rfl | rfl | rfl | rfl | rfl | rfl | rfl | rfl | rfl | rfl | rfl | rfl | rfl | rfl | rfl | rfl | rfl | rfl | rfl | rfl | rfl | rfl | rfl | rfl | rfl | rfl | rfl | rfl | rfl | rfl | rfl | rfl | rfl | rfl | rfl | rfl | rfl <;> first | exact .inl rfl | exact .inr (by assumption)) (by decide +kernel))) ?_
              exact Ne.jnx (trivial) (by repeat (first | exact trivial | refine ⟨rfl, ?_⟩)) (List.Sublist.refl _)
            · refine Ce.as 4 (.bool false) rfl (congrArg Value.bool hc4) ?_
              (try simp only [decide_eq_true_eq, decide_eq_false_iff_not, nrm_lt, nrm_nlt, nrm_eq, nrm_neq, nrm_seq, nrm_sneq, nrm_sempty, nrm_snempty, nrm_ofNat, Bool.not_eq_true', Bool.not_eq_false'] at hc4)
              refine Ce.seq ?_
              refine Ce.region ?_
              refine Ie.p rfl rfl rfl rfl ?_
              refine Ie.p rfl rfl rfl rfl ?_
              refine Ie.nil ?_
              refine Ne.seq ?_
              refine Ce.cond rfl (fun hc5 => ?_) (fun hc5 => ?_)
              · refine Ce.as 4 (.bool true) rfl (congrArg Value.bool hc5) ?_
                (try simp only [decide_eq_true_eq, decide_eq_false_iff_not, nrm_lt, nrm_nlt, nrm_eq, nrm_neq, nrm_seq, nrm_sneq, nrm_sempty, nrm_snempty, nrm_ofNat, Bool.not_eq_true', Bool.not_eq_false'] at hc5)
                refine Ce.skip ?_
                refine Ne.as 4 (.bool (decide (s.data.toList ∈ keyL))) rfl (congrArg Value.bool (by first | exact (eqB_mem (by assumption) (by decide +kernel)).symm | exact last_mem (by intro w hw; unfold keyL at hw; simp only [List.mem_cons, List.not_mem_nil, or_false] at hw; rcases hw with rfl | rfl | rfl | rfl | rfl | rfl | rfl | rfl | rfl | rfl | rfl | rfl | rfl | rfl | rfl | rfl | rfl | rfl | rfl | rfl | rfl | rfl | rfl | rfl | rfl | rfl | rfl | rfl | rfl | rfl | rfl | rfl | rfl | rfl | rfl | rfl | rfl | rfl | rfl | rfl | rfl <;> first | exact .inl rfl | exact .inr (by assumption)) (by decide +kernel))) ?_
                exact Ne.jnx (trivial) (by repeat (first | exact trivial | refine ⟨rfl, ?_⟩)) (List.Sublist.refl _)
              · refine Ce.as 4 (.bool false) rfl (congrArg Value.bool hc5) ?_
                (try simp only [decide_eq_true_eq, decide_eq_false_iff_not, nrm_lt, nrm_nlt, nrm_eq, nrm_neq, nrm_seq, nrm_sneq, nrm_sempty, nrm_snempty, nrm_ofNat, Bool.not_eq_true', Bool.not_eq_false'] at hc5)
                refine Ce.seq ?_
                refine Ce.region ?_
                refine Ie.p rfl rfl rfl rfl ?_
                refine Ie.p rfl rfl rfl rfl ?_
                refine Ie.nil ?_
                refine Ne.seq ?_
                refine Ce.cond rfl (fun hc6 => ?_) (fun hc6 => ?_)
                · refine Ce.as 4 (.bool true) rfl (congrArg Value.bool hc6) ?_
                  (try simp only [decide_eq_true_eq, decide_eq_false_iff_not, nrm_lt, nrm_nlt, nrm_eq, nrm_neq, nrm_seq, nrm_sneq, nrm_sempty, nrm_snempty, nrm_ofNat, Bool.not_eq_true', Bool.not_eq_false'] at hc6)
                  refine Ce.skip ?_
                  refine Ne.as 4 (.bool (decide (s.data.toList ∈ keyL))) rfl (congrArg Value.bool (by first | exact (eqB_mem (by assumption) (by decide +kernel)).symm | exact last_mem (by intro w hw; unfold keyL at hw; simp only [List.mem_cons, List.not_mem_nil, or_false] at hw; rcases hw with rfl | rfl | rfl | rfl | rfl | rfl | rfl | rfl | rfl | rfl | rfl | rfl | rfl | rfl | rfl | rfl | rfl | rfl | rfl | rfl | rfl | rfl | rfl | rfl | rfl | rfl | rfl | rfl | rfl | rfl | rfl | rfl | rfl | rfl | rfl | rfl | rfl | rfl | rfl | rfl | rfl <;> first | exact .inl rfl | exact .inr (by assumption)) (by decide +kernel))) ?_
                  exact Ne.jnx (trivial) (by repeat (first | exact trivial | refine ⟨rfl, ?_⟩)) (List.Sublist.refl _)
                · refine Ce.as 4 (.bool false) rfl (congrArg Value.bool hc6) ?_
                  (try simp only [decide_eq_true_eq, decide_eq_false_iff_not, nrm_lt, nrm_nlt, nrm_eq, nrm_neq, nrm_seq, nrm_sneq, nrm_sempty, nrm_snempty, nrm_ofNat, Bool.not_eq_true', Bool.not_eq_false'] at hc6)
                  refine Ce.seq ?_
                  refine Ce.region ?_
                  refine Ie.p rfl rfl rfl rfl ?_
                  refine Ie.p rfl rfl rfl rfl ?_
                  refine Ie.nil ?_
                  refine Ne.seq ?_
                  refine Ce.cond rfl (fun hc7 => ?_) (fun hc7 => ?_)
                  · refine Ce.as 4 (.bool true) rfl (congrArg Value.bool hc7) ?_
                    (try simp only [decide_eq_true_eq, decide_eq_false_iff_not, nrm_lt, nrm_nlt, nrm_eq, nrm_neq, nrm_seq, nrm_sneq, nrm_sempty, nrm_snempty, nrm_ofNat, Bool.not_eq_true', Bool.not_eq_false'] at hc7)
                    refine Ce.skip ?_
                    refine Ne.as 4 (.bool (decide (s.data.toList ∈ keyL))) rfl (congrArg Value.bool (by first | exact (eqB_mem (by assumption) (by decide +kernel)).symm | exact last_mem (by intro w hw; unfold keyL at hw; simp only [List.mem_cons, List.not_mem_nil, or_false] at hw; rcases hw with rfl | rfl | rfl | rfl | rfl | rfl | rfl | rfl | rfl | rfl | rfl | rfl | rfl | rfl | rfl | rfl | rfl | rfl | rfl | rfl | rfl | rfl | rfl | rfl | rfl | rfl | rfl | rfl | rfl | rfl | rfl | rfl | rfl | rfl | rfl | rfl | rfl | rfl | rfl | rfl | rfl <;> first | exact .inl rfl | exact .inr (by assumption)) (by decide +kernel))) ?_
                    exact Ne.jnx (trivial) (by repeat (first | exact trivial | refine ⟨rfl, ?_⟩)) (List.Sublist.refl _)
                  · refine Ce.as 4 (.bool false) rfl (congrArg Value.bool hc7) ?_
                    (try simp only [decide_eq_true_eq, decide_eq_false_iff_not, nrm_lt, nrm_nlt, nrm_eq, nrm_neq, nrm_seq, nrm_sneq, nrm_sempty, nrm_snempty, nrm_ofNat, Bool.not_eq_true', Bool.not_eq_false'] at hc7)
                    refine Ce.seq ?_
                    refine Ce.region ?_
                    refine Ie.p rfl rfl rfl rfl ?_
                    refine Ie.p rfl rfl rfl rfl ?_
                    refine Ie.nil ?_
                    refine Ne.seq ?_
                    refine Ce.cond rfl (fun hc8 => ?_) (fun hc8 => ?_)
                    · refine Ce.as 4 (.bool true) rfl (congrArg Value.bool hc8) ?_
                      (try simp only [decide_eq_true_eq, decide_eq_false_iff_not, nrm_lt, nrm_nlt, nrm_eq, nrm_neq, nrm_seq, nrm_sneq, nrm_sempty, nrm_snempty, nrm_ofNat, Bool.not_eq_true', Bool.not_eq_false'] at hc8)
                      refine Ce.skip ?_
                      refine Ne.as 4 (.bool (decide (s.data.toList ∈ keyL))) rfl (congrArg Value.bool (by first | exact (eqB_mem (by assumption) (by decide +kernel)).symm | exact last_mem (by intro w hw; unfold keyL at hw; simp only [List.mem_cons, List.not_mem_nil, or_false] at hw; rcases hw with rfl | rfl | rfl | rfl | rfl | rfl | rfl | rfl | rfl | rfl | rfl | rfl | rfl | rfl | rfl | rfl | rfl | rfl | rfl | rfl | rfl | rfl | rfl | rfl | rfl | rfl | rfl | rfl | rfl | rfl | rfl | rfl | rfl | rfl | rfl | rfl | rfl | rfl | rfl | rfl | rfl <;> first | exact .inl rfl | exact .inr (by assumption)) (by decide +kernel))) ?_
                      exact Ne.jnx (trivial) (by repeat (first | exact trivial | refine ⟨rfl, ?_⟩)) (List.Sublist.refl _)
                    · refine Ce.as 4 (.bool false) rfl (congrArg Value.bool hc8) ?_
                      (try simp only [decide_eq_true_eq, decide_eq_false_iff_not, nrm_lt, nrm_nlt, nrm_eq, nrm_neq, nrm_seq, nrm_sneq, nrm_sempty, nrm_snempty, nrm_ofNat, Bool.not_eq_true', Bool.not_eq_false'] at hc8)
                      refine Ce.seq ?_
                      refine Ce.region ?_
                      refine Ie.p rfl rfl rfl rfl ?_
                      refine Ie.p rfl rfl rfl rfl ?_
                      refine Ie.nil ?_
                      refine Ne.seq ?_
                      refine Ce.cond rfl (fun hc9 => ?_) (fun hc9 => ?_)
                      · refine Ce.as 4 (.bool true) rfl (congrArg Value.bool hc9) ?_
                        (try simp only [decide_eq_true_eq, decide_eq_false_iff_not, nrm_lt, nrm_nlt, nrm_eq, nrm_neq, nrm_seq, nrm_sneq, nrm_sempty, nrm_snempty, nrm_ofNat, Bool.not_eq_true', Bool.not_eq_false'] at hc9)
                        refine Ce.skip ?_
                        refine Ne.as 4 (.bool (decide (s.data.toList ∈ keyL))) rfl (congrArg Value.bool (by first | exact (eqB_mem (by assumption) (by decide +kernel)).symm | exact last_mem (by intro w hw; unfold keyL at hw; simp only [List.mem_cons, List.not_mem_nil, or_false] at hw; rcases hw with rfl | rfl | rfl | rfl | rfl | rfl | rfl | rfl | rfl | rfl | rfl | rfl | rfl | rfl | rfl | rfl | rfl | rfl | rfl | rfl | rfl | rfl | rfl | rfl | rfl | rfl | rfl | rfl | rfl | rfl | rfl | rfl | rfl | rfl | rfl | rfl | rfl | rfl | rfl | rfl | rfl <;> first | exact .inl rfl | exact .inr (by assumption)) (by decide +kernel))) ?_
                        exact Ne.jnx (trivial) (by repeat (first | exact trivial | refine ⟨rfl, ?_⟩)) (List.Sublist.refl _)
                      · refine Ce.as 4 (.bool false) rfl (congrArg Value.bool hc9) ?_
                        (try simp only [decide_eq_true_eq, decide_eq_false_iff_not, nrm_lt, nrm_nlt, nrm_eq, nrm_neq, nrm_seq, nrm_sneq, nrm_sempty, nrm_snempty, nrm_ofNat, Bool.not_eq_true', Bool.not_eq_false'] at hc9)
                        refine Ce.seq ?_
                        refine Ce.region ?_
                        refine Ie.p rfl rfl rfl rfl ?_
                        refine Ie.p rfl rfl rfl rfl ?_
                        refine Ie.nil ?_
                        refine Ne.seq ?_
                        refine Ce.cond rfl (fun hc10 => ?_) (fun hc10 => ?_)
                        · refine Ce.as 4 (.bool true) rfl (congrArg Value.bool hc10) ?_
                          (try simp only [decide_eq_true_eq, decide_eq_false_iff_not, nrm_lt, nrm_nlt, nrm_eq, nrm_neq, nrm_seq, nrm_sneq, nrm_sempty, nrm_snempty, nrm_ofNat, Bool.not_eq_true', Bool.not_eq_false'] at hc10)
                          refine Ce.skip ?_
                          refine Ne.as 4 (.bool (decide (s.data.toList ∈ keyL))) rfl (congrArg Value.bool (by first | exact (eqB_mem (by assumption) (by decide +kernel)).symm | exact last_mem (by intro w hw; unfold keyL at hw; simp only [List.mem_cons, List.not_mem_nil, or_false] at hw; rcases hw with rfl | rfl | rfl | rfl | rfl | rfl | rfl | rfl | rfl | rfl | rfl | rfl | rfl | rfl | rfl | rfl | rfl | rfl | rfl | rfl | rfl | rfl | rfl | rfl | rfl | rfl | rfl | rfl | rfl | rfl | rfl | rfl | rfl | rfl | rfl | rfl | rfl | rfl | rfl | rfl | rfl <;> first | exact .inl rfl | exact .inr (by assumption)) (by decide +kernel))) ?_
                          exact Ne.jnx (trivial) (by repeat (first | exact trivial | refine ⟨rfl, ?_⟩)) (List.Sublist.refl _)
                        · refine Ce.as 4 (.bool false) rfl (congrArg Value.bool hc10) ?_
                          (try simp only [decide_eq_true_eq, decide_eq_false_iff_not, nrm_lt, nrm_nlt, nrm_eq, nrm_neq, nrm_seq, nrm_sneq, nrm_sempty, nrm_snempty, nrm_ofNat, Bool.not_eq_true', Bool.not_eq_false'] at hc10)
                          refine Ce.seq ?_
                          refine Ce.region ?_
                          refine Ie.p rfl rfl rfl rfl ?_
                          refine Ie.p rfl rfl rfl rfl ?_
                          refine Ie.nil ?_
                          refine Ne.seq ?_
                          refine Ce.cond rfl (fun hc11 => ?_) (fun hc11 => ?_)
                          · refine Ce.as 4 (.bool true) rfl (congrArg Value.bool hc11) ?_
                            (try simp only [decide_eq_true_eq, decide_eq_false_iff_not, nrm_lt, nrm_nlt, nrm_eq, nrm_neq, nrm_seq, nrm_sneq, nrm_sempty, nrm_snempty, nrm_ofNat, Bool.not_eq_true', Bool.not_eq_false'] at hc11)
                            refine Ce.skip ?_
                            refine Ne.as 4 (.bool (decide (s.data.toList ∈ keyL))) rfl (congrArg Value.bool (by first | exact (eqB_mem (by assumption) (by decide +kernel)).symm | exact last_mem (by intro w hw; unfold keyL at hw; simp only [List.mem_cons, List.not_mem_nil, or_false] at hw; rcases hw with rfl | rfl | rfl | rfl | rfl | rfl | rfl | rfl | rfl | rfl | rfl | rfl | rfl | rfl | rfl | rfl | rfl | rfl | rfl | rfl | rfl | rfl | rfl | rfl | rfl | rfl | rfl | rfl | rfl | rfl | rfl | rfl | rfl | rfl | rfl | rfl | rfl | rfl | rfl | rfl | rfl <;> first | exact .inl rfl | exact .inr (by assumption)) (by decide +kernel))) ?_
                            exact Ne.jnx (trivial) (by repeat (first | exact trivial | refine ⟨rfl, ?_⟩)) (List.Sublist.refl _)
                          · refine Ce.as 4 (.bool false) rfl (congrArg Value.bool hc11) ?_
                            (try simp only [decide_eq_true_eq, decide_eq_false_iff_not, nrm_lt, nrm_nlt, nrm_eq, nrm_neq, nrm_seq, nrm_sneq, nrm_sempty, nrm_snempty, nrm_ofNat, Bool.not_eq_true', Bool.not_eq_false'] at hc11)
                            refine Ce.seq ?_
                            refine Ce.region ?_
                            refine Ie.p rfl rfl rfl rfl ?_
                            refine Ie.p rfl rfl rfl rfl ?_
                            refine Ie.nil ?_
                            refine Ne.seq ?_
                            refine Ce.cond rfl (fun hc12 => ?_) (fun hc12 => ?_)
                            · refine Ce.as 4 (.bool true) rfl (congrArg Value.bool hc12) ?_
                              (try simp only [decide_eq_true_eq, decide_eq_false_iff_not, nrm_lt, nrm_nlt, nrm_eq, nrm_neq, nrm_seq, nrm_sneq, nrm_sempty, nrm_snempty, nrm_ofNat, Bool.not_eq_true', Bool.not_eq_false'] at hc12)
                              refine Ce.skip ?_
                              refine Ne.as 4 (.bool (decide (s.data.toList ∈ keyL))) rfl (congrArg Value.bool (by first | exact (eqB_mem (by assumption) (by decide +kernel)).symm | exact last_mem (by intro w hw; unfold keyL at hw; simp only [List.mem_cons, List.not_mem_nil, or_false] at hw; rcases hw with rfl | rfl | rfl | rfl | rfl | rfl | rfl | rfl | rfl | rfl | rfl | rfl | rfl | rfl | rfl | rfl | rfl | rfl | rfl | rfl | rfl | rfl | rfl | rfl | rfl | rfl | rfl | rfl | rfl | rfl | rfl | rfl | rfl | rfl | rfl | rfl | rfl | rfl | rfl | rfl | rfl <;> first | exact .inl rfl | exact .inr (by assumption)) (by decide +kernel))) ?_
                              exact Ne.jnx (trivial) (by repeat (first | exact trivial | refine ⟨rfl, ?_⟩)) (List.Sublist.refl _)
                            · refine Ce.as 4 (.bool false) rfl (congrArg Value.bool hc12) ?_
                              (try simp only [decide_eq_true_eq, decide_eq_false_iff_not, nrm_lt, nrm_nlt, nrm_eq, nrm_neq, nrm_seq, nrm_sneq, nrm_sempty, nrm_snempty, nrm_ofNat, Bool.not_eq_true', Bool.not_eq_false'] at hc12)
                              refine Ce.seq ?_
                              refine Ce.region ?_
                              refine Ie.p rfl rfl rfl rfl ?_
                              refine Ie.p rfl rfl rfl rfl ?_
                              refine Ie.nil ?_
                              refine Ne.seq ?_
                              refine Ce.cond rfl (fun hc13 => ?_) (fun hc13 => ?_)
                              · refine Ce.as 4 (.bool true) rfl (congrArg Value.bool hc13) ?_
                                (try simp only [decide_eq_true_eq, decide_eq_false_iff_not, nrm_lt, nrm_nlt, nrm_eq, nrm_neq, nrm_seq, nrm_sneq, nrm_sempty, nrm_snempty, nrm_ofNat, Bool.not_eq_true', Bool.not_eq_false'] at hc13)
                                refine Ce.skip ?_
                                refine Ne.as 4 (.bool (decide (s.data.toList ∈ keyL))) rfl (congrArg Value.bool (by first | exact (eqB_mem (by assumption) (by decide +kernel)).symm | exact last_mem (by intro w hw; unfold keyL at hw; simp only [List.mem_cons, List.not_mem_nil, or_false] at hw; rcases hw with rfl | rfl | rfl | rfl | rfl | rfl | rfl | rfl | rfl | rfl | rfl | rfl | rfl | rfl | rfl | rfl | rfl | rfl | rfl | rfl | rfl | rfl | rfl | rfl | rfl | rfl | rfl | rfl | rfl | rfl | rfl | rfl | rfl | rfl | rfl | rfl | rfl | rfl | rfl | rfl | rfl <;> first | exact .inl rfl | exact .inr (by assumption)) (by decide +kernel))) ?_
                                exact Ne.jnx (trivial) (by repeat (first | exact trivial | refine ⟨rfl, ?_⟩)) (List.Sublist.refl _)
                              · refine Ce.as 4 (.bool false) rfl (congrArg Value.bool hc13) ?_
                                (try simp only [decide_eq_true_eq, decide_eq_false_iff_not, nrm_lt, nrm_nlt, nrm_eq, nrm_neq, nrm_seq, nrm_sneq, nrm_sempty, nrm_snempty, nrm_ofNat, Bool.not_eq_true', Bool.not_eq_false'] at hc13)
                                refine Ce.seq ?_
                                refine Ce.region ?_
                                refine Ie.p rfl rfl rfl rfl ?_
                                refine Ie.p rfl rfl rfl rfl ?_
                                refine Ie.nil ?_
                                refine Ne.seq ?_
                                refine Ce.cond rfl (fun hc14 => ?_) (fun hc14 => ?_)
                                · refine Ce.as 4 (.bool true) rfl (congrArg Value.bool hc14) ?_
                                  (try simp only [decide_eq_true_eq, decide_eq_false_iff_not, nrm_lt, nrm_nlt, nrm_eq, nrm_neq, nrm_seq, nrm_sneq, nrm_sempty, nrm_snempty, nrm_ofNat, Bool.not_eq_true', Bool.not_eq_false'] at hc14)
                                  refine Ce.skip ?_
                                  refine Ne.as 4 (.bool (decide (s.data.toList ∈ keyL))) rfl (congrArg Value.bool (by first | exact (eqB_mem (by assumption) (by decide +kernel)).symm | exact last_mem (by intro w hw; unfold keyL at hw; simp only [List.mem_cons, List.not_mem_nil, or_false] at hw; rcases hw with rfl | rfl | rfl | rfl | rfl | rfl | rfl | rfl | rfl | rfl | rfl | rfl | rfl | rfl | rfl | rfl | rfl | rfl | rfl | rfl | rfl | rfl | rfl | rfl | rfl | rfl | rfl | rfl | rfl | rfl | rfl | rfl | rfl | rfl | rfl | rfl | rfl | rfl | rfl | rfl | rfl <;> first | exact .inl rfl | exact .inr (by assumption)) (by decide +kernel))) ?_
                                  exact Ne.jnx (trivial) (by repeat (first | exact trivial | refine ⟨rfl, ?_⟩)) (List.Sublist.refl _)
                                · refine Ce.as 4 (.bool false) rfl (congrArg Value.bool hc14) ?_
                                  (try simp only [decide_eq_true_eq, decide_eq_false_iff_not, nrm_lt, nrm_nlt, nrm_eq, nrm_neq, nrm_seq, nrm_sneq, nrm_sempty, nrm_snempty, nrm_ofNat, Bool.not_eq_true', Bool.not_eq_false'] at hc14)
                                  refine Ce.seq ?_
                                  refine Ce.region ?_
                                  refine Ie.p rfl rfl rfl rfl ?_
                                  refine Ie.p rfl rfl rfl rfl ?_
                                  refine Ie.nil ?_
                                  refine Ne.seq ?_
                                  refine Ce.cond rfl (fun hc15 => ?_) (fun hc15 => ?_)
                                  · refine Ce.as 4 (.bool true) rfl (congrArg Value.bool hc15) ?_
                                    (try simp only [decide_eq_true_eq, decide_eq_false_iff_not, nrm_lt, nrm_nlt, nrm_eq, nrm_neq, nrm_seq, nrm_sneq, nrm_sempty, nrm_snempty, nrm_ofNat, Bool.not_eq_true', Bool.not_eq_false'] at hc15)
                                    refine Ce.skip ?_
                                    refine Ne.as 4 (.bool (decide (s.data.toList ∈ keyL))) rfl (congrArg Value.bool (by first | exact (eqB_mem (by assumption) (by decide +kernel)).symm | exact last_mem (by intro w hw; unfold keyL at hw; simp only [List.mem_cons, List.not_mem_nil, or_false] at hw; rcases hw with rfl | rfl | rfl | rfl | rfl | rfl | rfl | rfl | rfl | rfl | rfl | rfl | rfl | rfl | rfl | rfl | rfl | rfl | rfl | rfl | rfl | rfl | rfl | rfl | rfl | rfl | rfl | rfl | rfl | rfl | rfl | rfl | rfl | rfl | rfl | rfl | rfl | rfl | rfl | rfl | rfl <;> first | exact .inl rfl | exact .inr (by assumption)) (by decide +kernel))) ?_
                                    exact Ne.jnx (trivial) (by repeat (first | exact trivial | refine ⟨rfl, ?_⟩)) (List.Sublist.refl _)
                                  · refine Ce.as 4 (.bool false) rfl (congrArg Value.bool hc15) ?_
                                    (try simp only [decide_eq_true_eq, decide_eq_false_iff_not, nrm_lt, nrm_nlt, nrm_eq, nrm_neq, nrm_seq, nrm_sneq, nrm_sempty, nrm_snempty, nrm_ofNat, Bool.not_eq_true', Bool.not_eq_false'] at hc15)
                                    refine Ce.seq ?_
                                    refine Ce.region ?_
                                    refine Ie.p rfl rfl rfl rfl ?_
                                    refine Ie.p rfl rfl rfl rfl ?_
                                    refine Ie.nil ?_
                                    refine Ne.seq ?_
                                    refine Ce.cond rfl (fun hc16 => ?_) (fun hc16 => ?_)
                                    · refine Ce.as 4 (.bool true) rfl (congrArg Value.bool hc16) ?_
                                      (try simp only [decide_eq_true_eq, decide_eq_false_iff_not, nrm_lt, nrm_nlt, nrm_eq, nrm_neq, nrm_seq, nrm_sneq, nrm_sempty, nrm_snempty, nrm_ofNat, Bool.not_eq_true', Bool.not_eq_false'] at hc16)
                                      refine Ce.skip ?_
                                      refine Ne.as 4 (.bool (decide (s.data.toList ∈ keyL))) rfl (congrArg Value.bool (by first | exact (eqB_mem (by assumption) (by decide +kernel)).symm | exact last_mem (by intro w hw; unfold keyL at hw; simp only [List.mem_cons, List.not_mem_nil, or_false] at hw; rcases hw with rfl | rfl | rfl | rfl | rfl | rfl | rfl | rfl | rfl | rfl | rfl | rfl | rfl | rfl | rfl | rfl | rfl | rfl | rfl | rfl | rfl | rfl | rfl | rfl | rfl | rfl | rfl | rfl | rfl | rfl | rfl | rfl | rfl | rfl | rfl | rfl | rfl | rfl | rfl | rfl | rfl <;> first | exact .inl rfl | exact .inr (by assumption)) (by decide +kernel))) ?_
                                      exact Ne.jnx (trivial) (by repeat (first | exact trivial | refine ⟨rfl, ?_⟩)) (List.Sublist.refl _)
                                    · refine Ce.as 4 (.bool false) rfl (congrArg Value.bool hc16) ?_
                                      (try simp only [decide_eq_true_eq, decide_eq_false_iff_not, nrm_lt, nrm_nlt, nrm_eq, nrm_neq, nrm_seq, nrm_sneq, nrm_sempty, nrm_snempty, nrm_ofNat, Bool.not_eq_true', Bool.not_eq_false'] at hc16)
                                      refine Ce.seq ?_
                                      refine Ce.region ?_
                                      refine Ie.p rfl rfl rfl rfl ?_
                                      refine Ie.p rfl rfl rfl rfl ?_
                                      refine Ie.nil ?_
                                      refine Ne.seq ?_
                                      refine Ce.cond rfl (fun hc17 => ?_) (fun hc17 => ?_)
                                      · refine Ce.as 4 (.bool true) rfl (congrArg Value.bool hc17) ?_
                                        (try simp only [decide_eq_true_eq, decide_eq_false_iff_not, nrm_lt, nrm_nlt, nrm_eq, nrm_neq, nrm_seq, nrm_sneq, nrm_sempty, nrm_snempty, nrm_ofNat, Bool.not_eq_true', Bool.not_eq_false'] at hc17)
                                        refine Ce.skip ?_
                                        refine Ne.as 4 (.bool (decide (s.data.toList ∈ keyL))) rfl (congrArg Value.bool (by first | exact (eqB_mem (by assumption) (by decide +kernel)).symm | exact last_mem (by intro w hw; unfold keyL at hw; simp only [List.mem_cons, List.not_mem_nil, or_false] at hw; rcases hw with rfl | rfl | rfl | rfl | rfl | rfl | rfl | rfl | rfl | rfl | rfl | rfl | rfl | rfl | rfl | rfl | rfl | rfl | rfl | rfl | rfl | rfl | rfl | rfl | rfl | rfl | rfl | rfl | rfl | rfl | rfl | rfl | rfl | rfl | rfl | rfl | rfl | rfl | rfl | rfl | rfl <;> first | exact .inl rfl | exact .inr (by assumption)) (by decide +kernel))) ?_
                                        exact Ne.jnx (trivial) (by repeat (first | exact trivial | refine ⟨rfl, ?_⟩)) (List.Sublist.refl _)
                                      · refine Ce.as 4 (.bool false) rfl (congrArg Value.bool hc17) ?_
                                        (try simp only [decide_eq_true_eq, decide_eq_false_iff_not, nrm_lt, nrm_nlt, nrm_eq, nrm_neq, nrm_seq, nrm_sneq, nrm_sempty, nrm_snempty, nrm_ofNat, Bool.not_eq_true', Bool.not_eq_false'] at hc17)
                                        refine Ce.seq ?_
                                        refine Ce.region ?_
                                        refine Ie.p rfl rfl rfl rfl ?_
                                        refine Ie.p rfl rfl rfl rfl ?_
                                        refine Ie.nil ?_
                                        refine Ne.seq ?_
                                        refine Ce.cond rfl (fun hc18 => ?_) (fun hc18 => ?_)
                                        · refine Ce.as 4 (.bool true) rfl (congrArg Value.bool hc18) ?_
                                          (try simp only [decide_eq_true_eq, decide_eq_false_iff_not, nrm_lt, nrm_nlt, nrm_eq, nrm_neq, nrm_seq, nrm_sneq, nrm_sempty, nrm_snempty, nrm_ofNat, Bool.not_eq_true', Bool.not_eq_false'] at hc18)
                                          refine Ce.skip ?_
                                          refine Ne.as 4 (.bool (decide (s.data.toList ∈ keyL))) rfl (congrArg Value.bool (by first | exact (eqB_mem (by assumption) (by decide +kernel)).symm | exact last_mem (by intro w hw; unfold keyL at hw; simp only [List.mem_cons, List.not_mem_nil, or_false] at hw; rcases hw with rfl | rfl | rfl | rfl | rfl | rfl | rfl | rfl | rfl | rfl | rfl | rfl | rfl | rfl | rfl | rfl | rfl | rfl | rfl | rfl | rfl | rfl | rfl | rfl | rfl | rfl | rfl | rfl | rfl | rfl | rfl | rfl | rfl | rfl | rfl | rfl | rfl | rfl | rfl | rfl | rfl <;> first | exact .inl rfl | exact .inr (by assumption)) (by decide +kernel))) ?_
                                          exact Ne.jnx (trivial) (by repeat (first | exact trivial | refine ⟨rfl, ?_⟩)) (List.Sublist.refl _)
                                        · refine Ce.as 4 (.bool false) rfl (congrArg Value.bool hc18) ?_
                                          (try simp only [decide_eq_true_eq, decide_eq_false_iff_not, nrm_lt, nrm_nlt, nrm_eq, nrm_neq, nrm_seq, nrm_sneq, nrm_sempty, nrm_snempty, nrm_ofNat, Bool.not_eq_true', Bool.not_eq_false'] at hc18)
                                          refine Ce.seq ?_
                                          refine Ce.region ?_
                                          refine Ie.p rfl rfl rfl rfl ?_
                                          refine Ie.p rfl rfl rfl rfl ?_
                                          refine Ie.nil ?_
                                          refine Ne.seq ?_
                                          refine Ce.cond rfl (fun hc19 => ?_) (fun hc19 => ?_)
                                          · refine Ce.as 4 (.bool true) rfl (congrArg Value.bool hc19) ?_
                                            (try simp only [decide_eq_true_eq, decide_eq_false_iff_not, nrm_lt, nrm_nlt, nrm_eq, nrm_neq, nrm_seq, nrm_sneq, nrm_sempty, nrm_snempty, nrm_ofNat, Bool.not_eq_true', Bool.not_eq_false'] at hc19)
                                            refine Ce.skip ?_
                                            refine Ne.as 4 (.bool (decide (s.data.toList ∈ keyL))) rfl (congrArg Value.bool (by first | exact (eqB_mem (by assumption) (by decide +kernel)).symm | exact last_mem (by intro w hw; unfold keyL at hw; simp only [List.mem_cons, List.not_mem_nil, or_false] at hw; rcases hw with rfl | rfl | rfl | rfl | rfl | rfl | rfl | rfl | rfl | rfl | rfl | rfl | rfl | rfl | rfl | rfl | rfl | rfl | rfl | rfl | rfl | rfl | rfl | rfl | rfl | rfl | rfl | rfl | rfl | rfl | rfl | rfl | rfl | rfl | rfl | rfl | rfl | rfl | rfl | rfl | rfl <;> first | exact .inl rfl | exact .inr (by assumption)) (by decide +kernel))) ?_
                                            exact Ne.jnx (trivial) (by repeat (first | exact trivial | refine ⟨rfl, ?_⟩)) (List.Sublist.refl _)
                                          · refine Ce.as 4 (.bool false) rfl (congrArg Value.bool hc19) ?_
                                            (try simp only [decide_eq_true_eq, decide_eq_false_iff_not, nrm_lt, nrm_nlt, nrm_eq, nrm_neq, nrm_seq, nrm_sneq, nrm_sempty, nrm_snempty, nrm_ofNat, Bool.not_eq_true', Bool.not_eq_false'] at hc19)
                                            refine Ce.seq ?_
                                            refine Ce.region ?_
                                            refine Ie.p rfl rfl rfl rfl ?_
                                            refine Ie.p rfl rfl rfl rfl ?_
                                            refine Ie.nil ?_
                                            refine Ne.seq ?_
                                            refine Ce.cond rfl (fun hc20 => ?_) (fun hc20 => ?_)
                                            · refine Ce.as 4 (.bool true) rfl (congrArg Value.bool hc20) ?_
                                              (try simp only [decide_eq_true_eq, decide_eq_false_iff_not, nrm_lt, nrm_nlt, nrm_eq, nrm_neq, nrm_seq, nrm_sneq, nrm_sempty, nrm_snempty, nrm_ofNat, Bool.not_eq_true', Bool.not_eq_false'] at hc20)
                                              refine Ce.skip ?_
                                              refine Ne.as 4 (.bool (decide (s.data.toList ∈ keyL))) rfl (congrArg Value.bool (by first | exact (eqB_mem (by assumption) (by decide +kernel)).symm | exact last_mem (by intro w hw; unfold keyL at hw; simp only [List.mem_cons, List.not_mem_nil, or_false] at hw; rcases hw with rfl | rfl | rfl | rfl | rfl | rfl | rfl | rfl | rfl | rfl | rfl | rfl | rfl | rfl | rfl | rfl | rfl | rfl | rfl | rfl | rfl | rfl | rfl | rfl | rfl | rfl | rfl | rfl | rfl | rfl | rfl | rfl | rfl | rfl | rfl | rfl | rfl | rfl | rfl | rfl | rfl <;> first | exact .inl rfl | exact .inr (by assumption)) (by decide +kernel))) ?_
                                              exact Ne.jnx (trivial) (by repeat (first | exact trivial | refine ⟨rfl, ?_⟩)) (List.Sublist.refl _)
                                            · refine Ce.as 4 (.bool false) rfl (congrArg Value.bool hc20) ?_
                                              (try simp only [decide_eq_true_eq, decide_eq_false_iff_not, nrm_lt, nrm_nlt, nrm_eq, nrm_neq, nrm_seq, nrm_sneq, nrm_sempty, nrm_snempty, nrm_ofNat, Bool.not_eq_true', Bool.not_eq_false'] at hc20)
                                              refine Ce.seq ?_
                                              refine Ce.region ?_
                                              refine Ie.p rfl rfl rfl rfl ?_
                                              refine Ie.p rfl rfl rfl rfl ?_
                                              refine Ie.nil ?_
                                              refine Ne.seq ?_
                                              refine Ce.cond rfl (fun hc21 => ?_) (fun hc21 => ?_)
                                              · refine Ce.as 4 (.bool true) rfl (congrArg Value.bool hc21) ?_
                                                (try simp only [decide_eq_true_eq, decide_eq_false_iff_not, nrm_lt, nrm_nlt, nrm_eq, nrm_neq, nrm_seq, nrm_sneq, nrm_sempty, nrm_snempty, nrm_ofNat, Bool.not_eq_true', Bool.not_eq_false'] at hc21)
                                                refine Ce.skip ?_
                                                refine Ne.as 4 (.bool (decide (s.data.toList ∈ keyL))) rfl (congrArg Value.bool (by first | exact (eqB_mem (by assumption) (by decide +kernel)).symm | exact last_mem (by intro w hw; unfold keyL at hw; simp only [List.mem_cons, List.not_mem_nil, or_false] at hw; rcases hw with rfl | rfl | rfl | rfl | rfl | rfl | rfl | rfl | rfl | rfl | rfl | rfl | rfl | rfl | rfl | rfl | rfl | rfl | rfl | rfl | rfl | rfl | rfl | rfl | rfl | rfl | rfl | rfl | rfl | rfl | rfl | rfl | rfl | rfl | rfl | rfl | rfl | rfl | rfl | rfl | rfl <;> first | exact .inl rfl | exact .inr (by assumption)) (by decide +kernel))) ?_
                                                exact Ne.jnx (trivial) (by repeat (first | exact trivial | refine ⟨rfl, ?_⟩)) (List.Sublist.refl _)
                                              · refine Ce.as 4 (.bool false) rfl (congrArg Value.bool hc21) ?_
                                                (try simp only [decide_eq_true_eq, decide_eq_false_iff_not, nrm_lt, nrm_nlt, nrm_eq, nrm_neq, nrm_seq, nrm_sneq, nrm_sempty, nrm_snempty, nrm_ofNat, Bool.not_eq_true', Bool.not_eq_false'] at hc21)
                                                refine Ce.seq ?_
                                                refine Ce.region ?_
                                                refine Ie.p rfl rfl rfl rfl ?_
                                                refine Ie.p rfl rfl rfl rfl ?_
                                                refine Ie.nil ?_
                                                refine Ne.seq ?_
                                                refine Ce.cond rfl (fun hc22 => ?_) (fun hc22 => ?_)
                                                · refine Ce.as 4 (.bool true) rfl (congrArg Value.bool hc22) ?_
                                                  (try simp only [decide_eq_true_eq, decide_eq_false_iff_not, nrm_lt, nrm_nlt, nrm_eq, nrm_neq, nrm_seq, nrm_sneq, nrm_sempty, nrm_snempty, nrm_ofNat, Bool.not_eq_true', Bool.not_eq_false'] at hc22)
                                                  refine Ce.skip ?_
                                                  refine Ne.as 4 (.bool (decide (s.data.toList ∈ keyL))) rfl (congrArg Value.bool (by first | exact (eqB_mem (by assumption) (by decide +kernel)).symm | exact last_mem (by intro w hw; unfold keyL at hw; simp only [List.mem_cons, List.not_mem_nil, or_false] at hw; rcases hw with rfl | rfl | rfl | rfl | rfl | rfl | rfl | rfl | rfl | rfl | rfl | rfl | rfl | rfl | rfl | rfl | rfl | rfl | rfl | rfl | rfl | rfl | rfl | rfl | rfl | rfl | rfl | rfl | rfl | rfl | rfl | rfl | rfl | rfl | rfl | rfl | rfl | rfl | rfl | rfl | rfl <;> first | exact .inl rfl | exact .inr (by assumption)) (by decide +kernel))) ?_
                                                  exact Ne.jnx (trivial) (by repeat (first | exact trivial | refine ⟨rfl, ?_⟩)) (List.Sublist.refl _)
                                                · refine Ce.as 4 (.bool false) rfl (congrArg Value.bool hc22) ?_
                                                  (try simp only [decide_eq_true_eq, decide_eq_false_iff_not, nrm_lt, nrm_nlt, nrm_eq, nrm_neq, nrm_seq, nrm_sneq, nrm_sempty, nrm_snempty, nrm_ofNat, Bool.not_eq_true', Bool.not_eq_false'] at hc22)
                                                  refine Ce.seq ?_
                                                  refine Ce.region ?_
                                                  refine Ie.p rfl rfl rfl rfl ?_
                                                  refine Ie.p rfl rfl rfl rfl ?_
                                                  refine Ie.nil ?_
                                                  refine Ne.seq ?_
                                                  refine Ce.cond rfl (fun hc23 => ?_) (fun hc23 => ?_)
                                                  · refine Ce.as 4 (.bool true) rfl (congrArg Value.bool hc23) ?_
                                                    (try simp only [decide_eq_true_eq, decide_eq_false_iff_not, nrm_lt, nrm_nlt, nrm_eq, nrm_neq, nrm_seq, nrm_sneq, nrm_sempty, nrm_snempty, nrm_ofNat, Bool.not_eq_true', Bool.not_eq_false'] at hc23)
                                                    refine Ce.skip ?_
                                                    refine Ne.as 4 (.bool (decide (s.data.toList ∈ keyL))) rfl (congrArg Value.bool (by first | exact (eqB_mem (by assumption) (by decide +kernel)).symm | exact last_mem (by intro w hw; unfold keyL at hw; simp only [List.mem_cons, List.not_mem_nil, or_false] at hw; rcases hw with rfl | rfl | rfl | rfl | rfl | rfl | rfl | rfl | rfl | rfl | rfl | rfl | rfl | rfl | rfl | rfl | rfl | rfl | rfl | rfl | rfl | rfl | rfl | rfl | rfl | rfl | rfl | rfl | rfl | rfl | rfl | rfl | rfl | rfl | rfl | rfl | rfl | rfl | rfl | rfl | rfl <;> first | exact .inl rfl | exact .inr (by assumption)) (by decide +kernel))) ?_
                                                    exact Ne.jnx (trivial) (by repeat (first | exact trivial | refine ⟨rfl, ?_⟩)) (List.Sublist.refl _)
                                                  · refine Ce.as 4 (.bool false) rfl (congrArg Value.bool hc23) ?_
                                                    (try simp only [decide_eq_true_eq, decide_eq_false_iff_not, nrm_lt, nrm_nlt, nrm_eq, nrm_neq, nrm_seq, nrm_sneq, nrm_sempty, nrm_snempty, nrm_ofNat, Bool.not_eq_true', Bool.not_eq_false'] at hc23)
                                                    refine Ce.seq ?_
                                                    refine Ce.region ?_
                                                    refine Ie.p rfl rfl rfl rfl ?_
                                                    refine Ie.p rfl rfl rfl rfl ?_
                                                    refine Ie.nil ?_
                                                    refine Ne.seq ?_
                                                    refine Ce.cond rfl (fun hc24 => ?_) (fun hc24 => ?_)
                                                    · refine Ce.as 4 (.bool true) rfl (congrArg Value.bool hc24) ?_
                                                      (try simp only [decide_eq_true_eq, decide_eq_false_iff_not, nrm_lt, nrm_nlt, nrm_eq, nrm_neq, nrm_seq, nrm_sneq, nrm_sempty, nrm_snempty, nrm_ofNat, Bool.not_eq_true', Bool.not_eq_false'] at hc24)
                                                      refine Ce.skip ?_
                                                      refine Ne.as 4 (.bool (decide (s.data.toList ∈ keyL))) rfl (congrArg Value.bool (by first | exact (eqB_mem (by assumption) (by decide +kernel)).symm | exact last_mem (by intro w hw; unfold keyL at hw; simp only [List.mem_cons, List.not_mem_nil, or_false] at hw; rcases hw with rfl | rfl | rfl | rfl | rfl | rfl | rfl | rfl | rfl | rfl | rfl | rfl | rfl | rfl | rfl | rfl | rfl | rfl | rfl | rfl | rfl | rfl | rfl | rfl | rfl | rfl | rfl | rfl | rfl | rfl | rfl | rfl | rfl | rfl | rfl | rfl | rfl | rfl | rfl | rfl | rfl <;> first | exact .inl rfl | exact .inr (by assumption)) (by decide +kernel))) ?_
                                                      exact Ne.jnx (trivial) (by repeat (first | exact trivial | refine ⟨rfl, ?_⟩)) (List.Sublist.refl _)
                                                    · refine Ce.as 4 (.bool false) rfl (congrArg Value.bool hc24) ?_
                                                      (try simp only [decide_eq_true_eq, decide_eq_false_iff_not, nrm_lt, nrm_nlt, nrm_eq, nrm_neq, nrm_seq, nrm_sneq, nrm_sempty, nrm_snempty, nrm_ofNat, Bool.not_eq_true', Bool.not_eq_false'] at hc24)
                                                      refine Ce.seq ?_
                                                      refine Ce.region ?_
                                                      refine Ie.p rfl rfl rfl rfl ?_
                                                      refine Ie.p rfl rfl rfl rfl ?_
                                                      refine Ie.nil ?_
                                                      refine Ne.seq ?_
                                                      refine Ce.cond rfl (fun hc25 => ?_) (fun hc25 => ?_)
                                                      · refine Ce.as 4 (.bool true) rfl (congrArg Value.bool hc25) ?_
                                                        (try simp only [decide_eq_true_eq, decide_eq_false_iff_not, nrm_lt, nrm_nlt, nrm_eq, nrm_neq, nrm_seq, nrm_sneq, nrm_sempty, nrm_snempty, nrm_ofNat, Bool.not_eq_true', Bool.not_eq_false'] at hc25)
                                                        refine Ce.skip ?_
                                                        refine Ne.as 4 (.bool (decide (s.data.toList ∈ keyL))) rfl (congrArg Value.bool (by first | exact (eqB_mem (by assumption) (by decide +kernel)).symm | exact last_mem (by intro w hw; unfold keyL at hw; simp only [List.mem_cons, List.not_mem_nil, or_false] at hw; rcases hw with rfl | rfl | rfl | rfl | rfl | rfl | rfl | rfl | rfl | rfl | rfl | rfl | rfl | rfl | rfl | rfl | rfl | rfl | rfl | rfl | rfl | rfl | rfl | rfl | rfl | rfl | rfl | rfl | rfl | rfl | rfl | rfl | rfl | rfl | rfl | rfl | rfl | rfl | rfl | rfl | rfl <;> first | exact .inl rfl | exact .inr (by assumption)) (by decide +kernel))) ?_
                                                        exact Ne.jnx (trivial) (by repeat (first | exact trivial | refine ⟨rfl, ?_⟩)) (List.Sublist.refl _)
                                                      · refine Ce.as 4 (.bool false) rfl (congrArg Value.bool hc25) ?_
                                                        (try simp only [decide_eq_true_eq, decide_eq_false_iff_not, nrm_lt, nrm_nlt, nrm_eq, nrm_neq, nrm_seq, nrm_sneq, nrm_sempty, nrm_snempty, nrm_ofNat, Bool.not_eq_true', Bool.not_eq_false'] at hc25)
                                                        refine Ce.seq ?_
                                                        refine Ce.region ?_
                                                        refine Ie.p rfl rfl rfl rfl ?_
                                                        refine Ie.p rfl rfl rfl rfl ?_
                                                        refine Ie.nil ?_
                                                        refine Ne.seq ?_
                                                        refine Ce.cond rfl (fun hc26 => ?_) (fun hc26 => ?_)
                                                        · refine Ce.as 4 (.bool true) rfl (congrArg Value.bool hc26) ?_
                                                          (try simp only [decide_eq_true_eq, decide_eq_false_iff_not, nrm_lt, nrm_nlt, nrm_eq, nrm_neq, nrm_seq, nrm_sneq, nrm_sempty, nrm_snempty, nrm_ofNat, Bool.not_eq_true', Bool.not_eq_false'] at hc26)
                                                          refine Ce.skip ?_
                                                          refine Ne.as 4 (.bool (decide (s.data.toList ∈ keyL))) rfl (congrArg Value.bool (by first | exact (eqB_mem (by assumption) (by decide +kernel)).symm | exact last_mem (by intro w hw; unfold keyL at hw; simp only [List.mem_cons, List.not_mem_nil, or_false] at hw; rcases hw with rfl | rfl | rfl | rfl | rfl | rfl | rfl | rfl | rfl | rfl | rfl | rfl | rfl | rfl | rfl | rfl | rfl | rfl | rfl | rfl | rfl | rfl | rfl | rfl | rfl | rfl | rfl | rfl | rfl | rfl | rfl | rfl | rfl | rfl | rfl | rfl | rfl | rfl | rfl | rfl | rfl <;> first | exact .inl rfl | exact .inr (by assumption)) (by decide +kernel))) ?_
                                                          exact Ne.jnx (trivial) (by repeat (first | exact trivial | refine ⟨rfl, ?_⟩)) (List.Sublist.refl _)
                                                        · refine Ce.as 4 (.bool false) rfl (congrArg Value.bool hc26) ?_
                                                          (try simp only [decide_eq_true_eq, decide_eq_false_iff_not, nrm_lt, nrm_nlt, nrm_eq, nrm_neq, nrm_seq, nrm_sneq, nrm_sempty, nrm_snempty, nrm_ofNat, Bool.not_eq_true', Bool.not_eq_false'] at hc26)
                                                          refine Ce.seq ?_
                                                          refine Ce.region ?_
                                                          refine Ie.p rfl rfl rfl rfl ?_
                                                          refine Ie.p rfl rfl rfl rfl ?_
                                                          refine Ie.nil ?_
                                                          refine Ne.seq ?_
                                                          refine Ce.cond rfl (fun hc27 => ?_) (fun hc27 => ?_)
                                                          · refine Ce.as 4 (.bool true) rfl (congrArg Value.bool hc27) ?_
                                                            (try simp only [decide_eq_true_eq, decide_eq_false_iff_not, nrm_lt, nrm_nlt, nrm_eq, nrm_neq, nrm_seq, nrm_sneq, nrm_sempty, nrm_snempty, nrm_ofNat, Bool.not_eq_true', Bool.not_eq_false'] at hc27)
                                                            refine Ce.skip ?_
                                                            refine Ne.as 4 (.bool (decide (s.data.toList ∈ keyL))) rfl (congrArg Value.bool (by first | exact (eqB_mem (by assumption) (by decide +kernel)).symm | exact last_mem (by intro w hw; unfold keyL at hw; simp only [List.mem_cons, List.not_mem_nil, or_false] at hw; rcases hw with rfl | rfl | rfl | rfl | rfl | rfl | rfl | rfl | rfl | rfl | rfl | rfl | rfl | rfl | rfl | rfl | rfl | rfl | rfl | rfl | rfl | rfl | rfl | rfl | rfl | rfl | rfl | rfl | rfl | rfl | rfl | rfl | rfl | rfl | rfl | rfl | rfl | rfl | rfl | rfl | rfl <;> first | exact .inl rfl | exact .inr (by assumption)) (by decide +kernel))) ?_
                                                            exact Ne.jnx (trivial) (by repeat (first | exact trivial | refine ⟨rfl, ?_⟩)) (List.Sublist.refl _)
                                                          · refine Ce.as 4 (.bool false) rfl (congrArg Value.bool hc27) ?_
                                                            (try simp only [decide_eq_true_eq, decide_eq_false_iff_not, nrm_lt, nrm_nlt, nrm_eq, nrm_neq, nrm_seq, nrm_sneq, nrm_sempty, nrm_snempty, nrm_ofNat, Bool.not_eq_true', Bool.not_eq_false'] at hc27)
                                                            refine Ce.seq ?_
                                                            refine Ce.region ?_
                                                            refine Ie.p rfl rfl rfl rfl ?_
                                                            refine Ie.p rfl rfl rfl rfl ?_
                                                            refine Ie.nil ?_
                                                            refine Ne.seq ?_
                                                            refine Ce.cond rfl (fun hc28 => ?_) (fun hc28 => ?_)
                                                            · refine Ce.as 4 (.bool true) rfl (congrArg Value.bool hc28) ?_
                                                              (try simp only [decide_eq_true_eq, decide_eq_false_iff_not, nrm_lt, nrm_nlt, nrm_eq, nrm_neq, nrm_seq, nrm_sneq, nrm_sempty, nrm_snempty, nrm_ofNat, Bool.not_eq_true', Bool.not_eq_false'] at hc28)
                                                              refine Ce.skip ?_
                                                              refine Ne.as 4 (.bool (decide (s.data.toList ∈ keyL))) rfl (congrArg Value.bool (by first | exact (eqB_mem (by assumption) (by decide +kernel)).symm | exact last_mem (by intro w hw; unfold keyL at hw; simp only [List.mem_cons, List.not_mem_nil, or_false] at hw; rcases hw with rfl | rfl | rfl | rfl | rfl | rfl | rfl | rfl | rfl | rfl | rfl | rfl | rfl | rfl | rfl | rfl | rfl | rfl | rfl | rfl | rfl | rfl | rfl | rfl | rfl | rfl | rfl | rfl | rfl | rfl | rfl | rfl | rfl | rfl | rfl | rfl | rfl | rfl | rfl | rfl | rfl <;> first | exact .inl rfl | exact .inr (by assumption)) (by decide +kernel))) ?_
                                                              exact Ne.jnx (trivial) (by repeat (first | exact trivial | refine ⟨rfl, ?_⟩)) (List.Sublist.refl _)
                                                            · refine Ce.as 4 (.bool false) rfl (congrArg Value.bool hc28) ?_
                                                              (try simp only [decide_eq_true_eq, decide_eq_false_iff_not, nrm_lt, nrm_nlt, nrm_eq, nrm_neq, nrm_seq, nrm_sneq, nrm_sempty, nrm_snempty, nrm_ofNat, Bool.not_eq_true', Bool.not_eq_false'] at hc28)
                                                              refine Ce.seq ?_
                                                              refine Ce.region ?_
                                                              refine Ie.p rfl rfl rfl rfl ?_
                                                              refine Ie.p rfl rfl rfl rfl ?_
                                                              refine Ie.nil ?_
                                                              refine Ne.seq ?_
                                                              refine Ce.cond rfl (fun hc29 => ?_) (fun hc29 => ?_)
                                                              · refine Ce.as 4 (.bool true) rfl (congrArg Value.bool hc29) ?_
                                                                (try simp only [decide_eq_true_eq, decide_eq_false_iff_not, nrm_lt, nrm_nlt, nrm_eq, nrm_neq, nrm_seq, nrm_sneq, nrm_sempty, nrm_snempty, nrm_ofNat, Bool.not_eq_true', Bool.not_eq_false'] at hc29)
                                                                refine Ce.skip ?_
                                                                refine Ne.as 4 (.bool (decide (s.data.toList ∈ keyL))) rfl (congrArg Value.bool (by first | exact (eqB_mem (by assumption) (by decide +kernel)).symm | exact last_mem (by intro w hw; unfold keyL at hw; simp only [List.mem_cons, List.not_mem_nil, or_false] at hw; rcases hw with rfl | rfl | rfl | rfl | rfl | rfl | rfl | rfl | rfl | rfl | rfl | rfl | rfl | rfl | rfl | rfl | rfl | rfl | rfl | rfl | rfl | rfl | rfl | rfl | rfl | rfl | rfl | rfl | rfl | rfl | rfl | rfl | rfl | rfl | rfl | rfl | rfl | rfl | rfl | rfl | rfl <;> first | exact .inl rfl | exact .inr (by assumption)) (by decide +kernel))) ?_
                                                                exact Ne.jnx (trivial) (by repeat (first | exact trivial | refine ⟨rfl, ?_⟩)) (List.Sublist.refl _)
                                                              · refine Ce.as 4 (.bool false) rfl (congrArg Value.bool hc29) ?_
                                                                (try simp only [decide_eq_true_eq, decide_eq_false_iff_not, nrm_lt, nrm_nlt, nrm_eq, nrm_neq, nrm_seq, nrm_sneq, nrm_sempty, nrm_snempty, nrm_ofNat, Bool.not_eq_true', Bool.not_eq_false'] at hc29)
                                                                refine Ce.seq ?_
                                                                refine Ce.region ?_
                                                                refine Ie.p rfl rfl rfl rfl ?_
                                                                refine Ie.p rfl rfl rfl rfl ?_
                                                                refine Ie.nil ?_
                                                                refine Ne.seq ?_
                                                                refine Ce.cond rfl (fun hc30 => ?_) (fun hc30 => ?_)
                                                                · refine Ce.as 4 (.bool true) rfl (congrArg Value.bool hc30) ?_
                                                                  (try simp only [decide_eq_true_eq, decide_eq_false_iff_not, nrm_lt, nrm_nlt, nrm_eq, nrm_neq, nrm_seq, nrm_sneq, nrm_sempty, nrm_snempty, nrm_ofNat, Bool.not_eq_true', Bool.not_eq_false'] at hc30)
                                                                  refine Ce.skip ?_
                                                                  refine Ne.as 4 (.bool (decide (s.data.toList ∈ keyL))) rfl (congrArg Value.bool (by first | exact (eqB_mem (by assumption) (by decide +kernel)).symm | exact last_mem (by intro w hw; unfold keyL at hw; simp only [List.mem_cons, List.not_mem_nil, or_false] at hw; rcases hw with rfl | rfl | rfl | rfl | rfl | rfl | rfl | rfl | rfl | rfl | rfl | rfl | rfl | rfl | rfl | rfl | rfl | rfl | rfl | rfl | rfl | rfl | rfl | rfl | rfl | rfl | rfl | rfl | rfl | rfl | rfl | rfl | rfl | rfl | rfl | rfl | rfl | rfl | rfl | rfl | rfl <;> first | exact .inl rfl | exact .inr (by assumption)) (by decide +kernel))) ?_
                                                                  exact Ne.jnx (trivial) (by repeat (first | exact trivial | refine ⟨rfl, ?_⟩)) (List.Sublist.refl _)
                                                                · refine Ce.as 4 (.bool false) rfl (congrArg Value.bool hc30) ?_
                                                                  (try simp only [decide_eq_true_eq, decide_eq_false_iff_not, nrm_lt, nrm_nlt, nrm_eq, nrm_neq, nrm_seq, nrm_sneq, nrm_sempty, nrm_snempty, nrm_ofNat, Bool.not_eq_true', Bool.not_eq_false'] at hc30)
                                                                  refine Ce.seq ?_
                                                                  refine Ce.region ?_
                                                                  refine Ie.p rfl rfl rfl rfl ?_
                                                                  refine Ie.p rfl rfl rfl rfl ?_
                                                                  refine Ie.nil ?_
                                                                  refine Ne.seq ?_
                                                                  refine Ce.cond rfl (fun hc31 => ?_) (fun hc31 => ?_)
                                                                  · refine Ce.as 4 (.bool true) rfl (congrArg Value.bool hc31) ?_
                                                                    (try simp only [decide_eq_true_eq, decide_eq_false_iff_not, nrm_lt, nrm_nlt, nrm_eq, nrm_neq, nrm_seq, nrm_sneq, nrm_sempty, nrm_snempty, nrm_ofNat, Bool.not_eq_true', Bool.not_eq_false'] at hc31)
                                                                    refine Ce.skip ?_
                                                                    refine Ne.as 4 (.bool (decide (s.data.toList ∈ keyL))) rfl (congrArg Value.bool (by first | exact (eqB_mem (by assumption) (by decide +kernel)).symm | exact last_mem (by intro w hw; unfold keyL at hw; simp only [List.mem_cons, List.not_mem_nil, or_false] at hw; rcases hw with rfl | rfl | rfl | rfl | rfl | rfl | rfl | rfl | rfl | rfl | rfl | rfl | rfl | rfl | rfl | rfl | rfl | rfl | rfl | rfl | rfl | rfl | rfl | rfl | rfl | rfl | rfl | rfl | rfl | rfl | rfl | rfl | rfl | rfl | rfl | rfl | rfl | rfl | rfl | rfl | rfl <;> first | exact .inl rfl | exact .inr (by assumption)) (by decide +kernel))) ?_
                                                                    exact Ne.jnx (trivial) (by repeat (first | exact trivial | refine ⟨rfl, ?_⟩)) (List.Sublist.refl _)
                                                                  · refine Ce.as 4 (.bool false) rfl (congrArg Value.bool hc31) ?_
                                                                    (try simp only [decide_eq_true_eq, decide_eq_false_iff_not, nrm_lt, nrm_nlt, nrm_eq, nrm_neq, nrm_seq, nrm_sneq, nrm_sempty, nrm_snempty, nrm_ofNat, Bool.not_eq_true', Bool.not_eq_false'] at hc31)
                                                                    refine Ce.seq ?_
                                                                    refine Ce.region ?_
                                                                    refine Ie.p rfl rfl rfl rfl ?_
                                                                    refine Ie.p rfl rfl rfl rfl ?_
                                                                    refine Ie.nil ?_
                                                                    refine Ne.seq ?_
                                                                    refine Ce.cond rfl (fun hc32 => ?_) (fun hc32 => ?_)
                                                                    · refine Ce.as 4 (.bool true) rfl (congrArg Value.bool hc32) ?_
                                                                      (try simp only [decide_eq_true_eq, decide_eq_false_iff_not, nrm_lt, nrm_nlt, nrm_eq, nrm_neq, nrm_seq, nrm_sneq, nrm_sempty, nrm_snempty, nrm_ofNat, Bool.not_eq_true', Bool.not_eq_false'] at hc32)
                                                                      refine Ce.skip ?_
                                                                      refine Ne.as 4 (.bool (decide (s.data.toList ∈ keyL))) rfl (congrArg Value.bool (by first | exact (eqB_mem (by assumption) (by decide +kernel)).symm | exact last_mem (by intro w hw; unfold keyL at hw; simp only [List.mem_cons, List.not_mem_nil, or_false] at hw; rcases hw with rfl | rfl | rfl | rfl | rfl | rfl | rfl | rfl | rfl | rfl | rfl | rfl | rfl | rfl | rfl | rfl | rfl | rfl | rfl | rfl | rfl | rfl | rfl | rfl | rfl | rfl | rfl | rfl | rfl | rfl | rfl | rfl | rfl | rfl | rfl | rfl | rfl | rfl | rfl | rfl | rfl <;> first | exact .inl rfl | exact .inr (by assumption)) (by decide +kernel))) ?_
                                                                      exact Ne.jnx (trivial) (by repeat (first | exact trivial | refine ⟨rfl, ?_⟩)) (List.Sublist.refl _)
                                                                    · refine Ce.as 4 (.bool false) rfl (congrArg Value.bool hc32) ?_
                                                                      (try simp only [decide_eq_true_eq, decide_eq_false_iff_not, nrm_lt, nrm_nlt, nrm_eq, nrm_neq, nrm_seq, nrm_sneq, nrm_sempty, nrm_snempty, nrm_ofNat, Bool.not_eq_true', Bool.not_eq_false'] at hc32)
                                                                      refine Ce.seq ?_
                                                                      refine Ce.region ?_
                                                                      refine Ie.p rfl rfl rfl rfl ?_
                                                                      refine Ie.p rfl rfl rfl rfl ?_
                                                                      refine Ie.nil ?_
                                                                      refine Ne.seq ?_
                                                                      refine Ce.cond rfl (fun hc33 => ?_) (fun hc33 => ?_)
                                                                      · refine Ce.as 4 (.bool true) rfl (congrArg Value.bool hc33) ?_
                                                                        (try simp only [decide_eq_true_eq, decide_eq_false_iff_not, nrm_lt, nrm_nlt, nrm_eq, nrm_neq, nrm_seq, nrm_sneq, nrm_sempty, nrm_snempty, nrm_ofNat, Bool.not_eq_true', Bool.not_eq_false'] at hc33)
                                                                        refine Ce.skip ?_
                                                                        refine Ne.as 4 (.bool (decide (s.data.toList ∈ keyL))) rfl (congrArg Value.bool (by first | exact (eqB_mem (by assumption) (by decide +kernel)).symm | exact last_mem (by intro w hw; unfold keyL at hw; simp only [List.mem_cons, List.not_mem_nil, or_false] at hw; rcases hw with rfl | rfl | rfl | rfl | rfl | rfl | rfl | rfl | rfl | rfl | rfl | rfl | rfl | rfl | rfl | rfl | rfl | rfl | rfl | rfl | rfl | rfl | rfl | rfl | rfl | rfl | rfl | rfl | rfl | rfl | rfl | rfl | rfl | rfl | rfl | rfl | rfl | rfl | rfl | rfl | rfl <;> first | exact .inl rfl | exact .inr (by assumption)) (by decide +kernel))) ?_
                                                                        exact Ne.jnx (trivial) (by repeat (first | exact trivial | refine ⟨rfl, ?_⟩)) (List.Sublist.refl _)
                                                                      · refine Ce.as 4 (.bool false) rfl (congrArg Value.bool hc33) ?_
                                                                        (try simp only [decide_eq_true_eq, decide_eq_false_iff_not, nrm_lt, nrm_nlt, nrm_eq, nrm_neq, nrm_seq, nrm_sneq, nrm_sempty, nrm_snempty, nrm_ofNat, Bool.not_eq_true', Bool.not_eq_false'] at hc33)
                                                                        refine Ce.seq ?_
                                                                        refine Ce.region ?_
                                                                        refine Ie.p rfl rfl rfl rfl ?_
                                                                        refine Ie.p rfl rfl rfl rfl ?_
                                                                        refine Ie.nil ?_
                                                                        refine Ne.seq ?_
                                                                        refine Ce.cond rfl (fun hc34 => ?_) (fun hc34 => ?_)
                                                                        · refine Ce.as 4 (.bool true) rfl (congrArg Value.bool hc34) ?_
                                                                          (try simp only [decide_eq_true_eq, decide_eq_false_iff_not, nrm_lt, nrm_nlt, nrm_eq, nrm_neq, nrm_seq, nrm_sneq, nrm_sempty, nrm_snempty, nrm_ofNat, Bool.not_eq_true', Bool.not_eq_false'] at hc34)
                                                                          refine Ce.skip ?_
                                                                          refine Ne.as 4 (.bool (decide (s.data.toList ∈ keyL))) rfl (congrArg Value.bool (by first | exact (eqB_mem (by assumption) (by decide +kernel)).symm | exact last_mem (by intro w hw; unfold keyL at hw; simp only [List.mem_cons, List.not_mem_nil, or_false] at hw; rcases hw with rfl | rfl | rfl | rfl | rfl | rfl | rfl | rfl | rfl | rfl | rfl | rfl | rfl | rfl | rfl | rfl | rfl | rfl | rfl | rfl | rfl | rfl | rfl | rfl | rfl | rfl | rfl | rfl | rfl | rfl | rfl | rfl | rfl | rfl | rfl | rfl | rfl | rfl | rfl | rfl | rfl <;> first | exact .inl rfl | exact .inr (by assumption)) (by decide +kernel))) ?_
                                                                          exact Ne.jnx (trivial) (by repeat (first | exact trivial | refine ⟨rfl, ?_⟩)) (List.Sublist.refl _)
                                                                        · refine Ce.as 4 (.bool false) rfl (congrArg Value.bool hc34) ?_
                                                                          (try simp only [decide_eq_true_eq, decide_eq_false_iff_not, nrm_lt, nrm_nlt, nrm_eq, nrm_neq, nrm_seq, nrm_sneq, nrm_sempty, nrm_snempty, nrm_ofNat, Bool.not_eq_true', Bool.not_eq_false'] at hc34)
                                                                          refine Ce.seq ?_
                                                                          refine Ce.region ?_
                                                                          refine Ie.p rfl rfl rfl rfl ?_
                                                                          refine Ie.p rfl rfl rfl rfl ?_
                                                                          refine Ie.nil ?_
                                                                          refine Ne.seq ?_
                                                                          refine Ce.cond rfl (fun hc35 => ?_) (fun hc35 => ?_)
                                                                          · refine Ce.as 4 (.bool true) rfl (congrArg Value.bool hc35) ?_
                                                                            (try simp only [decide_eq_true_eq, decide_eq_false_iff_not, nrm_lt, nrm_nlt, nrm_eq, nrm_neq, nrm_seq, nrm_sneq, nrm_sempty, nrm_snempty, nrm_ofNat, Bool.not_eq_true', Bool.not_eq_false'] at hc35)
                                                                            refine Ce.skip ?_
                                                                            refine Ne.as 4 (.bool (decide (s.data.toList ∈ keyL))) rfl (congrArg Value.bool (by first | exact (eqB_mem (by assumption) (by decide +kernel)).symm | exact last_mem (by intro w hw; unfold keyL at hw; simp only [List.mem_cons, List.not_mem_nil, or_false] at hw; rcases hw with rfl | rfl | rfl | rfl | rfl | rfl | rfl | rfl | rfl | rfl | rfl | rfl | rfl | rfl | rfl | rfl | rfl | rfl | rfl | rfl | rfl | rfl | rfl | rfl | rfl | rfl | rfl | rfl | rfl | rfl | rfl | rfl | rfl | rfl | rfl | rfl | rfl | rfl | rfl | rfl | rfl <;> first | exact .inl rfl | exact .inr (by assumption)) (by decide +kernel))) ?_
                                                                            exact Ne.jnx (trivial) (by repeat (first | exact trivial | refine ⟨rfl, ?_⟩)) (List.Sublist.refl _)
                                                                          · refine Ce.as 4 (.bool false) rfl (congrArg Value.bool hc35) ?_
                                                                            (try simp only [decide_eq_true_eq, decide_eq_false_iff_not, nrm_lt, nrm_nlt, nrm_eq, nrm_neq, nrm_seq, nrm_sneq, nrm_sempty, nrm_snempty, nrm_ofNat, Bool.not_eq_true', Bool.not_eq_false'] at hc35)
                                                                            refine Ce.seq ?_
                                                                            refine Ce.region ?_
                                                                            refine Ie.p rfl rfl rfl rfl ?_
                                                                            refine Ie.p rfl rfl rfl rfl ?_
                                                                            refine Ie.nil ?_
                                                                            refine Ne.seq ?_
                                                                            refine Ce.cond rfl (fun hc36 => ?_) (fun hc36 => ?_)
                                                                            · refine Ce.as 4 (.bool true) rfl (congrArg Value.bool hc36) ?_
                                                                              (try simp only [decide_eq_true_eq, decide_eq_false_iff_not, nrm_lt, nrm_nlt, nrm_eq, nrm_neq, nrm_seq, nrm_sneq, nrm_sempty, nrm_snempty, nrm_ofNat, Bool.not_eq_true', Bool.not_eq_false'] at hc36)
                                                                              refine Ce.skip ?_
                                                                              refine Ne.as 4 (.bool (decide (s.data.toList ∈ keyL))) rfl (congrArg Value.bool (by first | exact (eqB_mem (by assumption) (by decide +kernel)).symm | exact last_mem (by intro w hw; unfold keyL at hw; simp only [List.mem_cons, List.not_mem_nil, or_false] at hw; rcases hw with rfl | rfl | rfl | rfl | rfl | rfl | rfl | rfl | rfl | rfl | rfl | rfl | rfl | rfl | rfl | rfl | rfl | rfl | rfl | rfl | rfl | rfl | rfl | rfl | rfl | rfl | rfl | rfl | rfl | rfl | rfl | rfl | rfl | rfl | rfl | rfl | rfl | rfl | rfl | rfl | rfl <;> first | exact .inl rfl | exact .inr (by assumption)) (by decide +kernel))) ?_
                                                                              exact Ne.jnx (trivial) (by repeat (first | exact trivial | refine ⟨rfl, ?_⟩)) (List.Sublist.refl _)
                                                                            · refine Ce.as 4 (.bool false) rfl (congrArg Value.bool hc36) ?_
                                                                              (try simp only [decide_eq_true_eq, decide_eq_false_iff_not, nrm_lt, nrm_nlt, nrm_eq, nrm_neq, nrm_seq, nrm_sneq, nrm_sempty, nrm_snempty, nrm_ofNat, Bool.not_eq_true', Bool.not_eq_false'] at hc36)
                                                                              refine Ce.seq ?_
                                                                              refine Ce.region ?_
                                                                              refine Ie.p rfl rfl rfl rfl ?_
                                                                              refine Ie.p rfl rfl rfl rfl ?_
                                                                              refine Ie.nil ?_
                                                                              refine Ne.seq ?_
                                                                              refine Ce.cond rfl (fun hc37 => ?_) (fun hc37 => ?_)
                                                                              · refine Ce.as 4 (.bool true) rfl (congrArg Value.bool hc37) ?_
                                                                                (try simp only [decide_eq_true_eq, decide_eq_false_iff_not, nrm_lt, nrm_nlt, nrm_eq, nrm_neq, nrm_seq, nrm_sneq, nrm_sempty, nrm_snempty, nrm_ofNat, Bool.not_eq_true', Bool.not_eq_false'] at hc37)
                                                                                refine Ce.skip ?_
                                                                                refine Ne.as 4 (.bool (decide (s.data.toList ∈ keyL))) rfl (congrArg Value.bool (by first | exact (eqB_mem (by assumption) (by decide +kernel)).symm | exact last_mem (by intro w hw; unfold keyL at hw; simp only [List.mem_cons, List.not_mem_nil, or_false] at hw; rcases hw with rfl | rfl | rfl | rfl | rfl | rfl | rfl | rfl | rfl | rfl | rfl | rfl | rfl | rfl | rfl | rfl | rfl | rfl | rfl | rfl | rfl | rfl | rfl | rfl | rfl | rfl | rfl | rfl | rfl | rfl | rfl | rfl | rfl | rfl | rfl | rfl | rfl | rfl | rfl | rfl | rfl <;> first | exact .inl rfl | exact .inr (by assumption)) (by decide +kernel))) ?_
                                                                                exact Ne.jnx (trivial) (by repeat (first | exact trivial | refine ⟨rfl, ?_⟩)) (List.Sublist.refl _)
                                                                              · refine Ce.as 4 (.bool false) rfl (congrArg Value.bool hc37) ?_
                                                                                (try simp only [decide_eq_true_eq, decide_eq_false_iff_not, nrm_lt, nrm_nlt, nrm_eq, nrm_neq, nrm_seq, nrm_sneq, nrm_sempty, nrm_snempty, nrm_ofNat, Bool.not_eq_true', Bool.not_eq_false'] at hc37)
                                                                                refine Ce.seq ?_
                                                                                refine Ce.region ?_
                                                                                refine Ie.p rfl rfl rfl rfl ?_
                                                                                refine Ie.p rfl rfl rfl rfl ?_
                                                                                refine Ie.nil ?_
                                                                                refine Ne.seq ?_
                                                                                refine Ce.cond rfl (fun hc38 => ?_) (fun hc38 => ?_)
                                                                                · refine Ce.as 4 (.bool true) rfl (congrArg Value.bool hc38) ?_
                                                                                  (try simp only [decide_eq_true_eq, decide_eq_false_iff_not, nrm_lt, nrm_nlt, nrm_eq, nrm_neq, nrm_seq, nrm_sneq, nrm_sempty, nrm_snempty, nrm_ofNat, Bool.not_eq_true', Bool.not_eq_false'] at hc38)
                                                                                  refine Ce.skip ?_
                                                                                  refine Ne.as 4 (.bool (decide (s.data.toList ∈ keyL))) rfl (congrArg Value.bool (by first | exact (eqB_mem (by assumption) (by decide +kernel)).symm | exact last_mem (by intro w hw; unfold keyL at hw; simp only [List.mem_cons, List.not_mem_nil, or_false] at hw; rcases hw with rfl | rfl | rfl | rfl | rfl | rfl | rfl | rfl | rfl | rfl | rfl | rfl | rfl | rfl | rfl | rfl | rfl | rfl | rfl | rfl | rfl | rfl | rfl | rfl | rfl | rfl | rfl | rfl | rfl | rfl | rfl | rfl | rfl | rfl | rfl | rfl | rfl | rfl | rfl | rfl | rfl <;> first | exact .inl rfl | exact .inr (by assumption)) (by decide +kernel))) ?_
                                                                                  exact Ne.jnx (trivial) (by repeat (first | exact trivial | refine ⟨rfl, ?_⟩)) (List.Sublist.refl _)
                                                                                · refine Ce.as 4 (.bool false) rfl (congrArg Value.bool hc38) ?_
                                                                                  (try simp only [decide_eq_true_eq, decide_eq_false_iff_not, nrm_lt, nrm_nlt, nrm_eq, nrm_neq, nrm_seq, nrm_sneq, nrm_sempty, nrm_snempty, nrm_ofNat, Bool.not_eq_true', Bool.not_eq_false'] at hc38)
                                                                                  refine Ce.seq ?_
                                                                                  refine Ce.region ?_
                                                                                  refine Ie.p rfl rfl rfl rfl ?_
                                                                                  refine Ie.p rfl rfl rfl rfl ?_
                                                                                  refine Ie.nil ?_
                                                                                  refine Ne.seq ?_
                                                                                  refine Ce.cond rfl (fun hc39 => ?_) (fun hc39 => ?_)
                                                                                  · refine Ce.as 4 (.bool true) rfl (congrArg Value.bool hc39) ?_
                                                                                    (try simp only [decide_eq_true_eq, decide_eq_false_iff_not, nrm_lt, nrm_nlt, nrm_eq, nrm_neq, nrm_seq, nrm_sneq, nrm_sempty, nrm_snempty, nrm_ofNat, Bool.not_eq_true', Bool.not_eq_false'] at hc39)
                                                                                    refine Ce.skip ?_
                                                                                    refine Ne.as 4 (.bool (decide (s.data.toList ∈ keyL))) rfl (congrArg Value.bool (by first | exact (eqB_mem (by assumption) (by decide +kernel)).symm | exact last_mem (by intro w hw; unfold keyL at hw; simp only [List.mem_cons, List.not_mem_nil, or_false] at hw; rcases hw with rfl | rfl | rfl | rfl | rfl | rfl | rfl | rfl | rfl | rfl | rfl | rfl | rfl | rfl | rfl | rfl | rfl | rfl | rfl | rfl | rfl | rfl | rfl | rfl | rfl | rfl | rfl | rfl | rfl | rfl | rfl | rfl | rfl | rfl | rfl | rfl | rfl | rfl | rfl | rfl | rfl <;> first | exact .inl rfl | exact .inr (by assumption)) (by decide +kernel))) ?_
                                                                                    exact Ne.jnx (trivial) (by repeat (first | exact trivial | refine ⟨rfl, ?_⟩)) (List.Sublist.refl _)
                                                                                  · refine Ce.as 4 (.bool false) rfl (congrArg Value.bool hc39) ?_
                                                                                    (try simp only [decide_eq_true_eq, decide_eq_false_iff_not, nrm_lt, nrm_nlt, nrm_eq, nrm_neq, nrm_seq, nrm_sneq, nrm_sempty, nrm_snempty, nrm_ofNat, Bool.not_eq_true', Bool.not_eq_false'] at hc39)
                                                                                    refine Ce.region ?_
                                                                                    refine Ie.p rfl rfl rfl rfl ?_
                                                                                    refine Ie.p rfl rfl rfl rfl ?_
                                                                                    refine Ie.nil ?_
                                                                                    refine Ne.as 4 (.bool (decide (s.data.toList ∈ keyL))) rfl (congrArg Value.bool (by first | exact (eqB_mem (by assumption) (by decide +kernel)).symm | exact last_mem (by intro w hw; unfold keyL at hw; simp only [List.mem_cons, List.not_mem_nil, or_false] at hw; rcases hw with rfl | rfl | rfl | rfl | rfl | rfl | rfl | rfl | rfl | rfl | rfl | rfl | rfl | rfl | rfl | rfl | rfl | rfl | rfl | rfl | rfl | rfl | rfl | rfl | rfl | rfl | rfl | rfl | rfl | rfl | rfl | rfl | rfl | rfl | rfl | rfl | rfl | rfl | rfl | rfl | rfl <;> first | exact .inl rfl | exact .inr (by assumption)) (by decide +kernel))) ?_
                                                                                    exact Ne.jnx (trivial) (by repeat (first | exact trivial | refine ⟨rfl, ?_⟩)) (List.Sublist.refl _)
  · refine Ce.cond rfl (fun hc40 => ?_) (fun hc40 => ?_)
    · refine Ce.as 4 (.bool true) rfl (congrArg Value.bool hc40) ?_
      (try simp only [decide_eq_true_eq, decide_eq_false_iff_not, nrm_lt, nrm_nlt, nrm_eq, nrm_neq, nrm_seq, nrm_sneq, nrm_sempty, nrm_snempty, nrm_ofNat, Bool.not_eq_true', Bool.not_eq_false'] at hc40)
      refine Ce.seq ?_
      refine Ce.region ?_
      refine Ie.p rfl rfl rfl rfl ?_
      refine Ie.nil ?_
      refine Ne.seq ?_
      refine Ce.ret ?_
      refine Re.blk ?_
      refine Re.seq ?_
      exact Re.end_ rfl rfl (fun m hm => ⟨congrArg Value.bool (by first | exact (decide_eq_true (by assumption)).symm | exact (decide_eq_false (by assumption)).symm), hm.ext⟩)
    · refine Ce.as 4 (.bool false) rfl (congrArg Value.bool hc40) ?_
      (try simp only [decide_eq_true_eq, decide_eq_false_iff_not, nrm_lt, nrm_nlt, nrm_eq, nrm_neq, nrm_seq, nrm_sneq, nrm_sempty, nrm_snempty, nrm_ofNat, Bool.not_eq_true', Bool.not_eq_false'] at hc40)
      refine Ce.skip ?_
      refine Ne.blk ?_
      refine Ne.seq ?_
      refine Ce.seq ?_
      refine Ce.region ?_
      refine Ie.p rfl rfl rfl rfl ?_
      refine Ie.nil ?_
      refine Ne.seq ?_
      refine Ce.ret ?_
      exact Re.end_ rfl rfl (fun m hm => ⟨congrArg Value.bool (by first | exact (decide_eq_true (by assumption)).symm | exact (decide_eq_false (by assumption)).symm), hm.ext⟩)

set_option maxRecDepth 100000 in
theorem rSign_ok {s : ByteArray} {m : AW} (hm : m.lo ≤ m.next) : Fc Tryz.prog 10 [.string s] m fun v m' => v = .bool (decide (s.data.toList ∈ sgnL)) ∧ Ext m m' := by
  refine Fc.body (c := _) Tryz.func10 rfl rfl rfl rfl hm ?_
  refine Ce.seq ?_
  refine Ce.region ?_
  refine Ie.p rfl rfl rfl rfl ?_
  refine Ie.nil ?_
  refine Ne.seq ?_
  refine Ce.seq ?_
  refine Ce.seq ?_
  refine Ce.region ?_
  refine Ie.p rfl rfl rfl rfl ?_
  refine Ie.nil ?_
  refine Ne.seq ?_
  refine Ce.block ?_
  refine Ce.joinA (True) [(4, .bool (decide (s.data.toList ∈ sgnL)))] ?_ (fun _ => ?_)
  · refine Ce.seq ?_
    refine Ce.region ?_
    refine Ie.p rfl rfl rfl rfl ?_
    refine Ie.p rfl rfl rfl rfl ?_
    refine Ie.nil ?_
    refine Ne.seq ?_
    refine Ce.cond rfl (fun hc0 => ?_) (fun hc0 => ?_)
    · refine Ce.as 4 (.bool true) rfl (congrArg Value.bool hc0) ?_
      (try simp only [decide_eq_true_eq, decide_eq_false_iff_not, nrm_lt, nrm_nlt, nrm_eq, nrm_neq, nrm_seq, nrm_sneq, nrm_sempty, nrm_snempty, nrm_ofNat, Bool.not_eq_true', Bool.not_eq_false'] at hc0)
      refine Ce.skip ?_
      refine Ne.as 4 (.bool (decide (s.data.toList ∈ sgnL))) rfl (congrArg Value.bool (by first | exact (eqB_mem (by assumption) (by decide +kernel)).symm | exact last_mem (by intro w hw; unfold sgnL at hw; simp only [List.mem_cons, List.not_mem_nil, or_false] at hw; rcases hw with rfl | rfl | rfl | rfl | rfl | rfl | rfl | rfl | rfl | rfl | rfl | rfl | rfl | rfl | rfl | rfl | rfl | rfl | rfl | rfl | rfl | rfl | rfl | rfl | rfl | rfl | rfl | rfl | rfl | rfl | rfl | rfl | rfl | rfl | rfl | rfl | rfl | rfl | rfl | rfl | rfl | rfl | rfl | rfl | rfl | rfl | rfl | rfl | rfl <;> first | exact .inl rfl | exact .inr (by assumption)) (by decide +kernel))) ?_
      exact Ne.jnx (trivial) (by repeat (first | exact trivial | refine ⟨rfl, ?_⟩)) (List.Sublist.refl _)
    · refine Ce.as 4 (.bool false) rfl (congrArg Value.bool hc0) ?_
      (try simp only [decide_eq_true_eq, decide_eq_false_iff_not, nrm_lt, nrm_nlt, nrm_eq, nrm_neq, nrm_seq, nrm_sneq, nrm_sempty, nrm_snempty, nrm_ofNat, Bool.not_eq_true', Bool.not_eq_false'] at hc0)
      refine Ce.seq ?_
      refine Ce.region ?_
      refine Ie.p rfl rfl rfl rfl ?_
      refine Ie.p rfl rfl rfl rfl ?_
      refine Ie.nil ?_
      refine Ne.seq ?_
      refine Ce.cond rfl (fun hc1 => ?_) (fun hc1 => ?_)
      · refine Ce.as 4 (.bool true) rfl (congrArg Value.bool hc1) ?_
        (try simp only [decide_eq_true_eq, decide_eq_false_iff_not, nrm_lt, nrm_nlt, nrm_eq, nrm_neq, nrm_seq, nrm_sneq, nrm_sempty, nrm_snempty, nrm_ofNat, Bool.not_eq_true', Bool.not_eq_false'] at hc1)
        refine Ce.skip ?_
        refine Ne.as 4 (.bool (decide (s.data.toList ∈ sgnL))) rfl (congrArg Value.bool (by first | exact (eqB_mem (by assumption) (by decide +kernel)).symm | exact last_mem (by intro w hw; unfold sgnL at hw; simp only [List.mem_cons, List.not_mem_nil, or_false] at hw; rcases hw with rfl | rfl | rfl | rfl | rfl | rfl | rfl | rfl | rfl | rfl | rfl | rfl | rfl | rfl | rfl | rfl | rfl | rfl | rfl | rfl | rfl | rfl | rfl | rfl | rfl | rfl | rfl | rfl | rfl | rfl | rfl | rfl | rfl | rfl | rfl | rfl | rfl | rfl | rfl | rfl | rfl | rfl | rfl | rfl | rfl | rfl | rfl | rfl | rfl <;> first | exact .inl rfl | exact .inr (by assumption)) (by decide +kernel))) ?_
        exact Ne.jnx (trivial) (by repeat (first | exact trivial | refine ⟨rfl, ?_⟩)) (List.Sublist.refl _)
      · refine Ce.as 4 (.bool false) rfl (congrArg Value.bool hc1) ?_
        (try simp only [decide_eq_true_eq, decide_eq_false_iff_not, nrm_lt, nrm_nlt, nrm_eq, nrm_neq, nrm_seq, nrm_sneq, nrm_sempty, nrm_snempty, nrm_ofNat, Bool.not_eq_true', Bool.not_eq_false'] at hc1)
        refine Ce.seq ?_
        refine Ce.region ?_
        refine Ie.p rfl rfl rfl rfl ?_
        refine Ie.p rfl rfl rfl rfl ?_
        refine Ie.nil ?_
        refine Ne.seq ?_
        refine Ce.cond rfl (fun hc2 => ?_) (fun hc2 => ?_)
        · refine Ce.as 4 (.bool true) rfl (congrArg Value.bool hc2) ?_
          (try simp only [decide_eq_true_eq, decide_eq_false_iff_not, nrm_lt, nrm_nlt, nrm_eq, nrm_neq, nrm_seq, nrm_sneq, nrm_sempty, nrm_snempty, nrm_ofNat, Bool.not_eq_true', Bool.not_eq_false'] at hc2)
          refine Ce.skip ?_
          refine Ne.as 4 (.bool (decide (s.data.toList ∈ sgnL))) rfl (congrArg Value.bool (by first | exact (eqB_mem (by assumption) (by decide +kernel)).symm | exact last_mem (by intro w hw; unfold sgnL at hw; simp only [List.mem_cons, List.not_mem_nil, or_false] at hw; rcases hw with rfl | rfl | rfl | rfl | rfl | rfl | rfl | rfl | rfl | rfl | rfl | rfl | rfl | rfl | rfl | rfl | rfl | rfl | rfl | rfl | rfl | rfl | rfl | rfl | rfl | rfl | rfl | rfl | rfl | rfl | rfl | rfl | rfl | rfl | rfl | rfl | rfl | rfl | rfl | rfl | rfl | rfl | rfl | rfl | rfl | rfl | rfl | rfl | rfl <;> first | exact .inl rfl | exact .inr (by assumption)) (by decide +kernel))) ?_
          exact Ne.jnx (trivial) (by repeat (first | exact trivial | refine ⟨rfl, ?_⟩)) (List.Sublist.refl _)
        · refine Ce.as 4 (.bool false) rfl (congrArg Value.bool hc2) ?_
          (try simp only [decide_eq_true_eq, decide_eq_false_iff_not, nrm_lt, nrm_nlt, nrm_eq, nrm_neq, nrm_seq, nrm_sneq, nrm_sempty, nrm_snempty, nrm_ofNat, Bool.not_eq_true', Bool.not_eq_false'] at hc2)
          refine Ce.seq ?_
          refine Ce.region ?_
          refine Ie.p rfl rfl rfl rfl ?_
          refine Ie.p rfl rfl rfl rfl ?_
          refine Ie.nil ?_
          refine Ne.seq ?_
          refine Ce.cond rfl (fun hc3 => ?_) (fun hc3 => ?_)
          · refine Ce.as 4 (.bool true) rfl (congrArg Value.bool hc3) ?_
            (try simp only [decide_eq_true_eq, decide_eq_false_iff_not, nrm_lt, nrm_nlt, nrm_eq, nrm_neq, nrm_seq, nrm_sneq, nrm_sempty, nrm_snempty, nrm_ofNat, Bool.not_eq_true', Bool.not_eq_false'] at hc3)
            refine Ce.skip ?_
            refine Ne.as 4 (.bool (decide (s.data.toList ∈ sgnL))) rfl (congrArg Value.bool (by first | exact (eqB_mem (by assumption) (by decide +kernel)).symm | exact last_mem (by intro w hw; unfold sgnL at hw; simp only [List.mem_cons, List.not_mem_nil, or_false] at hw; rcases hw with rfl | rfl | rfl | rfl | rfl | rfl | rfl | rfl | rfl | rfl | rfl | rfl | rfl | rfl | rfl | rfl | rfl | rfl | rfl | rfl | rfl | rfl | rfl | rfl | rfl | rfl | rfl | rfl | rfl | rfl | rfl | rfl | rfl | rfl | rfl | rfl | rfl | rfl | rfl | rfl | rfl | rfl | rfl | rfl | rfl | rfl | rfl | rfl | rfl <;> first | exact .inl rfl | exact .inr (by assumption)) (by decide +kernel))) ?_
            exact Ne.jnx (trivial) (by repeat (first | exact trivial | refine ⟨rfl, ?_⟩)) (List.Sublist.refl _)
          · refine Ce.as 4 (.bool false) rfl (congrArg Value.bool hc3) ?_
            (try simp only [decide_eq_true_eq, decide_eq_false_iff_not, nrm_lt, nrm_nlt, nrm_eq, nrm_neq, nrm_seq, nrm_sneq, nrm_sempty, nrm_snempty, nrm_ofNat, Bool.not_eq_true', Bool.not_eq_false'] at hc3)
            refine Ce.seq ?_
            refine Ce.region ?_
            refine Ie.p rfl rfl rfl rfl ?_
            refine Ie.p rfl rfl rfl rfl ?_
            refine Ie.nil ?_
            refine Ne.seq ?_
            refine Ce.cond rfl (fun hc4 => ?_) (fun hc4 => ?_)
            · refine Ce.as 4 (.bool true) rfl (congrArg Value.bool hc4) ?_
              (try simp only [decide_eq_true_eq, decide_eq_false_iff_not, nrm_lt, nrm_nlt, nrm_eq, nrm_neq, nrm_seq, nrm_sneq, nrm_sempty, nrm_snempty, nrm_ofNat, Bool.not_eq_true', Bool.not_eq_false'] at hc4)
              refine Ce.skip ?_
              refine Ne.as 4 (.bool (decide (s.data.toList ∈ sgnL))) rfl (congrArg Value.bool (by first | exact (eqB_mem (by assumption) (by decide +kernel)).symm | exact last_mem (by intro w hw; unfold sgnL at hw; simp only [List.mem_cons, List.not_mem_nil, or_false] at hw; rcases hw with rfl | rfl | rfl | rfl | rfl | rfl | rfl | rfl | rfl | rfl | rfl | rfl | rfl | rfl | rfl | rfl | rfl | rfl | rfl | rfl | rfl | rfl | rfl | rfl | rfl | rfl | rfl | rfl | rfl | rfl | rfl | rfl | rfl | rfl | rfl | rfl | rfl | rfl | rfl | rfl | rfl | rfl | rfl | rfl | rfl | rfl | rfl | rfl | rfl <;> first | exact .inl rfl | exact .inr (by assumption)) (by decide +kernel))) ?_
              exact Ne.jnx (trivial) (by repeat (first | exact trivial | refine ⟨rfl, ?_⟩)) (List.Sublist.refl _)
            · refine Ce.as 4 (.bool false) rfl (congrArg Value.bool hc4) ?_
              (try simp only [decide_eq_true_eq, decide_eq_false_iff_not, nrm_lt, nrm_nlt, nrm_eq, nrm_neq, nrm_seq, nrm_sneq, nrm_sempty, nrm_snempty, nrm_ofNat, Bool.not_eq_true', Bool.not_eq_false'] at hc4)
              refine Ce.seq ?_
              refine Ce.region ?_
              refine Ie.p rfl rfl rfl rfl ?_
              refine Ie.p rfl rfl rfl rfl ?_
              refine Ie.nil ?_
              refine Ne.seq ?_
              refine Ce.cond rfl (fun hc5 => ?_) (fun hc5 => ?_)
              · refine Ce.as 4 (.bool true) rfl (congrArg Value.bool hc5) ?_
                (try simp only [decide_eq_true_eq, decide_eq_false_iff_not, nrm_lt, nrm_nlt, nrm_eq, nrm_neq, nrm_seq, nrm_sneq, nrm_sempty, nrm_snempty, nrm_ofNat, Bool.not_eq_true', Bool.not_eq_false'] at hc5)
                refine Ce.skip ?_
                refine Ne.as 4 (.bool (decide (s.data.toList ∈ sgnL))) rfl (congrArg Value.bool (by first | exact (eqB_mem (by assumption) (by decide +kernel)).symm | exact last_mem (by intro w hw; unfold sgnL at hw; simp only [List.mem_cons, List.not_mem_nil, or_false] at hw; rcases hw with rfl | rfl | rfl | rfl | rfl | rfl | rfl | rfl | rfl | rfl | rfl | rfl | rfl | rfl | rfl | rfl | rfl | rfl | rfl | rfl | rfl | rfl | rfl | rfl | rfl | rfl | rfl | rfl | rfl | rfl | rfl | rfl | rfl | rfl | rfl | rfl | rfl | rfl | rfl | rfl | rfl | rfl | rfl | rfl | rfl | rfl | rfl | rfl | rfl <;> first | exact .inl rfl | exact .inr (by assumption)) (by decide +kernel))) ?_
                exact Ne.jnx (trivial) (by repeat (first | exact trivial | refine ⟨rfl, ?_⟩)) (List.Sublist.refl _)
              · refine Ce.as 4 (.bool false) rfl (congrArg Value.bool hc5) ?_
                (try simp only [decide_eq_true_eq, decide_eq_false_iff_not, nrm_lt, nrm_nlt, nrm_eq, nrm_neq, nrm_seq, nrm_sneq, nrm_sempty, nrm_snempty, nrm_ofNat, Bool.not_eq_true', Bool.not_eq_false'] at hc5)
                refine Ce.seq ?_
                refine Ce.region ?_
                refine Ie.p rfl rfl rfl rfl ?_
                refine Ie.p rfl rfl rfl rfl ?_
                refine Ie.nil ?_
                refine Ne.seq ?_
                refine Ce.cond rfl (fun hc6 => ?_) (fun hc6 => ?_)
                · refine Ce.as 4 (.bool true) rfl (congrArg Value.bool hc6) ?_
                  (try simp only [decide_eq_true_eq, decide_eq_false_iff_not, nrm_lt, nrm_nlt, nrm_eq, nrm_neq, nrm_seq, nrm_sneq, nrm_sempty, nrm_snempty, nrm_ofNat, Bool.not_eq_true', Bool.not_eq_false'] at hc6)
                  refine Ce.skip ?_
                  refine Ne.as 4 (.bool (decide (s.data.toList ∈ sgnL))) rfl (congrArg Value.bool (by first | exact (eqB_mem (by assumption) (by decide +kernel)).symm | exact last_mem (by intro w hw; unfold sgnL at hw; simp only [List.mem_cons, List.not_mem_nil, or_false] at hw; rcases hw with rfl | rfl | rfl | rfl | rfl | rfl | rfl | rfl | rfl | rfl | rfl | rfl | rfl | rfl | rfl | rfl | rfl | rfl | rfl | rfl | rfl | rfl | rfl | rfl | rfl | rfl | rfl | rfl | rfl | rfl | rfl | rfl | rfl | rfl | rfl | rfl | rfl | rfl | rfl | rfl | rfl | rfl | rfl | rfl | rfl | rfl | rfl | rfl | rfl <;> first | exact .inl rfl | exact .inr (by assumption)) (by decide +kernel))) ?_
                  exact Ne.jnx (trivial) (by repeat (first | exact trivial | refine ⟨rfl, ?_⟩)) (List.Sublist.refl _)
                · refine Ce.as 4 (.bool false) rfl (congrArg Value.bool hc6) ?_
                  (try simp only [decide_eq_true_eq, decide_eq_false_iff_not, nrm_lt, nrm_nlt, nrm_eq, nrm_neq, nrm_seq, nrm_sneq, nrm_sempty, nrm_snempty, nrm_ofNat, Bool.not_eq_true', Bool.not_eq_false'] at hc6)
                  refine Ce.seq ?_
                  refine Ce.region ?_
                  refine Ie.p rfl rfl rfl rfl ?_
                  refine Ie.p rfl rfl rfl rfl ?_
                  refine Ie.nil ?_
                  refine Ne.seq ?_
                  refine Ce.cond rfl (fun hc7 => ?_) (fun hc7 => ?_)
                  · refine Ce.as 4 (.bool true) rfl (congrArg Value.bool hc7) ?_
                    (try simp only [decide_eq_true_eq, decide_eq_false_iff_not, nrm_lt, nrm_nlt, nrm_eq, nrm_neq, nrm_seq, nrm_sneq, nrm_sempty, nrm_snempty, nrm_ofNat, Bool.not_eq_true', Bool.not_eq_false'] at hc7)
                    refine Ce.skip ?_
                    refine Ne.as 4 (.bool (decide (s.data.toList ∈ sgnL))) rfl (congrArg Value.bool (by first | exact (eqB_mem (by assumption) (by decide +kernel)).symm | exact last_mem (by intro w hw; unfold sgnL at hw; simp only [List.mem_cons, List.not_mem_nil, or_false] at hw; rcases hw with rfl | rfl | rfl | rfl | rfl | rfl | rfl | rfl | rfl | rfl | rfl | rfl | rfl | rfl | rfl | rfl | rfl | rfl | rfl | rfl | rfl | rfl | rfl | rfl | rfl | rfl | rfl | rfl | rfl | rfl | rfl | rfl | rfl | rfl | rfl | rfl | rfl | rfl | rfl | rfl | rfl | rfl | rfl | rfl | rfl | rfl | rfl | rfl | rfl <;> first | exact .inl rfl | exact .inr (by assumption)) (by decide +kernel))) ?_
                    exact Ne.jnx (trivial) (by repeat (first | exact trivial | refine ⟨rfl, ?_⟩)) (List.Sublist.refl _)
                  · refine Ce.as 4 (.bool false) rfl (congrArg Value.bool hc7) ?_
                    (try simp only [decide_eq_true_eq, decide_eq_false_iff_not, nrm_lt, nrm_nlt, nrm_eq, nrm_neq, nrm_seq, nrm_sneq, nrm_sempty, nrm_snempty, nrm_ofNat, Bool.not_eq_true', Bool.not_eq_false'] at hc7)
                    refine Ce.seq ?_
                    refine Ce.region ?_
                    refine Ie.p rfl rfl rfl rfl ?_
                    refine Ie.p rfl rfl rfl rfl ?_
                    refine Ie.nil ?_
                    refine Ne.seq ?_
                    refine Ce.cond rfl (fun hc8 => ?_) (fun hc8 => ?_)
                    · refine Ce.as 4 (.bool true) rfl (congrArg Value.bool hc8) ?_
                      (try simp only [decide_eq_true_eq, decide_eq_false_iff_not, nrm_lt, nrm_nlt, nrm_eq, nrm_neq, nrm_seq, nrm_sneq, nrm_sempty, nrm_snempty, nrm_ofNat, Bool.not_eq_true', Bool.not_eq_false'] at hc8)
                      refine Ce.skip ?_
                      refine Ne.as 4 (.bool (decide (s.data.toList ∈ sgnL))) rfl (congrArg Value.bool (by first | exact (eqB_mem (by assumption) (by decide +kernel)).symm | exact last_mem (by intro w hw; unfold sgnL at hw; simp only [List.mem_cons, List.not_mem_nil, or_false] at hw; rcases hw with rfl | rfl | rfl | rfl | rfl | rfl | rfl | rfl | rfl | rfl | rfl | rfl | rfl | rfl | rfl | rfl | rfl | rfl | rfl | rfl | rfl | rfl | rfl | rfl | rfl | rfl | rfl | rfl | rfl | rfl | rfl | rfl | rfl | rfl | rfl | rfl | rfl | rfl | rfl | rfl | rfl | rfl | rfl | rfl | rfl | rfl | rfl | rfl | rfl <;> first | exact .inl rfl | exact .inr (by assumption)) (by decide +kernel))) ?_
                      exact Ne.jnx (trivial) (by repeat (first | exact trivial | refine ⟨rfl, ?_⟩)) (List.Sublist.refl _)
                    · refine Ce.as 4 (.bool false) rfl (congrArg Value.bool hc8) ?_
                      (try simp only [decide_eq_true_eq, decide_eq_false_iff_not, nrm_lt, nrm_nlt, nrm_eq, nrm_neq, nrm_seq, nrm_sneq, nrm_sempty, nrm_snempty, nrm_ofNat, Bool.not_eq_true', Bool.not_eq_false'] at hc8)
                      refine Ce.seq ?_
                      refine Ce.region ?_
                      refine Ie.p rfl rfl rfl rfl ?_
                      refine Ie.p rfl rfl rfl rfl ?_
                      refine Ie.nil ?_
                      refine Ne.seq ?_
                      refine Ce.cond rfl (fun hc9 => ?_) (fun hc9 => ?_)
                      · refine Ce.as 4 (.bool true) rfl (congrArg Value.bool hc9) ?_
                        (try simp only [decide_eq_true_eq, decide_eq_false_iff_not, nrm_lt, nrm_nlt, nrm_eq, nrm_neq, nrm_seq, nrm_sneq, nrm_sempty, nrm_snempty, nrm_ofNat, Bool.not_eq_true', Bool.not_eq_false'] at hc9)
                        refine Ce.skip ?_
                        refine Ne.as 4 (.bool (decide (s.data.toList ∈ sgnL))) rfl (congrArg Value.bool (by first | exact (eqB_mem (by assumption) (by decide +kernel)).symm | exact last_mem (by intro w hw; unfold sgnL at hw; simp only [List.mem_cons, List.not_mem_nil, or_false] at hw; rcases hw with rfl | rfl | rfl | rfl | rfl | rfl | rfl | rfl | rfl | rfl | rfl | rfl | rfl | rfl | rfl | rfl | rfl | rfl | rfl | rfl | rfl | rfl | rfl | rfl | rfl | rfl | rfl | rfl | rfl | rfl | rfl | rfl | rfl | rfl | rfl | rfl | rfl | rfl | rfl | rfl | rfl | rfl | rfl | rfl | rfl | rfl | rfl | rfl | rfl <;> first | exact .inl rfl | exact .inr (by assumption)) (by decide +kernel))) ?_
                        exact Ne.jnx (trivial) (by repeat (first | exact trivial | refine ⟨rfl, ?_⟩)) (List.Sublist.refl _)
                      · refine Ce.as 4 (.bool false) rfl (congrArg Value.bool hc9) ?_
                        (try simp only [decide_eq_true_eq, decide_eq_false_iff_not, nrm_lt, nrm_nlt, nrm_eq, nrm_neq, nrm_seq, nrm_sneq, nrm_sempty, nrm_snempty, nrm_ofNat, Bool.not_eq_true', Bool.not_eq_false'] at hc9)
                        refine Ce.seq ?_
                        refine Ce.region ?_
                        refine Ie.p rfl rfl rfl rfl ?_
                        refine Ie.p rfl rfl rfl rfl ?_
                        refine Ie.nil ?_
                        refine Ne.seq ?_
                        refine Ce.cond rfl (fun hc10 => ?_) (fun hc10 => ?_)
                        · refine Ce.as 4 (.bool true) rfl (congrArg Value.bool hc10) ?_
                          (try simp only [decide_eq_true_eq, decide_eq_false_iff_not, nrm_lt, nrm_nlt, nrm_eq, nrm_neq, nrm_seq, nrm_sneq, nrm_sempty, nrm_snempty, nrm_ofNat, Bool.not_eq_true', Bool.not_eq_false'] at hc10)
                          refine Ce.skip ?_
                          refine Ne.as 4 (.bool (decide (s.data.toList ∈ sgnL))) rfl (congrArg Value.bool (by first | exact (eqB_mem (by assumption) (by decide +kernel)).symm | exact last_mem (by intro w hw; unfold sgnL at hw; simp only [List.mem_cons, List.not_mem_nil, or_false] at hw; rcases hw with rfl | rfl | rfl | rfl | rfl | rfl | rfl | rfl | rfl | rfl | rfl | rfl | rfl | rfl | rfl | rfl | rfl | rfl | rfl | rfl | rfl | rfl | rfl | rfl | rfl | rfl | rfl | rfl | rfl | rfl | rfl | rfl | rfl | rfl | rfl | rfl | rfl | rfl | rfl | rfl | rfl | rfl | rfl | rfl | rfl | rfl | rfl | rfl | rfl <;> first | exact .inl rfl | exact .inr (by assumption)) (by decide +kernel))) ?_
                          exact Ne.jnx (trivial) (by repeat (first | exact trivial | refine ⟨rfl, ?_⟩)) (List.Sublist.refl _)
                        · refine Ce.as 4 (.bool false) rfl (congrArg Value.bool hc10) ?_
                          (try simp only [decide_eq_true_eq, decide_eq_false_iff_not, nrm_lt, nrm_nlt, nrm_eq, nrm_neq, nrm_seq, nrm_sneq, nrm_sempty, nrm_snempty, nrm_ofNat, Bool.not_eq_true', Bool.not_eq_false'] at hc10)
                          refine Ce.seq ?_
                          refine Ce.region ?_
                          refine Ie.p rfl rfl rfl rfl ?_
                          refine Ie.p rfl rfl rfl rfl ?_
                          refine Ie.nil ?_
                          refine Ne.seq ?_
                          refine Ce.cond rfl (fun hc11 => ?_) (fun hc11 => ?_)
                          · refine Ce.as 4 (.bool true) rfl (congrArg Value.bool hc11) ?_
                            (try simp only [decide_eq_true_eq, decide_eq_false_iff_not, nrm_lt, nrm_nlt, nrm_eq, nrm_neq, nrm_seq, nrm_sneq, nrm_sempty, nrm_snempty, nrm_ofNat, Bool.not_eq_true', Bool.not_eq_false'] at hc11)
                            refine Ce.skip ?_
                            refine Ne.as 4 (.bool (decide (s.data.toList ∈ sgnL))) rfl (congrArg Value.bool (by first | exact (eqB_mem (by assumption) (by decide +kernel)).symm | exact last_mem (by intro w hw; unfold sgnL at hw; simp only [List.mem_cons, List.not_mem_nil, or_false] at hw; rcases hw with rfl | rfl | rfl | rfl | rfl | rfl | rfl | rfl | rfl | rfl | rfl | rfl | rfl | rfl | rfl | rfl | rfl | rfl | rfl | rfl | rfl | rfl | rfl | rfl | rfl | rfl | rfl | rfl | rfl | rfl | rfl | rfl | rfl | rfl | rfl | rfl | rfl | rfl | rfl | rfl | rfl | rfl | rfl | rfl | rfl | rfl | rfl | rfl | rfl <;> first | exact .inl rfl | exact .inr (by assumption)) (by decide +kernel))) ?_
                            exact Ne.jnx (trivial) (by repeat (first | exact trivial | refine ⟨rfl, ?_⟩)) (List.Sublist.refl _)
                          · refine Ce.as 4 (.bool false) rfl (congrArg Value.bool hc11) ?_
                            (try simp only [decide_eq_true_eq, decide_eq_false_iff_not, nrm_lt, nrm_nlt, nrm_eq, nrm_neq, nrm_seq, nrm_sneq, nrm_sempty, nrm_snempty, nrm_ofNat, Bool.not_eq_true', Bool.not_eq_false'] at hc11)
                            refine Ce.seq ?_
                            refine Ce.region ?_
                            refine Ie.p rfl rfl rfl rfl ?_
                            refine Ie.p rfl rfl rfl rfl ?_
                            refine Ie.nil ?_
                            refine Ne.seq ?_
                            refine Ce.cond rfl (fun hc12 => ?_) (fun hc12 => ?_)
                            · refine Ce.as 4 (.bool true) rfl (congrArg Value.bool hc12) ?_
                              (try simp only [decide_eq_true_eq, decide_eq_false_iff_not, nrm_lt, nrm_nlt, nrm_eq, nrm_neq, nrm_seq, nrm_sneq, nrm_sempty, nrm_snempty, nrm_ofNat, Bool.not_eq_true', Bool.not_eq_false'] at hc12)
                              refine Ce.skip ?_
                              refine Ne.as 4 (.bool (decide (s.data.toList ∈ sgnL))) rfl (congrArg Value.bool (by first | exact (eqB_mem (by assumption) (by decide +kernel)).symm | exact last_mem (by intro w hw; unfold sgnL at hw; simp only [List.mem_cons, List.not_mem_nil, or_false] at hw; rcases hw with rfl | rfl | rfl | rfl | rfl | rfl | rfl | rfl | rfl | rfl | rfl | rfl | rfl | rfl | rfl | rfl | rfl | rfl | rfl | rfl | rfl | rfl | rfl | rfl | rfl | rfl | rfl | rfl | rfl | rfl | rfl | rfl | rfl | rfl | rfl | rfl | rfl | rfl | rfl | rfl | rfl | rfl | rfl | rfl | rfl | rfl | rfl | rfl | rfl <;> first | exact .inl rfl | exact .inr (by assumption)) (by decide +kernel))) ?_
                              exact Ne.jnx (trivial) (by repeat (first | exact trivial | refine ⟨rfl, ?_⟩)) (List.Sublist.refl _)
                            · refine Ce.as 4 (.bool false) rfl (congrArg Value.bool hc12) ?_
                              (try simp only [decide_eq_true_eq, decide_eq_false_iff_not, nrm_lt, nrm_nlt, nrm_eq, nrm_neq, nrm_seq, nrm_sneq, nrm_sempty, nrm_snempty, nrm_ofNat, Bool.not_eq_true', Bool.not_eq_false'] at hc12)
                              refine Ce.seq ?_
                              refine Ce.region ?_
                              refine Ie.p rfl rfl rfl rfl ?_
                              refine Ie.p rfl rfl rfl rfl ?_
                              refine Ie.nil ?_
                              refine Ne.seq ?_
                              refine Ce.cond rfl (fun hc13 => ?_) (fun hc13 => ?_)
                              · refine Ce.as 4 (.bool true) rfl (congrArg Value.bool hc13) ?_
                                (try simp only [decide_eq_true_eq, decide_eq_false_iff_not, nrm_lt, nrm_nlt, nrm_eq, nrm_neq, nrm_seq, nrm_sneq, nrm_sempty, nrm_snempty, nrm_ofNat, Bool.not_eq_true', Bool.not_eq_false'] at hc13)
                                refine Ce.skip ?_
                                refine Ne.as 4 (.bool (decide (s.data.toList ∈ sgnL))) rfl (congrArg Value.bool (by first | exact (eqB_mem (by assumption) (by decide +kernel)).symm | exact last_mem (by intro w hw; unfold sgnL at hw; simp only [List.mem_cons, List.not_mem_nil, or_false] at hw; rcases hw with rfl | rfl | rfl | rfl | rfl | rfl | rfl | rfl | rfl | rfl | rfl | rfl | rfl | rfl | rfl | rfl | rfl | rfl | rfl | rfl | rfl | rfl | rfl | rfl | rfl | rfl | rfl | rfl | rfl | rfl | rfl | rfl | rfl | rfl | rfl | rfl | rfl | rfl | rfl | rfl | rfl | rfl | rfl | rfl | rfl | rfl | rfl | rfl | rfl <;> first | exact .inl rfl | exact .inr (by assumption)) (by decide +kernel))) ?_
                                exact Ne.jnx (trivial) (by repeat (first | exact trivial | refine ⟨rfl, ?_⟩)) (List.Sublist.refl _)
                              · refine Ce.as 4 (.bool false) rfl (congrArg Value.bool hc13) ?_
                                (try simp only [decide_eq_true_eq, decide_eq_false_iff_not, nrm_lt, nrm_nlt, nrm_eq, nrm_neq, nrm_seq, nrm_sneq, nrm_sempty, nrm_snempty, nrm_ofNat, Bool.not_eq_true', Bool.not_eq_false'] at hc13)
                                refine Ce.seq ?_
                                refine Ce.region ?_
                                refine Ie.p rfl rfl rfl rfl ?_
                                refine Ie.p rfl rfl rfl rfl ?_
                                refine Ie.nil ?_
                                refine Ne.seq ?_
                                refine Ce.cond rfl (fun hc14 => ?_) (fun hc14 => ?_)
                                · refine Ce.as 4 (.bool true) rfl (congrArg Value.bool hc14) ?_
                                  (try simp only [decide_eq_true_eq, decide_eq_false_iff_not, nrm_lt, nrm_nlt, nrm_eq, nrm_neq, nrm_seq, nrm_sneq, nrm_sempty, nrm_snempty, nrm_ofNat, Bool.not_eq_true', Bool.not_eq_false'] at hc14)
                                  refine Ce.skip ?_
                                  refine Ne.as 4 (.bool (decide (s.data.toList ∈ sgnL))) rfl (congrArg Value.bool (by first | exact (eqB_mem (by assumption) (by decide +kernel)).symm | exact last_mem (by intro w hw; unfold sgnL at hw; simp only [List.mem_cons, List.not_mem_nil, or_false] at hw; rcases hw with rfl | rfl | rfl | rfl | rfl | rfl | rfl | rfl | rfl | rfl | rfl | rfl | rfl | rfl | rfl | rfl | rfl | rfl | rfl | rfl | rfl | rfl | rfl | rfl | rfl | rfl | rfl | rfl | rfl | rfl | rfl | rfl | rfl | rfl | rfl | rfl | rfl | rfl | rfl | rfl | rfl | rfl | rfl | rfl | rfl | rfl | rfl | rfl | rfl <;> first | exact .inl rfl | exact .inr (by assumption)) (by decide +kernel))) ?_
                                  exact Ne.jnx (trivial) (by repeat (first | exact trivial | refine ⟨rfl, ?_⟩)) (List.Sublist.refl _)
                                · refine Ce.as 4 (.bool false) rfl (congrArg Value.bool hc14) ?_
                                  (try simp only [decide_eq_true_eq, decide_eq_false_iff_not, nrm_lt, nrm_nlt, nrm_eq, nrm_neq, nrm_seq, nrm_sneq, nrm_sempty, nrm_snempty, nrm_ofNat, Bool.not_eq_true', Bool.not_eq_false'] at hc14)
                                  refine Ce.seq ?_
                                  refine Ce.region ?_
                                  refine Ie.p rfl rfl rfl rfl ?_
                                  refine Ie.p rfl rfl rfl rfl ?_
                                  refine Ie.nil ?_
                                  refine Ne.seq ?_
                                  refine Ce.cond rfl (fun hc15 => ?_) (fun hc15 => ?_)
                                  · refine Ce.as 4 (.bool true) rfl (congrArg Value.bool hc15) ?_
                                    (try simp only [decide_eq_true_eq, decide_eq_false_iff_not, nrm_lt, nrm_nlt, nrm_eq, nrm_neq, nrm_seq, nrm_sneq, nrm_sempty, nrm_snempty, nrm_ofNat, Bool.not_eq_true', Bool.not_eq_false'] at hc15)
                                    refine Ce.skip ?_
                                    refine Ne.as 4 (.bool (decide (s.data.toList ∈ sgnL))) rfl (congrArg Value.bool (by first | exact (eqB_mem (by assumption) (by decide +kernel)).symm | exact last_mem (by intro w hw; unfold sgnL at hw; simp only [List.mem_cons, List.not_mem_nil, or_false] at hw; rcases hw with rfl | rfl | rfl | rfl | rfl | rfl | rfl | rfl | rfl | rfl | rfl | rfl | rfl | rfl | rfl | rfl | rfl | rfl | rfl | rfl | rfl | rfl | rfl | rfl | rfl | rfl | rfl | rfl | rfl | rfl | rfl | rfl | rfl | rfl | rfl | rfl | rfl | rfl | rfl | rfl | rfl | rfl | rfl | rfl | rfl | rfl | rfl | rfl | rfl <;> first | exact .inl rfl | exact .inr (by assumption)) (by decide +kernel))) ?_
                                    exact Ne.jnx (trivial) (by repeat (first | exact trivial | refine ⟨rfl, ?_⟩)) (List.Sublist.refl _)
                                  · refine Ce.as 4 (.bool false) rfl (congrArg Value.bool hc15) ?_
                                    (try simp only [decide_eq_true_eq, decide_eq_false_iff_not, nrm_lt, nrm_nlt, nrm_eq, nrm_neq, nrm_seq, nrm_sneq, nrm_sempty, nrm_snempty, nrm_ofNat, Bool.not_eq_true', Bool.not_eq_false'] at hc15)
                                    refine Ce.seq ?_
                                    refine Ce.region ?_
                                    refine Ie.p rfl rfl rfl rfl ?_
                                    refine Ie.p rfl rfl rfl rfl ?_
                                    refine Ie.nil ?_
                                    refine Ne.seq ?_
                                    refine Ce.cond rfl (fun hc16 => ?_) (fun hc16 => ?_)
                                    · refine Ce.as 4 (.bool true) rfl (congrArg Value.bool hc16) ?_
                                      (try simp only [decide_eq_true_eq, decide_eq_false_iff_not, nrm_lt, nrm_nlt, nrm_eq, nrm_neq, nrm_seq, nrm_sneq, nrm_sempty, nrm_snempty, nrm_ofNat, Bool.not_eq_true', Bool.not_eq_false'] at hc16)
                                      refine Ce.skip ?_
                                      refine Ne.as 4 (.bool (decide (s.data.toList ∈ sgnL))) rfl (congrArg Value.bool (by first | exact (eqB_mem (by assumption) (by decide +kernel)).symm | exact last_mem (by intro w hw; unfold sgnL at hw; simp only [List.mem_cons, List.not_mem_nil, or_false] at hw; rcases hw with rfl | rfl | rfl | rfl | rfl | rfl | rfl | rfl | rfl | rfl | rfl | rfl | rfl | rfl | rfl | rfl | rfl | rfl | rfl | rfl | rfl | rfl | rfl | rfl | rfl | rfl | rfl | rfl | rfl | rfl | rfl | rfl | rfl | rfl | rfl | rfl | rfl | rfl | rfl | rfl | rfl | rfl | rfl | rfl | rfl | rfl | rfl | rfl | rfl <;> first | exact .inl rfl | exact .inr (by assumption)) (by decide +kernel))) ?_
                                      exact Ne.jnx (trivial) (by repeat (first | exact trivial | refine ⟨rfl, ?_⟩)) (List.Sublist.refl _)
                                    · refine Ce.as 4 (.bool false) rfl (congrArg Value.bool hc16) ?_
                                      (try simp only [decide_eq_true_eq, decide_eq_false_iff_not, nrm_lt, nrm_nlt, nrm_eq, nrm_neq, nrm_seq, nrm_sneq, nrm_sempty, nrm_snempty, nrm_ofNat, Bool.not_eq_true', Bool.not_eq_false'] at hc16)
                                      refine Ce.seq ?_
                                      refine Ce.region ?_
                                      refine Ie.p rfl rfl rfl rfl ?_
                                      refine Ie.p rfl rfl rfl rfl ?_
                                      refine Ie.nil ?_
                                      refine Ne.seq ?_
                                      refine Ce.cond rfl (fun hc17 => ?_) (fun hc17 => ?_)
                                      · refine Ce.as 4 (.bool true) rfl (congrArg Value.bool hc17) ?_
                                        (try simp only [decide_eq_true_eq, decide_eq_false_iff_not, nrm_lt, nrm_nlt, nrm_eq, nrm_neq, nrm_seq, nrm_sneq, nrm_sempty, nrm_snempty, nrm_ofNat, Bool.not_eq_true', Bool.not_eq_false'] at hc17)
                                        refine Ce.skip ?_
                                        refine Ne.as 4 (.bool (decide (s.data.toList ∈ sgnL))) rfl (congrArg Value.bool (by first | exact (eqB_mem (by assumption) (by decide +kernel)).symm | exact last_mem (by intro w hw; unfold sgnL at hw; simp only [List.mem_cons, List.not_mem_nil, or_false] at hw; rcases hw with rfl | rfl | rfl | rfl | rfl | rfl | rfl | rfl | rfl | rfl | rfl | rfl | rfl | rfl | rfl | rfl | rfl | rfl | rfl | rfl | rfl | rfl | rfl | rfl | rfl | rfl | rfl | rfl | rfl | rfl | rfl | rfl | rfl | rfl | rfl | rfl | rfl | rfl | rfl | rfl | rfl | rfl | rfl | rfl | rfl | rfl | rfl | rfl | rfl <;> first | exact .inl rfl | exact .inr (by assumption)) (by decide +kernel))) ?_
                                        exact Ne.jnx (trivial) (by repeat (first | exact trivial | refine ⟨rfl, ?_⟩)) (List.Sublist.refl _)
                                      · refine Ce.as 4 (.bool false) rfl (congrArg Value.bool hc17) ?_
                                        (try simp only [decide_eq_true_eq, decide_eq_false_iff_not, nrm_lt, nrm_nlt, nrm_eq, nrm_neq, nrm_seq, nrm_sneq, nrm_sempty, nrm_snempty, nrm_ofNat, Bool.not_eq_true', Bool.not_eq_false'] at hc17)
                                        refine Ce.seq ?_
                                        refine Ce.region ?_
                                        refine Ie.p rfl rfl rfl rfl ?_
                                        refine Ie.p rfl rfl rfl rfl ?_
                                        refine Ie.nil ?_
                                        refine Ne.seq ?_
                                        refine Ce.cond rfl (fun hc18 => ?_) (fun hc18 => ?_)
                                        · refine Ce.as 4 (.bool true) rfl (congrArg Value.bool hc18) ?_
                                          (try simp only [decide_eq_true_eq, decide_eq_false_iff_not, nrm_lt, nrm_nlt, nrm_eq, nrm_neq, nrm_seq, nrm_sneq, nrm_sempty, nrm_snempty, nrm_ofNat, Bool.not_eq_true', Bool.not_eq_false'] at hc18)
                                          refine Ce.skip ?_
                                          refine Ne.as 4 (.bool (decide (s.data.toList ∈ sgnL))) rfl (congrArg Value.bool (by first | exact (eqB_mem (by assumption) (by decide +kernel)).symm | exact last_mem (by intro w hw; unfold sgnL at hw; simp only [List.mem_cons, List.not_mem_nil, or_false] at hw; rcases hw with rfl | rfl | rfl | rfl | rfl | rfl | rfl | rfl | rfl | rfl | rfl | rfl | rfl | rfl | rfl | rfl | rfl | rfl | rfl | rfl | rfl | rfl | rfl | rfl | rfl | rfl | rfl | rfl | rfl | rfl | rfl | rfl | rfl | rfl | rfl | rfl | rfl | rfl | rfl | rfl | rfl | rfl | rfl | rfl | rfl | rfl | rfl | rfl | rfl <;> first | exact .inl rfl | exact .inr (by assumption)) (by decide +kernel))) ?_
                                          exact Ne.jnx (trivial) (by repeat (first | exact trivial | refine ⟨rfl, ?_⟩)) (List.Sublist.refl _)
                                        · refine Ce.as 4 (.bool false) rfl (congrArg Value.bool hc18) ?_
                                          (try simp only [decide_eq_true_eq, decide_eq_false_iff_not, nrm_lt, nrm_nlt, nrm_eq, nrm_neq, nrm_seq, nrm_sneq, nrm_sempty, nrm_snempty, nrm_ofNat, Bool.not_eq_true', Bool.not_eq_false'] at hc18)
                                          refine Ce.seq ?_
                                          refine Ce.region ?_
                                          refine Ie.p rfl rfl rfl rfl ?_
                                          refine Ie.p rfl rfl rfl rfl ?_
                                          refine Ie.nil ?_
                                          refine Ne.seq ?_
                                          refine Ce.cond rfl (fun hc19 => ?_) (fun hc19 => ?_)
                                          · refine Ce.as 4 (.bool true) rfl (congrArg Value.bool hc19) ?_
                                            (try simp only [decide_eq_true_eq, decide_eq_false_iff_not, nrm_lt, nrm_nlt, nrm_eq, nrm_neq, nrm_seq, nrm_sneq, nrm_sempty, nrm_snempty, nrm_ofNat, Bool.not_eq_true', Bool.not_eq_false'] at hc19)
                                            refine Ce.skip ?_
                                            refine Ne.as 4 (.bool (decide (s.data.toList ∈ sgnL))) rfl (congrArg Value.bool (by first | exact (eqB_mem (by assumption) (by decide +kernel)).symm | exact last_mem (by intro w hw; unfold sgnL at hw; simp only [List.mem_cons, List.not_mem_nil, or_false] at hw; rcases hw with rfl | rfl | rfl | rfl | rfl | rfl | rfl | rfl | rfl | rfl | rfl | rfl | rfl | rfl | rfl | rfl | rfl | rfl | rfl | rfl | rfl | rfl | rfl | rfl | rfl | rfl | rfl | rfl | rfl | rfl | rfl | rfl | rfl | rfl | rfl | rfl | rfl | rfl | rfl | rfl | rfl | rfl | rfl | rfl | rfl | rfl | rfl | rfl | rfl <;> first | exact .inl rfl | exact .inr (by assumption)) (by decide +kernel))) ?_
                                            exact Ne.jnx (trivial) (by repeat (first | exact trivial | refine ⟨rfl, ?_⟩)) (List.Sublist.refl _)
                                          · refine Ce.as 4 (.bool false) rfl (congrArg Value.bool hc19) ?_
                                            (try simp only [decide_eq_true_eq, decide_eq_false_iff_not, nrm_lt, nrm_nlt, nrm_eq, nrm_neq, nrm_seq, nrm_sneq, nrm_sempty, nrm_snempty, nrm_ofNat, Bool.not_eq_true', Bool.not_eq_false'] at hc19)
                                            refine Ce.seq ?_
                                            refine Ce.region ?_
                                            refine Ie.p rfl rfl rfl rfl ?_
                                            refine Ie.p rfl rfl rfl rfl ?_
                                            refine Ie.nil ?_
                                            refine Ne.seq ?_
                                            refine Ce.cond rfl (fun hc20 => ?_) (fun hc20 => ?_)
                                            · refine Ce.as 4 (.bool true) rfl (congrArg Value.bool hc20) ?_
                                              (try simp only [decide_eq_true_eq, decide_eq_false_iff_not, nrm_lt, nrm_nlt, nrm_eq, nrm_neq, nrm_seq, nrm_sneq, nrm_sempty, nrm_snempty, nrm_ofNat, Bool.not_eq_true', Bool.not_eq_false'] at hc20)
                                              refine Ce.skip ?_
                                              refine Ne.as 4 (.bool (decide (s.data.toList ∈ sgnL))) rfl (congrArg Value.bool (by first | exact (eqB_mem (by assumption) (by decide +kernel)).symm | exact last_mem (by intro w hw; unfold sgnL at hw; simp only [List.mem_cons, List.not_mem_nil, or_false] at hw; rcases hw with rfl | rfl | rfl | rfl | rfl | rfl | rfl | rfl | rfl | rfl | rfl | rfl | rfl | rfl | rfl | rfl | rfl | rfl | rfl | rfl | rfl | rfl | rfl | rfl | rfl | rfl | rfl | rfl | rfl | rfl | rfl | rfl | rfl | rfl | rfl | rfl | rfl | rfl | rfl | rfl | rfl | rfl | rfl | rfl | rfl | rfl | rfl | rfl | rfl <;> first | exact .inl rfl | exact .inr (by assumption)) (by decide +kernel))) ?_
                                              exact Ne.jnx (trivial) (by repeat (first | exact trivial | refine ⟨rfl, ?_⟩)) (List.Sublist.refl _)
                                            · refine Ce.as 4 (.bool false) rfl (congrArg Value.bool hc20) ?_
                                              (try simp only [decide_eq_true_eq, decide_eq_false_iff_not, nrm_lt, nrm_nlt, nrm_eq, nrm_neq, nrm_seq, nrm_sneq, nrm_sempty, nrm_snempty, nrm_ofNat, Bool.not_eq_true', Bool.not_eq_false'] at hc20)
                                              refine Ce.seq ?_
                                              refine Ce.region ?_
                                              refine Ie.p rfl rfl rfl rfl ?_
                                              refine Ie.p rfl rfl rfl rfl ?_
                                              refine Ie.nil ?_
                                              refine Ne.seq ?_
                                              refine Ce.cond rfl (fun hc21 => ?_) (fun hc21 => ?_)
                                              · refine Ce.as 4 (.bool true) rfl (congrArg Value.bool hc21) ?_
                                                (try simp only [decide_eq_true_eq, decide_eq_false_iff_not, nrm_lt, nrm_nlt, nrm_eq, nrm_neq, nrm_seq, nrm_sneq, nrm_sempty, nrm_snempty, nrm_ofNat, Bool.not_eq_true', Bool.not_eq_false'] at hc21)
                                                refine Ce.skip ?_
                                                refine Ne.as 4 (.bool (decide (s.data.toList ∈ sgnL))) rfl (congrArg Value.bool (by first | exact (eqB_mem (by assumption) (by decide +kernel)).symm | exact last_mem (by intro w hw; unfold sgnL at hw; simp only [List.mem_cons, List.not_mem_nil, or_false] at hw; rcases hw with rfl | rfl | rfl | rfl | rfl | rfl | rfl | rfl | rfl | rfl | rfl | rfl | rfl | rfl | rfl | rfl | rfl | rfl | rfl | rfl | rfl | rfl | rfl | rfl | rfl | rfl | rfl | rfl | rfl | rfl | rfl | rfl | rfl | rfl | rfl | rfl | rfl | rfl | rfl | rfl | rfl | rfl | rfl | rfl | rfl | rfl | rfl | rfl | rfl <;> first | exact .inl rfl | exact .inr (by assumption)) (by decide +kernel))) ?_
                                                exact Ne.jnx (trivial) (by repeat (first | exact trivial | refine ⟨rfl, ?_⟩)) (List.Sublist.refl _)
                                              · refine Ce.as 4 (.bool false) rfl (congrArg Value.bool hc21) ?_
                                                (try simp only [decide_eq_true_eq, decide_eq_false_iff_not, nrm_lt, nrm_nlt, nrm_eq, nrm_neq, nrm_seq, nrm_sneq, nrm_sempty, nrm_snempty, nrm_ofNat, Bool.not_eq_true', Bool.not_eq_false'] at hc21)
                                                refine Ce.seq ?_
                                                refine Ce.region ?_
                                                refine Ie.p rfl rfl rfl rfl ?_
                                                refine Ie.p rfl rfl rfl rfl ?_
                                                refine Ie.nil ?_
                                                refine Ne.seq ?_
                                                refine Ce.cond rfl (fun hc22 => ?_) (fun hc22 => ?_)
                                                · refine Ce.as 4 (.bool true) rfl (congrArg Value.bool hc22) ?_
                                                  (try simp only [decide_eq_true_eq, decide_eq_false_iff_not, nrm_lt, nrm_nlt, nrm_eq, nrm_neq, nrm_seq, nrm_sneq, nrm_sempty, nrm_snempty, nrm_ofNat, Bool.not_eq_true', Bool.not_eq_false'] at hc22)
                                                  refine Ce.skip ?_
                                                  refine Ne.as 4 (.bool (decide (s.data.toList ∈ sgnL))) rfl (congrArg Value.bool (by first | exact (eqB_mem (by assumption) (by decide +kernel)).symm | exact last_mem (by intro w hw; unfold sgnL at hw; simp only [List.mem_cons, List.not_mem_nil, or_false] at hw; rcases hw with rfl | rfl | rfl | rfl | rfl | rfl | rfl | rfl | rfl | rfl | rfl | rfl | rfl | rfl | rfl | rfl | rfl | rfl | rfl | rfl | rfl | rfl | rfl | rfl | rfl | rfl | rfl | rfl | rfl | rfl | rfl | rfl | rfl | rfl | rfl | rfl | rfl | rfl | rfl | rfl | rfl | rfl | rfl | rfl | rfl | rfl | rfl | rfl | rfl <;> first | exact .inl rfl | exact .inr (by assumption)) (by decide +kernel))) ?_
                                                  exact Ne.jnx (trivial) (by repeat (first | exact trivial | refine ⟨rfl, ?_⟩)) (List.Sublist.refl _)
                                                · refine Ce.as 4 (.bool false) rfl (congrArg Value.bool hc22) ?_
                                                  (try simp only [decide_eq_true_eq, decide_eq_false_iff_not, nrm_lt, nrm_nlt, nrm_eq, nrm_neq, nrm_seq, nrm_sneq, nrm_sempty, nrm_snempty, nrm_ofNat, Bool.not_eq_true', Bool.not_eq_false'] at hc22)
                                                  refine Ce.seq ?_
                                                  refine Ce.region ?_
                                                  refine Ie.p rfl rfl rfl rfl ?_
                                                  refine Ie.p rfl rfl rfl rfl ?_
                                                  refine Ie.nil ?_
                                                  refine Ne.seq ?_
                                                  refine Ce.cond rfl (fun hc23 => ?_) (fun hc23 => ?_)
                                                  · refine Ce.as 4 (.bool true) rfl (congrArg Value.bool hc23) ?_
                                                    (try simp only [decide_eq_true_eq, decide_eq_false_iff_not, nrm_lt, nrm_nlt, nrm_eq, nrm_neq, nrm_seq, nrm_sneq, nrm_sempty, nrm_snempty, nrm_ofNat, Bool.not_eq_true', Bool.not_eq_false'] at hc23)
                                                    refine Ce.skip ?_
                                                    refine Ne.as 4 (.bool (decide (s.data.toList ∈ sgnL))) rfl (congrArg Value.bool (by first | exact (eqB_mem (by assumption) (by decide +kernel)).symm | exact last_mem (by intro w hw; unfold sgnL at hw; simp only [List.mem_cons, List.not_mem_nil, or_false] at hw; rcases hw with rfl | rfl | rfl | rfl | rfl | rfl | rfl | rfl | rfl | rfl | rfl | rfl | rfl | rfl | rfl | rfl | rfl | rfl | rfl | rfl | rfl | rfl | rfl | rfl | rfl | rfl | rfl | rfl | rfl | rfl | rfl | rfl | rfl | rfl | rfl | rfl | rfl | rfl | rfl | rfl | rfl | rfl | rfl | rfl | rfl | rfl | rfl | rfl | rfl <;> first | exact .inl rfl | exact .inr (by assumption)) (by decide +kernel))) ?_
                                                    exact Ne.jnx (trivial) (by repeat (first | exact trivial | refine ⟨rfl, ?_⟩)) (List.Sublist.refl _)
                                                  · refine Ce.as 4 (.bool false) rfl (congrArg Value.bool hc23) ?_
                                                    (try simp only [decide_eq_true_eq, decide_eq_false_iff_not, nrm_lt, nrm_nlt, nrm_eq, nrm_neq, nrm_seq, nrm_sneq, nrm_sempty, nrm_snempty, nrm_ofNat, Bool.not_eq_true', Bool.not_eq_false'] at hc23)
                                                    refine Ce.seq ?_
                                                    refine Ce.region ?_
                                                    refine Ie.p rfl rfl rfl rfl ?_
                                                    refine Ie.p rfl rfl rfl rfl ?_
                                                    refine Ie.nil ?_
                                                    refine Ne.seq ?_
                                                    refine Ce.cond rfl (fun hc24 => ?_) (fun hc24 => ?_)
                                                    · refine Ce.as 4 (.bool true) rfl (congrArg Value.bool hc24) ?_
                                                      (try simp only [decide_eq_true_eq, decide_eq_false_iff_not, nrm_lt, nrm_nlt, nrm_eq, nrm_neq, nrm_seq, nrm_sneq, nrm_sempty, nrm_snempty, nrm_ofNat, Bool.not_eq_true', Bool.not_eq_false'] at hc24)
                                                      refine Ce.skip ?_
                                                      refine Ne.as 4 (.bool (decide (s.data.toList ∈ sgnL))) rfl (congrArg Value.bool (by first | exact (eqB_mem (by assumption) (by decide +kernel)).symm | exact last_mem (by intro w hw; unfold sgnL at hw; simp only [List.mem_cons, List.not_mem_nil, or_false] at hw; rcases hw with rfl | rfl | rfl | rfl | rfl | rfl | rfl | rfl | rfl | rfl | rfl | rfl | rfl | rfl | rfl | rfl | rfl | rfl | rfl | rfl | rfl | rfl | rfl | rfl | rfl | rfl | rfl | rfl | rfl | rfl | rfl | rfl | rfl | rfl | rfl | rfl | rfl | rfl | rfl | rfl | rfl | rfl | rfl | rfl | rfl | rfl | rfl | rfl | rfl <;> first | exact .inl rfl | exact .inr (by assumption)) (by decide +kernel))) ?_
                                                      exact Ne.jnx (trivial) (by repeat (first | exact trivial | refine ⟨rfl, ?_⟩)) (List.Sublist.refl _)
                                                    · refine Ce.as 4 (.bool false) rfl (congrArg Value.bool hc24) ?_
                                                      (try simp only [decide_eq_true_eq, decide_eq_false_iff_not, nrm_lt, nrm_nlt, nrm_eq, nrm_neq, nrm_seq, nrm_sneq, nrm_sempty, nrm_snempty, nrm_ofNat, Bool.not_eq_true', Bool.not_eq_false'] at hc24)
                                                      refine Ce.seq ?_
                                                      refine Ce.region ?_
                                                      refine Ie.p rfl rfl rfl rfl ?_
                                                      refine Ie.p rfl rfl rfl rfl ?_
                                                      refine Ie.nil ?_
                                                      refine Ne.seq ?_
                                                      refine Ce.cond rfl (fun hc25 => ?_) (fun hc25 => ?_)
                                                      · refine Ce.as 4 (.bool true) rfl (congrArg Value.bool hc25) ?_
                                                        (try simp only [decide_eq_true_eq, decide_eq_false_iff_not, nrm_lt, nrm_nlt, nrm_eq, nrm_neq, nrm_seq, nrm_sneq, nrm_sempty, nrm_snempty, nrm_ofNat, Bool.not_eq_true', Bool.not_eq_false'] at hc25)
                                                        refine Ce.skip ?_
                                                        refine Ne.as 4 (.bool (decide (s.data.toList ∈ sgnL))) rfl (congrArg Value.bool (by first | exact (eqB_mem (by assumption) (by decide +kernel)).symm | exact last_mem (by intro w hw; unfold sgnL at hw; simp only [List.mem_cons, List.not_mem_nil, or_false] at hw; rcases hw with rfl | rfl | rfl | rfl | rfl | rfl | rfl | rfl | rfl | rfl | rfl | rfl | rfl | rfl | rfl | rfl | rfl | rfl | rfl | rfl | rfl | rfl | rfl | rfl | rfl | rfl | rfl | rfl | rfl | rfl | rfl | rfl | rfl | rfl | rfl | rfl | rfl | rfl | rfl | rfl | rfl | rfl | rfl | rfl | rfl | rfl | rfl | rfl | rfl <;> first | exact .inl rfl | exact .inr (by assumption)) (by decide +kernel))) ?_
                                                        exact Ne.jnx (trivial) (by repeat (first | exact trivial | refine ⟨rfl, ?_⟩)) (List.Sublist.refl _)
                                                      · refine Ce.as 4 (.bool false) rfl (congrArg Value.bool hc25) ?_
                                                        (try simp only [decide_eq_true_eq, decide_eq_false_iff_not, nrm_lt, nrm_nlt, nrm_eq, nrm_neq, nrm_seq, nrm_sneq, nrm_sempty, nrm_snempty, nrm_ofNat, Bool.not_eq_true', Bool.not_eq_false'] at hc25)
                                                        refine Ce.seq ?_
                                                        refine Ce.region ?_
                                                        refine Ie.p rfl rfl rfl rfl ?_
                                                        refine Ie.p rfl rfl rfl rfl ?_
                                                        refine Ie.nil ?_
                                                        refine Ne.seq ?_
                                                        refine Ce.cond rfl (fun hc26 => ?_) (fun hc26 => ?_)
                                                        · refine Ce.as 4 (.bool true) rfl (congrArg Value.bool hc26) ?_
                                                          (try simp only [decide_eq_true_eq, decide_eq_false_iff_not, nrm_lt, nrm_nlt, nrm_eq, nrm_neq, nrm_seq, nrm_sneq, nrm_sempty, nrm_snempty, nrm_ofNat, Bool.not_eq_true', Bool.not_eq_false'] at hc26)
                                                          refine Ce.skip ?_
                                                          refine Ne.as 4 (.bool (decide (s.data.toList ∈ sgnL))) rfl (congrArg Value.bool (by first | exact (eqB_mem (by assumption) (by decide +kernel)).symm | exact last_mem (by intro w hw; unfold sgnL at hw; simp only [List.mem_cons, List.not_mem_nil, or_false] at hw; rcases hw with rfl | rfl | rfl | rfl | rfl | rfl | rfl | rfl | rfl | rfl | rfl | rfl | rfl | rfl | rfl | rfl | rfl | rfl | rfl | rfl | rfl | rfl | rfl | rfl | rfl | rfl | rfl | rfl | rfl | rfl | rfl | rfl | rfl | rfl | rfl | rfl | rfl | rfl | rfl | rfl | rfl | rfl | rfl | rfl | rfl | rfl | rfl | rfl | rfl <;> first | exact .inl rfl | exact .inr (by assumption)) (by decide +kernel))) ?_
                                                          exact Ne.jnx (trivial) (by repeat (first | exact trivial | refine ⟨rfl, ?_⟩)) (List.Sublist.refl _)
                                                        · refine Ce.as 4 (.bool false) rfl (congrArg Value.bool hc26) ?_
                                                          (try simp only [decide_eq_true_eq, decide_eq_false_iff_not, nrm_lt, nrm_nlt, nrm_eq, nrm_neq, nrm_seq, nrm_sneq, nrm_sempty, nrm_snempty, nrm_ofNat, Bool.not_eq_true', Bool.not_eq_false'] at hc26)
                                                          refine Ce.seq ?_
                                                          refine Ce.region ?_
                                                          refine Ie.p rfl rfl rfl rfl ?_
                                                          refine Ie.p rfl rfl rfl rfl ?_
                                                          refine Ie.nil ?_
                                                          refine Ne.seq ?_
                                                          refine Ce.cond rfl (fun hc27 => ?_) (fun hc27 => ?_)
                                                          · refine Ce.as 4 (.bool true) rfl (congrArg Value.bool hc27) ?_
                                                            (try simp only [decide_eq_true_eq, decide_eq_false_iff_not, nrm_lt, nrm_nlt, nrm_eq, nrm_neq, nrm_seq, nrm_sneq, nrm_sempty, nrm_snempty, nrm_ofNat, Bool.not_eq_true', Bool.not_eq_false'] at hc27)
                                                            refine Ce.skip ?_
                                                            refine Ne.as 4 (.bool (decide (s.data.toList ∈ sgnL))) rfl (congrArg Value.bool (by first | exact (eqB_mem (by assumption) (by decide +kernel)).symm | exact last_mem (by intro w hw; unfold sgnL at hw; simp only [List.mem_cons, List.not_mem_nil, or_false] at hw; rcases hw with rfl | rfl | rfl | rfl | rfl | rfl | rfl | rfl | rfl | rfl | rfl | rfl | rfl | rfl | rfl | rfl | rfl | rfl | rfl | rfl | rfl | rfl | rfl | rfl | rfl | rfl | rfl | rfl | rfl | rfl | rfl | rfl | rfl | rfl | rfl | rfl | rfl | rfl | rfl | rfl | rfl | rfl | rfl | rfl | rfl | rfl | rfl | rfl | rfl <;> first | exact .inl rfl | exact .inr (by assumption)) (by decide +kernel))) ?_
                                                            exact Ne.jnx (trivial) (by repeat (first | exact trivial | refine ⟨rfl, ?_⟩)) (List.Sublist.refl _)
                                                          · refine Ce.as 4 (.bool false) rfl (congrArg Value.bool hc27) ?_
                                                            (try simp only [decide_eq_true_eq, decide_eq_false_iff_not, nrm_lt, nrm_nlt, nrm_eq, nrm_neq, nrm_seq, nrm_sneq, nrm_sempty, nrm_snempty, nrm_ofNat, Bool.not_eq_true', Bool.not_eq_false'] at hc27)
                                                            refine Ce.seq ?_
                                                            refine Ce.region ?_
                                                            refine Ie.p rfl rfl rfl rfl ?_
                                                            refine Ie.p rfl rfl rfl rfl ?_
                                                            refine Ie.nil ?_
                                                            refine Ne.seq ?_
                                                            refine Ce.cond rfl (fun hc28 => ?_) (fun hc28 => ?_)
                                                            · refine Ce.as 4 (.bool true) rfl (congrArg Value.bool hc28) ?_
                                                              (try simp only [decide_eq_true_eq, decide_eq_false_iff_not, nrm_lt, nrm_nlt, nrm_eq, nrm_neq, nrm_seq, nrm_sneq, nrm_sempty, nrm_snempty, nrm_ofNat, Bool.not_eq_true', Bool.not_eq_false'] at hc28)
                                                              refine Ce.skip ?_
                                                              refine Ne.as 4 (.bool (decide (s.data.toList ∈ sgnL))) rfl (congrArg Value.bool (by first | exact (eqB_mem (by assumption) (by decide +kernel)).symm | exact last_mem (by intro w hw; unfold sgnL at hw; simp only [List.mem_cons, List.not_mem_nil, or_false] at hw; rcases hw with rfl | rfl | rfl | rfl | rfl | rfl | rfl | rfl | rfl | rfl | rfl | rfl | rfl | rfl | rfl | rfl | rfl | rfl | rfl | rfl | rfl | rfl | rfl | rfl | rfl | rfl | rfl | rfl | rfl | rfl | rfl | rfl | rfl | rfl | rfl | rfl | rfl | rfl | rfl | rfl | rfl | rfl | rfl | rfl | rfl | rfl | rfl | rfl | rfl <;> first | exact .inl rfl | exact .inr (by assumption)) (by decide +kernel))) ?_
                                                              exact Ne.jnx (trivial) (by repeat (first | exact trivial | refine ⟨rfl, ?_⟩)) (List.Sublist.refl _)
                                                            · refine Ce.as 4 (.bool false) rfl (congrArg Value.bool hc28) ?_
                                                              (try simp only [decide_eq_true_eq, decide_eq_false_iff_not, nrm_lt, nrm_nlt, nrm_eq, nrm_neq, nrm_seq, nrm_sneq, nrm_sempty, nrm_snempty, nrm_ofNat, Bool.not_eq_true', Bool.not_eq_false'] at hc28)
                                                              refine Ce.seq ?_
                                                              refine Ce.region ?_
                                                              refine Ie.p rfl rfl rfl rfl ?_
                                                              refine Ie.p rfl rfl rfl rfl ?_
                                                              refine Ie.nil ?_
                                                              refine Ne.seq ?_
                                                              refine Ce.cond rfl (fun hc29 => ?_) (fun hc29 => ?_)
                                                              · refine Ce.as 4 (.bool true) rfl (congrArg Value.bool hc29) ?_
                                                                (try simp only [decide_eq_true_eq, decide_eq_false_iff_not, nrm_lt, nrm_nlt, nrm_eq, nrm_neq, nrm_seq, nrm_sneq, nrm_sempty, nrm_snempty, nrm_ofNat, Bool.not_eq_true', Bool.not_eq_false'] at hc29)
                                                                refine Ce.skip ?_
                                                                refine Ne.as 4 (.bool (decide (s.data.toList ∈ sgnL))) rfl (congrArg Value.bool (by first | exact (eqB_mem (by assumption) (by decide +kernel)).symm | exact last_mem (by intro w hw; unfold sgnL at hw; simp only [List.mem_cons, List.not_mem_nil, or_false] at hw; rcases hw with rfl | rfl | rfl | rfl | rfl | rfl | rfl | rfl | rfl | rfl | rfl | rfl | rfl | rfl | rfl | rfl | rfl | rfl | rfl | rfl | rfl | rfl | rfl | rfl | rfl | rfl | rfl | rfl | rfl | rfl | rfl | rfl | rfl | rfl | rfl | rfl | rfl | rfl | rfl | rfl | rfl | rfl | rfl | rfl | rfl | rfl | rfl | rfl | rfl <;> first | exact .inl rfl | exact .inr (by assumption)) (by decide +kernel))) ?_
                                                                exact Ne.jnx (trivial) (by repeat (first | exact trivial | refine ⟨rfl, ?_⟩)) (List.Sublist.refl _)
                                                              · refine Ce.as 4 (.bool false) rfl (congrArg Value.bool hc29) ?_
                                                                (try simp only [decide_eq_true_eq, decide_eq_false_iff_not, nrm_lt, nrm_nlt, nrm_eq, nrm_neq, nrm_seq, nrm_sneq, nrm_sempty, nrm_snempty, nrm_ofNat, Bool.not_eq_true', Bool.not_eq_false'] at hc29)
                                                                refine Ce.seq ?_
                                                                refine Ce.region ?_
                                                                refine Ie.p rfl rfl rfl rfl ?_
                                                                refine Ie.p rfl rfl rfl rfl ?_
                                                                refine Ie.nil ?_
                                                                refine Ne.seq ?_
                                                                refine Ce.cond rfl (fun hc30 => ?_) (fun hc30 => ?_)
                                                                · refine Ce.as 4 (.bool true) rfl (congrArg Value.bool hc30) ?_
                                                                  (try simp only [decide_eq_true_eq, decide_eq_false_iff_not, nrm_lt, nrm_nlt, nrm_eq, nrm_neq, nrm_seq, nrm_sneq, nrm_sempty, nrm_snempty, nrm_ofNat, Bool.not_eq_true', Bool.not_eq_false'] at hc30)
                                                                  refine Ce.skip ?_
                                                                  refine Ne.as 4 (.bool (decide (s.data.toList ∈ sgnL))) rfl (congrArg Value.bool (by first | exact (eqB_mem (by assumption) (by decide +kernel)).symm | exact last_mem (by intro w hw; unfold sgnL at hw; simp only [List.mem_cons, List.not_mem_nil, or_false] at hw; rcases hw with rfl | rfl | rfl | rfl | rfl | rfl | rfl | rfl | rfl | rfl | rfl | rfl | rfl | rfl | rfl | rfl | rfl | rfl | rfl | rfl | rfl | rfl | rfl | rfl | rfl | rfl | rfl | rfl | rfl | rfl | rfl | rfl | rfl | rfl | rfl | rfl | rfl | rfl | rfl | rfl | rfl | rfl | rfl | rfl | rfl | rfl | rfl | rfl | rfl <;> first | exact .inl rfl | exact .inr (by assumption)) (by decide +kernel))) ?_
                                                                  exact Ne.jnx (trivial) (by repeat (first | exact trivial | refine ⟨rfl, ?_⟩)) (List.Sublist.refl _)
                                                                · refine Ce.as 4 (.bool false) rfl (congrArg Value.bool hc30) ?_
                                                                  (try simp only [decide_eq_true_eq, decide_eq_false_iff_not, nrm_lt, nrm_nlt, nrm_eq, nrm_neq, nrm_seq, nrm_sneq, nrm_sempty, nrm_snempty, nrm_ofNat, Bool.not_eq_true', Bool.not_eq_false'] at hc30)
                                                                  refine Ce.seq ?_
                                                                  refine Ce.region ?_
                                                                  refine Ie.p rfl rfl rfl rfl ?_
                                                                  refine Ie.p rfl rfl rfl rfl ?_
                                                                  refine Ie.nil ?_
                                                                  refine Ne.seq ?_
                                                                  refine Ce.cond rfl (fun hc31 => ?_) (fun hc31 => ?_)
                                                                  · refine Ce.as 4 (.bool true) rfl (congrArg Value.bool hc31) ?_
                                                                    (try simp only [decide_eq_true_eq, decide_eq_false_iff_not, nrm_lt, nrm_nlt, nrm_eq, nrm_neq, nrm_seq, nrm_sneq, nrm_sempty, nrm_snempty, nrm_ofNat, Bool.not_eq_true', Bool.not_eq_false'] at hc31)
                                                                    refine Ce.skip ?_
                                                                    refine Ne.as 4 (.bool (decide (s.data.toList ∈ sgnL))) rfl (congrArg Value.bool (by first | exact (eqB_mem (by assumption) (by decide +kernel)).symm | exact last_mem (by intro w hw; unfold sgnL at hw; simp only [List.mem_cons, List.not_mem_nil, or_false] at hw; rcases hw with rfl | rfl | rfl | rfl | rfl | rfl | rfl | rfl | rfl | rfl | rfl | rfl | rfl | rfl | rfl | rfl | rfl | rfl | rfl | rfl | rfl | rfl | rfl | rfl | rfl | rfl | rfl | rfl | rfl | rfl | rfl | rfl | rfl | rfl | rfl | rfl | rfl | rfl | rfl | rfl | rfl | rfl | rfl | rfl | rfl | rfl | rfl | rfl | rfl <;> first | exact .inl rfl | exact .inr (by assumption)) (by decide +kernel))) ?_
                                                                    exact Ne.jnx (trivial) (by repeat (first | exact trivial | refine ⟨rfl, ?_⟩)) (List.Sublist.refl _)
                                                                  · refine Ce.as 4 (.bool false) rfl (congrArg Value.bool hc31) ?_
                                                                    (try simp only [decide_eq_true_eq, decide_eq_false_iff_not, nrm_lt, nrm_nlt, nrm_eq, nrm_neq, nrm_seq, nrm_sneq, nrm_sempty, nrm_snempty, nrm_ofNat, Bool.not_eq_true', Bool.not_eq_false'] at hc31)
                                                                    refine Ce.seq ?_
                                                                    refine Ce.region ?_
                                                                    refine Ie.p rfl rfl rfl rfl ?_
                                                                    refine Ie.p rfl rfl rfl rfl ?_
                                                                    refine Ie.nil ?_
                                                                    refine Ne.seq ?_
                                                                    refine Ce.cond rfl (fun hc32 => ?_) (fun hc32 => ?_)
                                                                    · refine Ce.as 4 (.bool true) rfl (congrArg Value.bool hc32) ?_
                                                                      (try simp only [decide_eq_true_eq, decide_eq_false_iff_not, nrm_lt, nrm_nlt, nrm_eq, nrm_neq, nrm_seq, nrm_sneq, nrm_sempty, nrm_snempty, nrm_ofNat, Bool.not_eq_true', Bool.not_eq_false'] at hc32)
                                                                      refine Ce.skip ?_
                                                                      refine Ne.as 4 (.bool (decide (s.data.toList ∈ sgnL))) rfl (congrArg Value.bool (by first | exact (eqB_mem (by assumption) (by decide +kernel)).symm | exact last_mem (by intro w hw; unfold sgnL at hw; simp only [List.mem_cons, List.not_mem_nil, or_false] at hw; rcases hw with rfl | rfl | rfl | rfl | rfl | rfl | rfl | rfl | rfl | rfl | rfl | rfl | rfl | rfl | rfl | rfl | rfl | rfl | rfl | rfl | rfl | rfl | rfl | rfl | rfl | rfl | rfl | rfl | rfl | rfl | rfl | rfl | rfl | rfl | rfl | rfl | rfl | rfl | rfl | rfl | rfl | rfl | rfl | rfl | rfl | rfl | rfl | rfl | rfl <;> first | exact .inl rfl | exact .inr (by assumption)) (by decide +kernel))) ?_
                                                                      exact Ne.jnx (trivial) (by repeat (first | exact trivial | refine ⟨rfl, ?_⟩)) (List.Sublist.refl _)
                                                                    · refine Ce.as 4 (.bool false) rfl (congrArg Value.bool hc32) ?_
                                                                      (try simp only [decide_eq_true_eq, decide_eq_false_iff_not, nrm_lt, nrm_nlt, nrm_eq, nrm_neq, nrm_seq, nrm_sneq, nrm_sempty, nrm_snempty, nrm_ofNat, Bool.not_eq_true', Bool.not_eq_false'] at hc32)
                                                                      refine Ce.seq ?_
                                                                      refine Ce.region ?_
                                                                      refine Ie.p rfl rfl rfl rfl ?_
                                                                      refine Ie.p rfl rfl rfl rfl ?_
                                                                      refine Ie.nil ?_
                                                                      refine Ne.seq ?_
                                                                      refine Ce.cond rfl (fun hc33 => ?_) (fun hc33 => ?_)
                                                                      · refine Ce.as 4 (.bool true) rfl (congrArg Value.bool hc33) ?_
                                                                        (try simp only [decide_eq_true_eq, decide_eq_false_iff_not, nrm_lt, nrm_nlt, nrm_eq, nrm_neq, nrm_seq, nrm_sneq, nrm_sempty, nrm_snempty, nrm_ofNat, Bool.not_eq_true', Bool.not_eq_false'] at hc33)
                                                                        refine Ce.skip ?_
                                                                        refine Ne.as 4 (.bool (decide (s.data.toList ∈ sgnL))) rfl (congrArg Value.bool (by first | exact (eqB_mem (by assumption) (by decide +kernel)).symm | exact last_mem (by intro w hw; unfold sgnL at hw; simp only [List.mem_cons, List.not_mem_nil, or_false] at hw; rcases hw with rfl | rfl | rfl | rfl | rfl | rfl | rfl | rfl | rfl | rfl | rfl | rfl | rfl | rfl | rfl | rfl | rfl | rfl | rfl | rfl | rfl | rfl | rfl | rfl | rfl | rfl | rfl | rfl | rfl | rfl | rfl | rfl | rfl | rfl | rfl | rfl | rfl | rfl | rfl | rfl | rfl | rfl | rfl | rfl | rfl | rfl | rfl | rfl | rfl <;> first | exact .inl rfl | exact .inr (by assumption)) (by decide +kernel))) ?_
                                                                        exact Ne.jnx (trivial) (by repeat (first | exact trivial | refine ⟨rfl, ?_⟩)) (List.Sublist.refl _)
                                                                      · refine Ce.as 4 (.bool false) rfl (congrArg Value.bool hc33) ?_
                                                                        (try simp only [decide_eq_true_eq, decide_eq_false_iff_not, nrm_lt, nrm_nlt, nrm_eq, nrm_neq, nrm_seq, nrm_sneq, nrm_sempty, nrm_snempty, nrm_ofNat, Bool.not_eq_true', Bool.not_eq_false'] at hc33)
                                                                        refine Ce.seq ?_
                                                                        refine Ce.region ?_
                                                                        refine Ie.p rfl rfl rfl rfl ?_
                                                                        refine Ie.p rfl rfl rfl rfl ?_
                                                                        refine Ie.nil ?_
                                                                        refine Ne.seq ?_
                                                                        refine Ce.cond rfl (fun hc34 => ?_) (fun hc34 => ?_)
                                                                        · refine Ce.as 4 (.bool true) rfl (congrArg Value.bool hc34) ?_
                                                                          (try simp only [decide_eq_true_eq, decide_eq_false_iff_not, nrm_lt, nrm_nlt, nrm_eq, nrm_neq, nrm_seq, nrm_sneq, nrm_sempty, nrm_snempty, nrm_ofNat, Bool.not_eq_true', Bool.not_eq_false'] at hc34)
                                                                          refine Ce.skip ?_
                                                                          refine Ne.as 4 (.bool (decide (s.data.toList ∈ sgnL))) rfl (congrArg Value.bool (by first | exact (eqB_mem (by assumption) (by decide +kernel)).symm | exact last_mem (by intro w hw; unfold sgnL at hw; simp only [List.mem_cons, List.not_mem_nil, or_false] at hw; rcases hw with rfl | rfl | rfl | rfl | rfl | rfl | rfl | rfl | rfl | rfl | rfl | rfl | rfl | rfl | rfl | rfl | rfl | rfl | rfl | rfl | rfl | rfl | rfl | rfl | rfl | rfl | rfl | rfl | rfl | rfl | rfl | rfl | rfl | rfl | rfl | rfl | rfl | rfl | rfl | rfl | rfl | rfl | rfl | rfl | rfl | rfl | rfl | rfl | rfl <;> first | exact .inl rfl | exact .inr (by assumption)) (by decide +kernel))) ?_
                                                                          exact Ne.jnx (trivial) (by repeat (first | exact trivial | refine ⟨rfl, ?_⟩)) (List.Sublist.refl _)
                                                                        · refine Ce.as 4 (.bool false) rfl (congrArg Value.bool hc34) ?_
                                                                          (try simp only [decide_eq_true_eq, decide_eq_false_iff_not, nrm_lt, nrm_nlt, nrm_eq, nrm_neq, nrm_seq, nrm_sneq, nrm_sempty, nrm_snempty, nrm_ofNat, Bool.not_eq_true', Bool.not_eq_false'] at hc34)
                                                                          refine Ce.seq ?_
                                                                          refine Ce.region ?_
                                                                          refine Ie.p rfl rfl rfl rfl ?_
                                                                          refine Ie.p rfl rfl rfl rfl ?_
                                                                          refine Ie.nil ?_
                                                                          refine Ne.seq ?_
                                                                          refine Ce.cond rfl (fun hc35 => ?_) (fun hc35 => ?_)
                                                                          · refine Ce.as 4 (.bool true) rfl (congrArg Value.bool hc35) ?_
                                                                            (try simp only [decide_eq_true_eq, decide_eq_false_iff_not, nrm_lt, nrm_nlt, nrm_eq, nrm_neq, nrm_seq, nrm_sneq, nrm_sempty, nrm_snempty, nrm_ofNat, Bool.not_eq_true', Bool.not_eq_false'] at hc35)
                                                                            refine Ce.skip ?_
                                                                            refine Ne.as 4 (.bool (decide (s.data.toList ∈ sgnL))) rfl (congrArg Value.bool (by first | exact (eqB_mem (by assumption) (by decide +kernel)).symm | exact last_mem (by intro w hw; unfold sgnL at hw; simp only [List.mem_cons, List.not_mem_nil, or_false] at hw; rcases hw with rfl | rfl | rfl | rfl | rfl | rfl | rfl | rfl | rfl | rfl | rfl | rfl | rfl | rfl | rfl | rfl | rfl | rfl | rfl | rfl | rfl | rfl | rfl | rfl | rfl | rfl | rfl | rfl | rfl | rfl | rfl | rfl | rfl | rfl | rfl | rfl | rfl | rfl | rfl | rfl | rfl | rfl | rfl | rfl | rfl | rfl | rfl | rfl | rfl <;> first | exact .inl rfl | exact .inr (by assumption)) (by decide +kernel))) ?_
                                                                            exact Ne.jnx (trivial) (by repeat (first | exact trivial | refine ⟨rfl, ?_⟩)) (List.Sublist.refl _)
                                                                          · refine Ce.as 4 (.bool false) rfl (congrArg Value.bool hc35) ?_
                                                                            (try simp only [decide_eq_true_eq, decide_eq_false_iff_not, nrm_lt, nrm_nlt, nrm_eq, nrm_neq, nrm_seq, nrm_sneq, nrm_sempty, nrm_snempty, nrm_ofNat, Bool.not_eq_true', Bool.not_eq_false'] at hc35)
                                                                            refine Ce.seq ?_
                                                                            refine Ce.region ?_
                                                                            refine Ie.p rfl rfl rfl rfl ?_
                                                                            refine Ie.p rfl rfl rfl rfl ?_
                                                                            refine Ie.nil ?_
                                                                            refine Ne.seq ?_
                                                                            refine Ce.cond rfl (fun hc36 => ?_) (fun hc36 => ?_)
                                                                            · refine Ce.as 4 (.bool true) rfl (congrArg Value.bool hc36) ?_
                                                                              (try simp only [decide_eq_true_eq, decide_eq_false_iff_not, nrm_lt, nrm_nlt, nrm_eq, nrm_neq, nrm_seq, nrm_sneq, nrm_sempty, nrm_snempty, nrm_ofNat, Bool.not_eq_true', Bool.not_eq_false'] at hc36)
                                                                              refine Ce.skip ?_
                                                                              refine Ne.as 4 (.bool (decide (s.data.toList ∈ sgnL))) rfl (congrArg Value.bool (by first | exact (eqB_mem (by assumption) (by decide +kernel)).symm | exact last_mem (by intro w hw; unfold sgnL at hw; simp only [List.mem_cons, List.not_mem_nil, or_false] at hw; rcases hw with rfl | rfl | rfl | rfl | rfl | rfl | rfl | rfl | rfl | rfl | rfl | rfl | rfl | rfl | rfl | rfl | rfl | rfl | rfl | rfl | rfl | rfl | rfl | rfl | rfl | rfl | rfl | rfl | rfl | rfl | rfl | rfl | rfl | rfl | rfl | rfl | rfl | rfl | rfl | rfl | rfl | rfl | rfl | rfl | rfl | rfl | rfl | rfl | rfl <;> first | exact .inl rfl | exact .inr (by assumption)) (by decide +kernel))) ?_
                                                                              exact Ne.jnx (trivial) (by repeat (first | exact trivial | refine ⟨rfl, ?_⟩)) (List.Sublist.refl _)
                                                                            · refine Ce.as 4 (.bool false) rfl (congrArg Value.bool hc36) ?_
                                                                              (try simp only [decide_eq_true_eq, decide_eq_false_iff_not, nrm_lt, nrm_nlt, nrm_eq, nrm_neq, nrm_seq, nrm_sneq, nrm_sempty, nrm_snempty, nrm_ofNat, Bool.not_eq_true', Bool.not_eq_false'] at hc36)
                                                                              refine Ce.seq ?_
                                                                              refine Ce.region ?_
                                                                              refine Ie.p rfl rfl rfl rfl ?_
                                                                              refine Ie.p rfl rfl rfl rfl ?_
                                                                              refine Ie.nil ?_
                                                                              refine Ne.seq ?_
                                                                              refine Ce.cond rfl (fun hc37 => ?_) (fun hc37 => ?_)
                                                                              · refine Ce.as 4 (.bool true) rfl (congrArg Value.bool hc37) ?_
                                                                                (try simp only [decide_eq_true_eq, decide_eq_false_iff_not, nrm_lt, nrm_nlt, nrm_eq, nrm_neq, nrm_seq, nrm_sneq, nrm_sempty, nrm_snempty, nrm_ofNat, Bool.not_eq_true', Bool.not_eq_false'] at hc37)
                                                                                refine Ce.skip ?_
                                                                                refine Ne.as 4 (.bool (decide (s.data.toList ∈ sgnL))) rfl (congrArg Value.bool (by first | exact (eqB_mem (by assumption) (by decide +kernel)).symm | exact last_mem (by intro w hw; unfold sgnL at hw; simp only [List.mem_cons, List.not_mem_nil, or_false] at hw; rcases hw with rfl | rfl | rfl | rfl | rfl | rfl | rfl | rfl | rfl | rfl | rfl | rfl | rfl | rfl | rfl | rfl | rfl | rfl | rfl | rfl | rfl | rfl | rfl | rfl | rfl | rfl | rfl | rfl | rfl | rfl | rfl | rfl | rfl | rfl | rfl | rfl | rfl | rfl | rfl | rfl | rfl | rfl | rfl | rfl | rfl | rfl | rfl | rfl | rfl <;> first | exact .inl rfl | exact .inr (by assumption)) (by decide +kernel))) ?_
                                                                                exact Ne.jnx (trivial) (by repeat (first | exact trivial | refine ⟨rfl, ?_⟩)) (List.Sublist.refl _)
                                                                              · refine Ce.as 4 (.bool false) rfl (congrArg Value.bool hc37) ?_
                                                                                (try simp only [decide_eq_true_eq, decide_eq_false_iff_not, nrm_lt, nrm_nlt, nrm_eq, nrm_neq, nrm_seq, nrm_sneq, nrm_sempty, nrm_snempty, nrm_ofNat, Bool.not_eq_true', Bool.not_eq_false'] at hc37)
                                                                                refine Ce.seq ?_
                                                                                refine Ce.region ?_
                                                                                refine Ie.p rfl rfl rfl rfl ?_
                                                                                refine Ie.p rfl rfl rfl rfl ?_
                                                                                refine Ie.nil ?_
                                                                                refine Ne.seq ?_
                                                                                refine Ce.cond rfl (fun hc38 => ?_) (fun hc38 => ?_)
                                                                                · refine Ce.as 4 (.bool true) rfl (congrArg Value.bool hc38) ?_
                                                                                  (try simp only [decide_eq_true_eq, decide_eq_false_iff_not, nrm_lt, nrm_nlt, nrm_eq, nrm_neq, nrm_seq, nrm_sneq, nrm_sempty, nrm_snempty, nrm_ofNat, Bool.not_eq_true', Bool.not_eq_false'] at hc38)
                                                                                  refine Ce.skip ?_
                                                                                  refine Ne.as 4 (.bool (decide (s.data.toList ∈ sgnL))) rfl (congrArg Value.bool (by first | exact (eqB_mem (by assumption) (by decide +kernel)).symm | exact last_mem (by intro w hw; unfold sgnL at hw; simp only [List.mem_cons, List.not_mem_nil, or_false] at hw; rcases hw with rfl | rfl | rfl | rfl | rfl | rfl | rfl | rfl | rfl | rfl | rfl | rfl | rfl | rfl | rfl | rfl | rfl | rfl | rfl | rfl | rfl | rfl | rfl | rfl | rfl | rfl | rfl | rfl | rfl | rfl | rfl | rfl | rfl | rfl | rfl | rfl | rfl | rfl | rfl | rfl | rfl | rfl | rfl | rfl | rfl | rfl | rfl | rfl | rfl <;> first | exact .inl rfl | exact .inr (by assumption)) (by decide +kernel))) ?_
                                                                                  exact Ne.jnx (trivial) (by repeat (first | exact trivial | refine ⟨rfl, ?_⟩)) (List.Sublist.refl _)
                                                                                · refine Ce.as 4 (.bool false) rfl (congrArg Value.bool hc38) ?_
                                                                                  (try simp only [decide_eq_true_eq, decide_eq_false_iff_not, nrm_lt, nrm_nlt, nrm_eq, nrm_neq, nrm_seq, nrm_sneq, nrm_sempty, nrm_snempty, nrm_ofNat, Bool.not_eq_true', Bool.not_eq_false'] at hc38)
                                                                                  refine Ce.seq ?_
                                                                                  refine Ce.region ?_
                                                                                  refine Ie.p rfl rfl rfl rfl ?_
                                                                                  refine Ie.p rfl rfl rfl rfl ?_
                                                                                  refine Ie.nil ?_
                                                                                  refine Ne.seq ?_
                                                                                  refine Ce.cond rfl (fun hc39 => ?_) (fun hc39 => ?_)
                                                                                  · refine Ce.as 4 (.bool true) rfl (congrArg Value.bool hc39) ?_
                                                                                    (try simp only [decide_eq_true_eq, decide_eq_false_iff_not, nrm_lt, nrm_nlt, nrm_eq, nrm_neq, nrm_seq, nrm_sneq, nrm_sempty, nrm_snempty, nrm_ofNat, Bool.not_eq_true', Bool.not_eq_false'] at hc39)
                                                                                    refine Ce.skip ?_
                                                                                    refine Ne.as 4 (.bool (decide (s.data.toList ∈ sgnL))) rfl (congrArg Value.bool (by first | exact (eqB_mem (by assumption) (by decide +kernel)).symm | exact last_mem (by intro w hw; unfold sgnL at hw; simp only [List.mem_cons, List.not_mem_nil, or_false] at hw; rcases hw with rfl | rfl | rfl | rfl | rfl | rfl | rfl | rfl | rfl | rfl | rfl | rfl | rfl | rfl | rfl | rfl | rfl | rfl | rfl | rfl | rfl | rfl | rfl | rfl | rfl | rfl | rfl | rfl | rfl | rfl | rfl | rfl | rfl | rfl | rfl | rfl | rfl | rfl | rfl | rfl | rfl | rfl | rfl | rfl | rfl | rfl | rfl | rfl | rfl <;> first | exact .inl rfl | exact .inr (by assumption)) (by decide +kernel))) ?_
                                                                                    exact Ne.jnx (trivial) (by repeat (first | exact trivial | refine ⟨rfl, ?_⟩)) (List.Sublist.refl _)
                                                                                  · refine Ce.as 4 (.bool false) rfl (congrArg Value.bool hc39) ?_
                                                                                    (try simp only [decide_eq_true_eq, decide_eq_false_iff_not, nrm_lt, nrm_nlt, nrm_eq, nrm_neq, nrm_seq, nrm_sneq, nrm_sempty, nrm_snempty, nrm_ofNat, Bool.not_eq_true', Bool.not_eq_false'] at hc39)
                                                                                    refine Ce.seq ?_
                                                                                    refine Ce.region ?_
                                                                                    refine Ie.p rfl rfl rfl rfl ?_
                                                                                    refine Ie.p rfl rfl rfl rfl ?_
                                                                                    refine Ie.nil ?_
                                                                                    refine Ne.seq ?_
                                                                                    refine Ce.cond rfl (fun hc40 => ?_) (fun hc40 => ?_)
                                                                                    · refine Ce.as 4 (.bool true) rfl (congrArg Value.bool hc40) ?_
                                                                                      (try simp only [decide_eq_true_eq, decide_eq_false_iff_not, nrm_lt, nrm_nlt, nrm_eq, nrm_neq, nrm_seq, nrm_sneq, nrm_sempty, nrm_snempty, nrm_ofNat, Bool.not_eq_true', Bool.not_eq_false'] at hc40)
                                                                                      refine Ce.skip ?_
                                                                                      refine Ne.as 4 (.bool (decide (s.data.toList ∈ sgnL))) rfl (congrArg Value.bool (by first | exact (eqB_mem (by assumption) (by decide +kernel)).symm | exact last_mem (by intro w hw; unfold sgnL at hw; simp only [List.mem_cons, List.not_mem_nil, or_false] at hw; rcases hw with rfl | rfl | rfl | rfl | rfl | rfl | rfl | rfl | rfl | rfl | rfl | rfl | rfl | rfl | rfl | rfl | rfl | rfl | rfl | rfl | rfl | rfl | rfl | rfl | rfl | rfl | rfl | rfl | rfl | rfl | rfl | rfl | rfl | rfl | rfl | rfl | rfl | rfl | rfl | rfl | rfl | rfl | rfl | rfl | rfl | rfl | rfl | rfl | rfl <;> first | exact .inl rfl | exact .inr (by assumption)) (by decide +kernel))) ?_
                                                                                      exact Ne.jnx (trivial) (by repeat (first | exact trivial | refine ⟨rfl, ?_⟩)) (List.Sublist.refl _)
                                                                                    · refine Ce.as 4 (.bool false) rfl (congrArg Value.bool hc40) ?_
                                                                                      (try simp only [decide_eq_true_eq, decide_eq_false_iff_not, nrm_lt, nrm_nlt, nrm_eq, nrm_neq, nrm_seq, nrm_sneq, nrm_sempty, nrm_snempty, nrm_ofNat, Bool.not_eq_true', Bool.not_eq_false'] at hc40)
                                                                                      refine Ce.seq ?_
                                                                                      refine Ce.region ?_
                                                                                      refine Ie.p rfl rfl rfl rfl ?_
                                                                                      refine Ie.p rfl rfl rfl rfl ?_
                                                                                      refine Ie.nil ?_
                                                                                      refine Ne.seq ?_
                                                                                      refine Ce.cond rfl (fun hc41 => ?_) (fun hc41 => ?_)
                                                                                      · refine Ce.as 4 (.bool true) rfl (congrArg Value.bool hc41) ?_
                                                                                        (try simp only [decide_eq_true_eq, decide_eq_false_iff_not, nrm_lt, nrm_nlt, nrm_eq, nrm_neq, nrm_seq, nrm_sneq, nrm_sempty, nrm_snempty, nrm_ofNat, Bool.not_eq_true', Bool.not_eq_false'] at hc41)
                                                                                        refine Ce.skip ?_
                                                                                        refine Ne.as 4 (.bool (decide (s.data.toList ∈ sgnL))) rfl (congrArg Value.bool (by first | exact (eqB_mem (by assumption) (by decide +kernel)).symm | exact last_mem (by intro w hw; unfold sgnL at hw; simp only [List.mem_cons, List.not_mem_nil, or_false] at hw; rcases hw with rfl | rfl | rfl | rfl | rfl | rfl | rfl | rfl | rfl | rfl | rfl | rfl | rfl | rfl | rfl | rfl | rfl | rfl | rfl | rfl | rfl | rfl | rfl | rfl | rfl | rfl | rfl | rfl | rfl | rfl | rfl | rfl | rfl | rfl | rfl | rfl | rfl | rfl | rfl | rfl | rfl | rfl | rfl | rfl | rfl | rfl | rfl | rfl | rfl <;> first | exact .inl rfl | exact .inr (by assumption)) (by decide +kernel))) ?_
                                                                                        exact Ne.jnx (trivial) (by repeat (first | exact trivial | refine ⟨rfl, ?_⟩)) (List.Sublist.refl _)
                                                                                      · refine Ce.as 4 (.bool false) rfl (congrArg Value.bool hc41) ?_
                                                                                        (try simp only [decide_eq_true_eq, decide_eq_false_iff_not, nrm_lt, nrm_nlt, nrm_eq, nrm_neq, nrm_seq, nrm_sneq, nrm_sempty, nrm_snempty, nrm_ofNat, Bool.not_eq_true', Bool.not_eq_false'] at hc41)
                                                                                        refine Ce.seq ?_
                                                                                        refine Ce.region ?_
                                                                                        refine Ie.p rfl rfl rfl rfl ?_
                                                                                        refine Ie.p rfl rfl rfl rfl ?_
                                                                                        refine Ie.nil ?_
                                                                                        refine Ne.seq ?_
                                                                                        refine Ce.cond rfl (fun hc42 => ?_) (fun hc42 => ?_)
                                                                                        · refine Ce.as 4 (.bool true) rfl (congrArg Value.bool hc42) ?_
                                                                                          (try simp only [decide_eq_true_eq, decide_eq_false_iff_not, nrm_lt, nrm_nlt, nrm_eq, nrm_neq, nrm_seq, nrm_sneq, nrm_sempty, nrm_snempty, nrm_ofNat, Bool.not_eq_true', Bool.not_eq_false'] at hc42)
                                                                                          refine Ce.skip ?_
                                                                                          refine Ne.as 4 (.bool (decide (s.data.toList ∈ sgnL))) rfl (congrArg Value.bool (by first | exact (eqB_mem (by assumption) (by decide +kernel)).symm | exact last_mem (by intro w hw; unfold sgnL at hw; simp only [List.mem_cons, List.not_mem_nil, or_false] at hw; rcases hw with rfl | rfl | rfl | rfl | rfl | rfl | rfl | rfl | rfl | rfl | rfl | rfl | rfl | rfl | rfl | rfl | rfl | rfl | rfl | rfl | rfl | rfl | rfl | rfl | rfl | rfl | rfl | rfl | rfl | rfl | rfl | rfl | rfl | rfl | rfl | rfl | rfl | rfl | rfl | rfl | rfl | rfl | rfl | rfl | rfl | rfl | rfl | rfl | rfl <;> first | exact .inl rfl | exact .inr (by assumption)) (by decide +kernel))) ?_
                                                                                          exact Ne.jnx (trivial) (by repeat (first | exact trivial | refine ⟨rfl, ?_⟩)) (List.Sublist.refl _)
                                                                                        · refine Ce.as 4 (.bool false) rfl (congrArg Value.bool hc42) ?_
                                                                                          (try simp only [decide_eq_true_eq, decide_eq_false_iff_not, nrm_lt, nrm_nlt, nrm_eq, nrm_neq, nrm_seq, nrm_sneq, nrm_sempty, nrm_snempty, nrm_ofNat, Bool.not_eq_true', Bool.not_eq_false'] at hc42)
                                                                                          refine Ce.seq ?_
                                                                                          refine Ce.region ?_
                                                                                          refine Ie.p rfl rfl rfl rfl ?_
                                                                                          refine Ie.p rfl rfl rfl rfl ?_
                                                                                          refine Ie.nil ?_
                                                                                          refine Ne.seq ?_
                                                                                          refine Ce.cond rfl (fun hc43 => ?_) (fun hc43 => ?_)
                                                                                          · refine Ce.as 4 (.bool true) rfl (congrArg Value.bool hc43) ?_
                                                                                            (try simp only [decide_eq_true_eq, decide_eq_false_iff_not, nrm_lt, nrm_nlt, nrm_eq, nrm_neq, nrm_seq, nrm_sneq, nrm_sempty, nrm_snempty, nrm_ofNat, Bool.not_eq_true', Bool.not_eq_false'] at hc43)
                                                                                            refine Ce.skip ?_
                                                                                            refine Ne.as 4 (.bool (decide (s.data.toList ∈ sgnL))) rfl (congrArg Value.bool (by first | exact (eqB_mem (by assumption) (by decide +kernel)).symm | exact last_mem (by intro w hw; unfold sgnL at hw; simp only [List.mem_cons, List.not_mem_nil, or_false] at hw; rcases hw with rfl | rfl | rfl | rfl | rfl | rfl | rfl | rfl | rfl | rfl | rfl | rfl | rfl | rfl | rfl | rfl | rfl | rfl | rfl | rfl | rfl | rfl | rfl | rfl | rfl | rfl | rfl | rfl | rfl | rfl | rfl | rfl | rfl | rfl | rfl | rfl | rfl | rfl | rfl | rfl | rfl | rfl | rfl | rfl | rfl | rfl | rfl | rfl | rfl <;> first | exact .inl rfl | exact .inr (by assumption)) (by decide +kernel))) ?_
                                                                                            exact Ne.jnx (trivial) (by repeat (first | exact trivial | refine ⟨rfl, ?_⟩)) (List.Sublist.refl _)
                                                                                          · refine Ce.as 4 (.bool false) rfl (congrArg Value.bool hc43) ?_
                                                                                            (try simp only [decide_eq_true_eq, decide_eq_false_iff_not, nrm_lt, nrm_nlt, nrm_eq, nrm_neq, nrm_seq, nrm_sneq, nrm_sempty, nrm_snempty, nrm_ofNat, Bool.not_eq_true', Bool.not_eq_false'] at hc43)
                                                                                            refine Ce.seq ?_
                                                                                            refine Ce.region ?_
                                                                                            refine Ie.p rfl rfl rfl rfl ?_
                                                                                            refine Ie.p rfl rfl rfl rfl ?_
                                                                                            refine Ie.nil ?_
                                                                                            refine Ne.seq ?_
                                                                                            refine Ce.cond rfl (fun hc44 => ?_) (fun hc44 => ?_)
                                                                                            · refine Ce.as 4 (.bool true) rfl (congrArg Value.bool hc44) ?_
                                                                                              (try simp only [decide_eq_true_eq, decide_eq_false_iff_not, nrm_lt, nrm_nlt, nrm_eq, nrm_neq, nrm_seq, nrm_sneq, nrm_sempty, nrm_snempty, nrm_ofNat, Bool.not_eq_true', Bool.not_eq_false'] at hc44)
                                                                                              refine Ce.skip ?_
                                                                                              refine Ne.as 4 (.bool (decide (s.data.toList ∈ sgnL))) rfl (congrArg Value.bool (by first | exact (eqB_mem (by assumption) (by decide +kernel)).symm | exact last_mem (by intro w hw; unfold sgnL at hw; simp only [List.mem_cons, List.not_mem_nil, or_false] at hw; rcases hw with rfl | rfl | rfl | rfl | rfl | rfl | rfl | rfl | rfl | rfl | rfl | rfl | rfl | rfl | rfl | rfl | rfl | rfl | rfl | rfl | rfl | rfl | rfl | rfl | rfl | rfl | rfl | rfl | rfl | rfl | rfl | rfl | rfl | rfl | rfl | rfl | rfl | rfl | rfl | rfl | rfl | rfl | rfl | rfl | rfl | rfl | rfl | rfl | rfl <;> first | exact .inl rfl | exact .inr (by assumption)) (by decide +kernel))) ?_
                                                                                              exact Ne.jnx (trivial) (by repeat (first | exact trivial | refine ⟨rfl, ?_⟩)) (List.Sublist.refl _)
                                                                                            · refine Ce.as 4 (.bool false) rfl (congrArg Value.bool hc44) ?_
                                                                                              (try simp only [decide_eq_true_eq, decide_eq_false_iff_not, nrm_lt, nrm_nlt, nrm_eq, nrm_neq, nrm_seq, nrm_sneq, nrm_sempty, nrm_snempty, nrm_ofNat, Bool.not_eq_true', Bool.not_eq_false'] at hc44)
                                                                                              refine Ce.seq ?_
                                                                                              refine Ce.region ?_
                                                                                              refine Ie.p rfl rfl rfl rfl ?_
                                                                                              refine Ie.p rfl rfl rfl rfl ?_
                                                                                              refine Ie.nil ?_
                                                                                              refine Ne.seq ?_
                                                                                              refine Ce.cond rfl (fun hc45 => ?_) (fun hc45 => ?_)
                                                                                              · refine Ce.as 4 (.bool true) rfl (congrArg Value.bool hc45) ?_
                                                                                                (try simp only [decide_eq_true_eq, decide_eq_false_iff_not, nrm_lt, nrm_nlt, nrm_eq, nrm_neq, nrm_seq, nrm_sneq, nrm_sempty, nrm_snempty, nrm_ofNat, Bool.not_eq_true', Bool.not_eq_false'] at hc45)
                                                                                                refine Ce.skip ?_
                                                                                                refine Ne.as 4 (.bool (decide (s.data.toList ∈ sgnL))) rfl (congrArg Value.bool (by first | exact (eqB_mem (by assumption) (by decide +kernel)).symm | exact last_mem (by intro w hw; unfold sgnL at hw; simp only [List.mem_cons, List.not_mem_nil, or_false] at hw; rcases hw with rfl | rfl | rfl | rfl | rfl | rfl | rfl | rfl | rfl | rfl | rfl | rfl | rfl | rfl | rfl | rfl | rfl | rfl | rfl | rfl | rfl | rfl | rfl | rfl | rfl | rfl | rfl | rfl | rfl | rfl | rfl | rfl | rfl | rfl | rfl | rfl | rfl | rfl | rfl | rfl | rfl | rfl | rfl | rfl | rfl | rfl | rfl | rfl | rfl <;> first | exact .inl rfl | exact .inr (by assumption)) (by decide +kernel))) ?_
                                                                                                exact Ne.jnx (trivial) (by repeat (first | exact trivial | refine ⟨rfl, ?_⟩)) (List.Sublist.refl _)
                                                                                              · refine Ce.as 4 (.bool false) rfl (congrArg Value.bool hc45) ?_
                                                                                                (try simp only [decide_eq_true_eq, decide_eq_false_iff_not, nrm_lt, nrm_nlt, nrm_eq, nrm_neq, nrm_seq, nrm_sneq, nrm_sempty, nrm_snempty, nrm_ofNat, Bool.not_eq_true', Bool.not_eq_false'] at hc45)
                                                                                                refine Ce.seq ?_
                                                                                                refine Ce.region ?_
                                                                                                refine Ie.p rfl rfl rfl rfl ?_
                                                                                                refine Ie.p rfl rfl rfl rfl ?_
                                                                                                refine Ie.nil ?_
                                                                                                refine Ne.seq ?_
                                                                                                refine Ce.cond rfl (fun hc46 => ?_) (fun hc46 => ?_)
                                                                                                · refine Ce.as 4 (.bool true) rfl (congrArg Value.bool hc46) ?_
                                                                                                  (try simp only [decide_eq_true_eq, decide_eq_false_iff_not, nrm_lt, nrm_nlt, nrm_eq, nrm_neq, nrm_seq, nrm_sneq, nrm_sempty, nrm_snempty, nrm_ofNat, Bool.not_eq_true', Bool.not_eq_false'] at hc46)
                                                                                                  refine Ce.skip ?_
                                                                                                  refine Ne.as 4 (.bool (decide (s.data.toList ∈ sgnL))) rfl (congrArg Value.bool (by first | exact (eqB_mem (by assumption) (by decide +kernel)).symm | exact last_mem (by intro w hw; unfold sgnL at hw; simp only [List.mem_cons, List.not_mem_nil, or_false] at hw; rcases hw with rfl | rfl | rfl | rfl | rfl | rfl | rfl | rfl | rfl | rfl | rfl | rfl | rfl | rfl | rfl | rfl | rfl | rfl | rfl | rfl | rfl | rfl | rfl | rfl | rfl | rfl | rfl | rfl | rfl | rfl | rfl | rfl | rfl | rfl | rfl | rfl | rfl | rfl | rfl | rfl | rfl | rfl | rfl | rfl | rfl | rfl | rfl | rfl | rfl <;> first | exact .inl rfl | exact .inr (by assumption)) (by decide +kernel))) ?_
                                                                                                  exact Ne.jnx (trivial) (by repeat (first | exact trivial | refine ⟨rfl, ?_⟩)) (List.Sublist.refl _)
                                                                                                · refine Ce.as 4 (.bool false) rfl (congrArg Value.bool hc46) ?_
                                                                                                  (try simp only [decide_eq_true_eq, decide_eq_false_iff_not, nrm_lt, nrm_nlt, nrm_eq, nrm_neq, nrm_seq, nrm_sneq, nrm_sempty, nrm_snempty, nrm_ofNat, Bool.not_eq_true', Bool.not_eq_false'] at hc46)
                                                                                                  refine Ce.seq ?_
                                                                                                  refine Ce.region ?_
                                                                                                  refine Ie.p rfl rfl rfl rfl ?_
                                                                                                  refine Ie.p rfl rfl rfl rfl ?_
                                                                                                  refine Ie.nil ?_
                                                                                                  refine Ne.seq ?_
                                                                                                  refine Ce.cond rfl (fun hc47 => ?_) (fun hc47 => ?_)
                                                                                                  · refine Ce.as 4 (.bool true) rfl (congrArg Value.bool hc47) ?_
                                                                                                    (try simp only [decide_eq_true_eq, decide_eq_false_iff_not, nrm_lt, nrm_nlt, nrm_eq, nrm_neq, nrm_seq, nrm_sneq, nrm_sempty, nrm_snempty, nrm_ofNat, Bool.not_eq_true', Bool.not_eq_false'] at hc47)
                                                                                                    refine Ce.skip ?_
                                                                                                    refine Ne.as 4 (.bool (decide (s.data.toList ∈ sgnL))) rfl (congrArg Value.bool (by first | exact (eqB_mem (by assumption) (by decide +kernel)).symm | exact last_mem (by intro w hw; unfold sgnL at hw; simp only [List.mem_cons, List.not_mem_nil, or_false] at hw; rcases hw with rfl | rfl | rfl | rfl | rfl | rfl | rfl | rfl | rfl | rfl | rfl | rfl | rfl | rfl | rfl | rfl | rfl | rfl | rfl | rfl | rfl | rfl | rfl | rfl | rfl | rfl | rfl | rfl | rfl | rfl | rfl | rfl | rfl | rfl | rfl | rfl | rfl | rfl | rfl | rfl | rfl | rfl | rfl | rfl | rfl | rfl | rfl | rfl | rfl <;> first | exact .inl rfl | exact .inr (by assumption)) (by decide +kernel))) ?_
                                                                                                    exact Ne.jnx (trivial) (by repeat (first | exact trivial | refine ⟨rfl, ?_⟩)) (List.Sublist.refl _)
                                                                                                  · refine Ce.as 4 (.bool false) rfl (congrArg Value.bool hc47) ?_
                                                                                                    (try simp only [decide_eq_true_eq, decide_eq_false_iff_not, nrm_lt, nrm_nlt, nrm_eq, nrm_neq, nrm_seq, nrm_sneq, nrm_sempty, nrm_snempty, nrm_ofNat, Bool.not_eq_true', Bool.not_eq_false'] at hc47)
                                                                                                    refine Ce.region ?_
                                                                                                    refine Ie.p rfl rfl rfl rfl ?_
                                                                                                    refine Ie.p rfl rfl rfl rfl ?_
                                                                                                    refine Ie.nil ?_
                                                                                                    refine Ne.as 4 (.bool (decide (s.data.toList ∈ sgnL))) rfl (congrArg Value.bool (by first | exact (eqB_mem (by assumption) (by decide +kernel)).symm | exact last_mem (by intro w hw; unfold sgnL at hw; simp only [List.mem_cons, List.not_mem_nil, or_false] at hw; rcases hw with rfl | rfl | rfl | rfl | rfl | rfl | rfl | rfl | rfl | rfl | rfl | rfl | rfl | rfl | rfl | rfl | rfl | rfl | rfl | rfl | rfl | rfl | rfl | rfl | rfl | rfl | rfl | rfl | rfl | rfl | rfl | rfl | rfl | rfl | rfl | rfl | rfl | rfl | rfl | rfl | rfl | rfl | rfl | rfl | rfl | rfl | rfl | rfl | rfl <;> first | exact .inl rfl | exact .inr (by assumption)) (by decide +kernel))) ?_
                                                                                                    exact Ne.jnx (trivial) (by repeat (first | exact trivial | refine ⟨rfl, ?_⟩)) (List.Sublist.refl _)
  · refine Ce.cond rfl (fun hc48 => ?_) (fun hc48 => ?_)
    · refine Ce.as 4 (.bool true) rfl (congrArg Value.bool hc48) ?_
      (try simp only [decide_eq_true_eq, decide_eq_false_iff_not, nrm_lt, nrm_nlt, nrm_eq, nrm_neq, nrm_seq, nrm_sneq, nrm_sempty, nrm_snempty, nrm_ofNat, Bool.not_eq_true', Bool.not_eq_false'] at hc48)
      refine Ce.seq ?_
      refine Ce.region ?_
      refine Ie.p rfl rfl rfl rfl ?_
      refine Ie.nil ?_
      refine Ne.seq ?_
      refine Ce.ret ?_
      refine Re.blk ?_
      refine Re.seq ?_
      exact Re.end_ rfl rfl (fun m hm => ⟨congrArg Value.bool (by first | exact (decide_eq_true (by assumption)).symm | exact (decide_eq_false (by assumption)).symm), hm.ext⟩)
    · refine Ce.as 4 (.bool false) rfl (congrArg Value.bool hc48) ?_
      (try simp only [decide_eq_true_eq, decide_eq_false_iff_not, nrm_lt, nrm_nlt, nrm_eq, nrm_neq, nrm_seq, nrm_sneq, nrm_sempty, nrm_snempty, nrm_ofNat, Bool.not_eq_true', Bool.not_eq_false'] at hc48)
      refine Ce.skip ?_
      refine Ne.blk ?_
      refine Ne.seq ?_
      refine Ce.seq ?_
      refine Ce.region ?_
      refine Ie.p rfl rfl rfl rfl ?_
      refine Ie.nil ?_
      refine Ne.seq ?_
      refine Ce.ret ?_
      exact Re.end_ rfl rfl (fun m hm => ⟨congrArg Value.bool (by first | exact (decide_eq_true (by assumption)).symm | exact (decide_eq_false (by assumption)).symm), hm.ext⟩)

theorem isName_ok {s : ByteArray} {m : AW} (hm : m.lo ≤ m.next) (hs : s.size ≤ 300) (hlay : LaidAt lays m) : Fc Tryz.prog 5 [.string s] m fun v m' => v = .bool (nmB s) ∧ Ext m m' := by
  refine Fc.body (c := _) Tryz.func5 rfl rfl rfl rfl hm ?_
  refine Ce.seq ?_
  refine Ce.region ?_
  refine Ie.p rfl rfl rfl rfl ?_
  refine Ie.nil ?_
  refine Ne.seq ?_
  refine Ce.seq ?_
  refine Ce.region ?_
  refine Ie.p rfl rfl rfl rfl ?_
  refine Ie.p rfl rfl rfl rfl ?_
  refine Ie.p rfl rfl rfl rfl ?_
  refine Ie.splitB 5 rfl (fun hs_5 => ?_) (fun hs_5 => ?_)
  · (try simp only [decide_eq_true_eq, decide_eq_false_iff_not, nrm_lt, nrm_nlt, nrm_eq, nrm_neq, nrm_seq, nrm_sneq, nrm_sempty, nrm_snempty, nrm_ofNat, Bool.not_eq_true', Bool.not_eq_false'] at hs_5)
    obtain ⟨x0, hx0⟩ := byte_at (s := s) (i := 0) (by omega)
    refine Ie.p rfl rfl rfl rfl ?_
    refine Ie.len rfl rfl rfl rfl rfl (ln9 ..) ?_
    refine Ie.p rfl rfl rfl rfl ?_
    refine Ie.p rfl rfl rfl rfl ?_
    refine Ie.p rfl rfl rfl rfl ?_
    refine Ie.splitB 10 rfl (fun hs1 => ?_) (fun hs1 => ?_)
    · (try simp only [decide_eq_true_eq, decide_eq_false_iff_not, nrm_lt, nrm_nlt, nrm_eq, nrm_neq, nrm_seq, nrm_sneq, nrm_sempty, nrm_snempty, nrm_ofNat, Bool.not_eq_true', Bool.not_eq_false'] at hs1)
      refine Ie.p rfl rfl rfl rfl ?_
      refine Ie.indexStr rfl rfl rfl rfl Tryz.underlying9 rfl rfl (hx0) ?_
      refine Ie.call _ rfl rfl rfl rfl rfl rfl (fun m hm => digit_ok hm.lole) ?_
      refine Ie.p rfl rfl rfl rfl ?_
      refine Ie.p rfl rfl rfl rfl ?_
      refine Ie.p rfl rfl rfl rfl ?_
      refine Ie.splitB 16 rfl (fun hs2 => ?_) (fun hs2 => ?_)
      · (try simp only [decide_eq_true_eq, decide_eq_false_iff_not, nrm_lt, nrm_nlt, nrm_eq, nrm_neq, nrm_seq, nrm_sneq, nrm_sempty, nrm_snempty, nrm_ofNat, Bool.not_eq_true', Bool.not_eq_false'] at hs2)
        refine Ie.p rfl rfl rfl rfl ?_
        refine Ie.call _ rfl rfl rfl rfl rfl rfl (fun m hm => word_ok hm.lole hs) ?_
        refine Ie.p rfl rfl rfl rfl ?_
        refine Ie.len rfl rfl rfl rfl rfl (ln9 ..) ?_
        refine Ie.p rfl rfl rfl rfl ?_
        refine Ie.p rfl rfl rfl rfl ?_
        refine Ie.p rfl rfl rfl rfl ?_
        refine Ie.splitB 23 rfl (fun hs_23 => ?_) (fun hs_23 => ?_)
        · (try simp only [decide_eq_true_eq, decide_eq_false_iff_not, nrm_lt, nrm_nlt, nrm_eq, nrm_neq, nrm_seq, nrm_sneq, nrm_sempty, nrm_snempty, nrm_ofNat, Bool.not_eq_true', Bool.not_eq_false'] at hs_23)
          have hal := word_all.1 (show wordN s = s.size by omega)
          refine Ie.p rfl rfl rfl rfl ?_
          refine Ie.call _ rfl rfl rfl rfl rfl rfl (fun m hm => isKey_ok hm.lole hs (hlay.kr hm)) ?_
          refine Ie.p rfl rfl rfl rfl ?_
          refine Ie.p rfl rfl rfl rfl ?_
          refine Ie.p rfl rfl rfl rfl ?_
          refine Ie.nil ?_
          refine Ne.seq ?_
          refine Ce.ret ?_
          exact Re.end_ rfl rfl (fun m hm => ⟨congrArg Value.bool (by unfold nmB; rw [key_law, decide_eq_true (show s.size ≤ 40 by omega), spB_at hx0, hs2, hal]; rfl), hm.ext⟩)
        · (try simp only [decide_eq_true_eq, decide_eq_false_iff_not, nrm_lt, nrm_nlt, nrm_eq, nrm_neq, nrm_seq, nrm_sneq, nrm_sempty, nrm_snempty, nrm_ofNat, Bool.not_eq_true', Bool.not_eq_false'] at hs_23)
          have hal : allW s = false := by cases hb_ : allW s with | false => rfl | true => exact absurd (word_all.2 hb_) (by omega)
          refine Ie.off rfl rfl rfl ?_
          refine Ie.off rfl rfl rfl ?_
          refine Ie.off rfl rfl rfl ?_
          refine Ie.p rfl rfl rfl rfl ?_
          refine Ie.p rfl rfl rfl rfl ?_
          refine Ie.nil ?_
          refine Ne.seq ?_
          refine Ce.ret ?_
          exact Re.end_ rfl rfl (fun m hm => ⟨congrArg Value.bool (by unfold nmB; rw [spB_word hal, Bool.false_and, Bool.and_false]), hm.ext⟩)
      · (try simp only [decide_eq_true_eq, decide_eq_false_iff_not, nrm_lt, nrm_nlt, nrm_eq, nrm_neq, nrm_seq, nrm_sneq, nrm_sempty, nrm_snempty, nrm_ofNat, Bool.not_eq_true', Bool.not_eq_false'] at hs2)
        refine Ie.off rfl rfl rfl ?_
        refine Ie.off rfl rfl rfl ?_
        refine Ie.off rfl rfl rfl ?_
        refine Ie.off rfl rfl rfl ?_
        refine Ie.off rfl rfl rfl ?_
        refine Ie.p rfl rfl rfl rfl ?_
        refine Ie.p rfl rfl rfl rfl ?_
        refine Ie.off rfl rfl rfl ?_
        refine Ie.off rfl rfl rfl ?_
        refine Ie.off rfl rfl rfl ?_
        refine Ie.p rfl rfl rfl rfl ?_
        refine Ie.p rfl rfl rfl rfl ?_
        refine Ie.nil ?_
        refine Ne.seq ?_
        refine Ce.ret ?_
        exact Re.end_ rfl rfl (fun m hm => ⟨congrArg Value.bool (by unfold nmB; rw [spB_at hx0, hs2, Bool.not_true, Bool.false_and, Bool.false_and, Bool.and_false]), hm.ext⟩)
    · (try simp only [decide_eq_true_eq, decide_eq_false_iff_not, nrm_lt, nrm_nlt, nrm_eq, nrm_neq, nrm_seq, nrm_sneq, nrm_sempty, nrm_snempty, nrm_ofNat, Bool.not_eq_true', Bool.not_eq_false'] at hs1)
      refine Ie.off rfl rfl rfl ?_
      refine Ie.off rfl rfl rfl ?_
      refine Ie.off rfl rfl rfl ?_
      refine Ie.off rfl rfl rfl ?_
      refine Ie.p rfl rfl rfl rfl ?_
      refine Ie.p rfl rfl rfl rfl ?_
      refine Ie.off rfl rfl rfl ?_
      refine Ie.off rfl rfl rfl ?_
      refine Ie.off rfl rfl rfl ?_
      refine Ie.off rfl rfl rfl ?_
      refine Ie.off rfl rfl rfl ?_
      refine Ie.p rfl rfl rfl rfl ?_
      refine Ie.p rfl rfl rfl rfl ?_
      refine Ie.off rfl rfl rfl ?_
      refine Ie.off rfl rfl rfl ?_
      refine Ie.off rfl rfl rfl ?_
      refine Ie.p rfl rfl rfl rfl ?_
      refine Ie.p rfl rfl rfl rfl ?_
      refine Ie.nil ?_
      refine Ne.seq ?_
      refine Ce.ret ?_
      exact Re.end_ rfl rfl (fun m hm => ⟨congrArg Value.bool (by unfold nmB; rw [decide_eq_false (show ¬ s.size ≤ 40 by omega), Bool.false_and]), hm.ext⟩)
  · (try simp only [decide_eq_true_eq, decide_eq_false_iff_not, nrm_lt, nrm_nlt, nrm_eq, nrm_neq, nrm_seq, nrm_sneq, nrm_sempty, nrm_snempty, nrm_ofNat, Bool.not_eq_true', Bool.not_eq_false'] at hs_5)
    refine Ie.off rfl rfl rfl ?_
    refine Ie.off rfl rfl rfl ?_
    refine Ie.off rfl rfl rfl ?_
    refine Ie.p rfl rfl rfl rfl ?_
    refine Ie.p rfl rfl rfl rfl ?_
    refine Ie.off rfl rfl rfl ?_
    refine Ie.off rfl rfl rfl ?_
    refine Ie.off rfl rfl rfl ?_
    refine Ie.off rfl rfl rfl ?_
    refine Ie.p rfl rfl rfl rfl ?_
    refine Ie.p rfl rfl rfl rfl ?_
    refine Ie.off rfl rfl rfl ?_
    refine Ie.off rfl rfl rfl ?_
    refine Ie.off rfl rfl rfl ?_
    refine Ie.off rfl rfl rfl ?_
    refine Ie.off rfl rfl rfl ?_
    refine Ie.p rfl rfl rfl rfl ?_
    refine Ie.p rfl rfl rfl rfl ?_
    refine Ie.off rfl rfl rfl ?_
    refine Ie.off rfl rfl rfl ?_
    refine Ie.off rfl rfl rfl ?_
    refine Ie.p rfl rfl rfl rfl ?_
    refine Ie.p rfl rfl rfl rfl ?_
    refine Ie.nil ?_
    refine Ne.seq ?_
    refine Ce.ret ?_
    exact Re.end_ rfl rfl (fun m hm => ⟨congrArg Value.bool (by unfold nmB; rw [spB_zero (by omega), Bool.false_and, Bool.and_false]), hm.ext⟩)

theorem rName_ok {s : ByteArray} {m : AW} (hm : m.lo ≤ m.next) (hs : s.size ≤ 300) : Fc Tryz.prog 6 [.string s] m fun v m' => v = .bool (nmB s) ∧ Ext m m' := by
  refine Fc.body (c := _) Tryz.func6 rfl rfl rfl rfl hm ?_
  refine Ce.seq ?_
  refine Ce.region ?_
  refine Ie.p rfl rfl rfl rfl ?_
  refine Ie.nil ?_
  refine Ne.seq ?_
  refine Ce.seq ?_
  refine Ce.region ?_
  refine Ie.p rfl rfl rfl rfl ?_
  refine Ie.len rfl rfl rfl rfl rfl (ln9 ..) ?_
  refine Ie.p rfl rfl rfl rfl ?_
  refine Ie.p rfl rfl rfl rfl ?_
  refine Ie.splitB 6 rfl (fun hs0 => ?_) (fun hs0 => ?_)
  · (try simp only [decide_eq_true_eq, decide_eq_false_iff_not, nrm_lt, nrm_nlt, nrm_eq, nrm_neq, nrm_seq, nrm_sneq, nrm_sempty, nrm_snempty, nrm_ofNat, Bool.not_eq_true', Bool.not_eq_false'] at hs0)
    refine Ie.p rfl rfl rfl rfl ?_
    refine Ie.call _ rfl rfl rfl rfl rfl rfl (fun m hm => spelt_ok hm.lole hs) ?_
    refine Ie.p rfl rfl rfl rfl ?_
    refine Ie.p rfl rfl rfl rfl ?_
    refine Ie.splitB 10 rfl (fun hs1 => ?_) (fun hs1 => ?_)
    · (try simp only [decide_eq_true_eq, decide_eq_false_iff_not, nrm_lt, nrm_nlt, nrm_eq, nrm_neq, nrm_seq, nrm_sneq, nrm_sempty, nrm_snempty, nrm_ofNat, Bool.not_eq_true', Bool.not_eq_false'] at hs1)
      refine Ie.p rfl rfl rfl rfl ?_
      refine Ie.call _ rfl rfl rfl rfl rfl rfl (fun m hm => rKey_ok hm.lole) ?_
      refine Ie.p rfl rfl rfl rfl ?_
      refine Ie.p rfl rfl rfl rfl ?_
      refine Ie.p rfl rfl rfl rfl ?_
      refine Ie.nil ?_
      refine Ne.seq ?_
      refine Ce.ret ?_
      exact Re.end_ rfl rfl (fun m hm => ⟨congrArg Value.bool (by unfold nmB; rw [decide_eq_true (show s.size ≤ 40 by omega), hs1]; rfl), hm.ext⟩)
    · (try simp only [decide_eq_true_eq, decide_eq_false_iff_not, nrm_lt, nrm_nlt, nrm_eq, nrm_neq, nrm_seq, nrm_sneq, nrm_sempty, nrm_snempty, nrm_ofNat, Bool.not_eq_true', Bool.not_eq_false'] at hs1)
      refine Ie.off rfl rfl rfl ?_
      refine Ie.off rfl rfl rfl ?_
      refine Ie.off rfl rfl rfl ?_
      refine Ie.p rfl rfl rfl rfl ?_
      refine Ie.p rfl rfl rfl rfl ?_
      refine Ie.nil ?_
      refine Ne.seq ?_
      refine Ce.ret ?_
      exact Re.end_ rfl rfl (fun m hm => ⟨congrArg Value.bool (by unfold nmB; rw [hs1, Bool.false_and, Bool.and_false]), hm.ext⟩)
  · (try simp only [decide_eq_true_eq, decide_eq_false_iff_not, nrm_lt, nrm_nlt, nrm_eq, nrm_neq, nrm_seq, nrm_sneq, nrm_sempty, nrm_snempty, nrm_ofNat, Bool.not_eq_true', Bool.not_eq_false'] at hs0)
    refine Ie.off rfl rfl rfl ?_
    refine Ie.off rfl rfl rfl ?_
    refine Ie.p rfl rfl rfl rfl ?_
    refine Ie.p rfl rfl rfl rfl ?_
    refine Ie.off rfl rfl rfl ?_
    refine Ie.off rfl rfl rfl ?_
    refine Ie.off rfl rfl rfl ?_
    refine Ie.p rfl rfl rfl rfl ?_
    refine Ie.p rfl rfl rfl rfl ?_
    refine Ie.nil ?_
    refine Ne.seq ?_
    refine Ce.ret ?_
    exact Re.end_ rfl rfl (fun m hm => ⟨congrArg Value.bool (by unfold nmB; rw [decide_eq_false (show ¬ s.size ≤ 40 by omega), Bool.false_and]), hm.ext⟩)

theorem sgn_law (s : List UInt8) : decide (s ∈ signL) = decide (s ∈ sgnL) := by
  have h1 : ∀ w ∈ signL, w ∈ sgnL := by decide +kernel
  have h2 : ∀ w ∈ sgnL, w ∈ signL := by decide +kernel
  rw [Bool.eq_iff_iff, decide_eq_true_iff, decide_eq_true_iff]
  exact ⟨h1 s, h2 s⟩

theorem words_ok {s : ByteArray} {m : AW} (hm : m.lo ≤ m.next) (hlay : LaidAt lays m) : Fc Tryz.prog 3 [.string s] m fun v m' => v = .bool true ∧ Ext m m' := by
  refine Fc.body (c := _) Tryz.func3 rfl rfl rfl rfl hm ?_
  refine Ce.seq ?_
  refine Ce.region ?_
  refine Ie.p rfl rfl rfl rfl ?_
  refine Ie.nil ?_
  refine Ne.seq ?_
  refine Ce.seq ?_
  refine Ce.seq ?_
  refine Ce.region ?_
  refine Ie.p rfl rfl rfl rfl ?_
  refine Ie.len rfl rfl rfl rfl rfl (ln9 ..) ?_
  refine Ie.p rfl rfl rfl rfl ?_
  refine Ie.nil ?_
  refine Ne.seq ?_
  refine Ce.cond rfl (fun ht5 => ?_) (fun ht5 => ?_)
  · (try simp only [decide_eq_true_eq, decide_eq_false_iff_not, nrm_lt, nrm_nlt, nrm_eq, nrm_neq, nrm_seq, nrm_sneq, nrm_sempty, nrm_snempty, nrm_ofNat, Bool.not_eq_true', Bool.not_eq_false'] at ht5)
    refine Ce.seq ?_
    refine Ce.region ?_
    refine Ie.call _ rfl rfl rfl rfl rfl rfl (fun m hm => awake_ok (hlay.kr hm)) ?_
    refine Ie.p rfl rfl rfl rfl ?_
    refine Ie.nil ?_
    refine Ne.seq ?_
    refine Ce.ret ?_
    refine Re.seq ?_
    exact Re.end_ rfl rfl (fun m hm => ⟨rfl, hm.ext⟩)
  · (try simp only [decide_eq_true_eq, decide_eq_false_iff_not, nrm_lt, nrm_nlt, nrm_eq, nrm_neq, nrm_seq, nrm_sneq, nrm_sempty, nrm_snempty, nrm_ofNat, Bool.not_eq_true', Bool.not_eq_false'] at ht5)
    have hs : s.size ≤ 300 := by omega
    refine Ce.skip ?_
    refine Ne.seq ?_
    refine Ce.seq ?_
    refine Ce.region ?_
    refine Ie.call _ rfl rfl rfl rfl rfl rfl (fun m hm => awake_ok (hlay.kr hm)) ?_
    refine Ie.p rfl rfl rfl rfl ?_
    refine Ie.p rfl rfl rfl rfl ?_
    refine Ie.call _ rfl rfl rfl rfl rfl rfl (fun m hm => isName_ok hm.lole hs (hlay.kr hm)) ?_
    refine Ie.p rfl rfl rfl rfl ?_
    refine Ie.call _ rfl rfl rfl rfl rfl rfl (fun m hm => rName_ok hm.lole hs) ?_
    refine Ie.p (v := .bool true) rfl rfl rfl (by simp only [opE, evE, look]; cases nmB s <;> kernel_rfl) ?_
    refine Ie.p rfl rfl rfl rfl ?_
    refine Ie.p rfl rfl rfl rfl ?_
    refine Ie.p rfl rfl rfl rfl ?_
    refine Ie.call _ rfl rfl rfl rfl rfl rfl (fun m hm => isKey_ok hm.lole hs (hlay.kr hm)) ?_
    refine Ie.as 17 (.bool (decide (s.data.toList ∈ keyL))) rfl (congrArg Value.bool (key_law s)) ?_
    refine Ie.p rfl rfl rfl rfl ?_
    refine Ie.call _ rfl rfl rfl rfl rfl rfl (fun m hm => rKey_ok hm.lole) ?_
    refine Ie.p (v := .bool true) rfl rfl rfl (by simp only [opE, evE, look]; cases decide (s.data.toList ∈ keyL) <;> kernel_rfl) ?_
    refine Ie.p rfl rfl rfl rfl ?_
    refine Ie.p rfl rfl rfl rfl ?_
    refine Ie.p rfl rfl rfl rfl ?_
    refine Ie.call _ rfl rfl rfl rfl rfl rfl (fun m hm => isSign_ok hm.lole (hlay.kr hm)) ?_
    refine Ie.as 24 (.bool (decide (s.data.toList ∈ sgnL))) rfl (congrArg Value.bool (sgn_law _)) ?_
    refine Ie.p rfl rfl rfl rfl ?_
    refine Ie.call _ rfl rfl rfl rfl rfl rfl (fun m hm => rSign_ok hm.lole) ?_
    refine Ie.p (v := .bool true) rfl rfl rfl (by simp only [opE, evE, look]; cases decide (s.data.toList ∈ sgnL) <;> kernel_rfl) ?_
    refine Ie.p rfl rfl rfl rfl ?_
    refine Ie.p rfl rfl rfl rfl ?_
    refine Ie.nil ?_
    refine Ne.seq ?_
    refine Ce.ret ?_
    exact Re.end_ rfl rfl (fun m hm => ⟨rfl, hm.ext⟩)

end Go.Proofs.YtodpkhdfmcijnaaGreatDoor
