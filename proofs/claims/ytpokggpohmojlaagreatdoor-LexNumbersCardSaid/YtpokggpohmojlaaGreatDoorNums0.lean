/-
  LexNumbers: the functions that it calls, followed. Conditions: none.
-/
import Derived.Test.YtpokggpohmojlaaGreatDoorAwk
import Derived.Test.YtpokggpohmojlaaGreatDoorPla
namespace Go.Proofs.YtpokggpohmojlaaGreatDoor
open Go Go.Ab
set_option linter.unusedVariables false
set_option linter.unusedSimpArgs false
set_option linter.unusedSectionVars false
variable [Mx]
theorem ag2 : aggT Tryz.prog 2 = some false := by kernel_rfl
theorem ag22 : aggT Tryz.prog 22 = some false := by kernel_rfl
theorem ag25 : aggT Tryz.prog 25 = some true := by kernel_rfl
theorem ag3 : aggT Tryz.prog 3 = some false := by kernel_rfl
theorem ag30 : aggT Tryz.prog 30 = some true := by kernel_rfl
theorem ag32 : aggT Tryz.prog 32 = some false := by kernel_rfl
theorem ag5 : aggT Tryz.prog 5 = some false := by kernel_rfl
theorem ag9 : aggT Tryz.prog 9 = some false := by kernel_rfl
theorem ap30 : AppC Tryz.prog 30 4 = true := by kernel_rfl
theorem bs22_1 : ∀ (x0 x1 x2 x3 : Value), buildSliceA Tryz.prog 22 1 [(0, .agg ⟨[x0, x1, x2, x3]⟩)] = some (.cells [x0, x1, x2, x3] 30 false .plain none, sliceTo 1 1) := fun _ _ _ _ => by kernel_rfl
theorem fa30_0 : ∀ b off, fieldAddrA Tryz.prog 30 (.pointer (some ⟨b, off, none⟩)) 0 = some (.pointer (some ⟨b, off + 0, none⟩)) := fun _ _ => by kernel_rfl
theorem fa30_2 : ∀ b off, fieldAddrA Tryz.prog 30 (.pointer (some ⟨b, off, none⟩)) 2 = some (.pointer (some ⟨b, off + 2, none⟩)) := fun _ _ => by kernel_rfl
theorem fa34_0 : ∀ b off, fieldAddrA Tryz.prog 34 (.pointer (some ⟨b, off, none⟩)) 0 = some (.pointer (some ⟨b, off + 0, none⟩)) := fun _ _ => by kernel_rfl
theorem fa34_1 : ∀ b off, fieldAddrA Tryz.prog 34 (.pointer (some ⟨b, off, none⟩)) 1 = some (.pointer (some ⟨b, off + 1, none⟩)) := fun _ _ => by kernel_rfl
theorem fa36_0 : ∀ b off, fieldAddrA Tryz.prog 36 (.pointer (some ⟨b, off, none⟩)) 0 = some (.pointer (some ⟨b, off + 0, none⟩)) := fun _ _ => by kernel_rfl
theorem fa36_1 : ∀ b off, fieldAddrA Tryz.prog 36 (.pointer (some ⟨b, off, none⟩)) 1 = some (.pointer (some ⟨b, off + 2, none⟩)) := fun _ _ => by kernel_rfl
theorem ln22 : ∀ a n c, lenA Tryz.prog 22 (.slice a n c) = some (.imm (.int .i64 (Int.ofNat n))) := fun _ _ _ => by kernel_rfl
theorem ln65 : ∀ a n c, lenA Tryz.prog 65 (.slice a n c) = some (.imm (.int .i64 (Int.ofNat n))) := fun _ _ _ => by kernel_rfl
theorem ln9 : ∀ s, lenA Tryz.prog 9 (.string s) = some (.imm (.int .i64 (Int.ofNat s.size))) := fun _ => by kernel_rfl
theorem sz2 : sizeT Tryz.prog 2 = some 1 := by kernel_rfl
theorem sz22 : sizeT Tryz.prog 22 = some 1 := by kernel_rfl
theorem sz25 : sizeT Tryz.prog 25 = some 2 := by kernel_rfl
theorem sz3 : sizeT Tryz.prog 3 = some 1 := by kernel_rfl
theorem sz30 : sizeT Tryz.prog 30 = some 4 := by kernel_rfl
theorem sz5 : sizeT Tryz.prog 5 = some 1 := by kernel_rfl
theorem zr22 : zeroT Tryz.prog 22 = some (.slice none 0 0) := by kernel_rfl
theorem zr25 : zeroT Tryz.prog 25 = some (.agg ⟨[.int .i64 0, .int .i64 0]⟩) := by kernel_rfl
theorem zr30 : zeroT Tryz.prog 30 = some (.agg ⟨[.int .i64 0, .string ⟨⟨[]⟩⟩, .int .i64 0, .int .i64 0]⟩) := by kernel_rfl
theorem letter_ok {c : Nat} {m : AW} (hm : m.lo ≤ m.next) : Fc Tryz.prog 13 [.int .u8 (Int.ofNat c)] m fun v m' => v = .bool (letB c) ∧ Ext m m' := by
  refine Fc.body (c := _) Tryz.func13 rfl rfl rfl rfl hm ?_
  refine Ce.seq ?_
  refine Ce.region ?_
  refine Ie.p rfl rfl rfl rfl ?_
  refine Ie.nil ?_
  refine Ne.seq ?_
  refine Ce.seq ?_
  refine Ce.region ?_
  refine Ie.p rfl rfl rfl rfl ?_
  refine Ie.p rfl rfl rfl rfl ?_
  refine Ie.p rfl rfl rfl rfl ?_
  refine Ie.splitB 5 rfl (fun hs0 => ?_) (fun hs0 => ?_)
  · (try simp only [decide_eq_true_eq, decide_eq_false_iff_not, nrm_lt, nrm_nlt, nrm_eq, nrm_neq, nrm_seq, nrm_sneq, nrm_sempty, nrm_snempty, nrm_ofNat, Bool.not_eq_true', Bool.not_eq_false'] at hs0)
    refine Ie.p rfl rfl rfl rfl ?_
    refine Ie.p rfl rfl rfl rfl ?_
    refine Ie.p rfl rfl rfl rfl ?_
    refine Ie.p rfl rfl rfl rfl ?_
    refine Ie.splitB 9 rfl (fun hs1 => ?_) (fun hs1 => ?_)
    · (try simp only [decide_eq_true_eq, decide_eq_false_iff_not, nrm_lt, nrm_nlt, nrm_eq, nrm_neq, nrm_seq, nrm_sneq, nrm_sempty, nrm_snempty, nrm_ofNat, Bool.not_eq_true', Bool.not_eq_false'] at hs1)
      refine Ie.off rfl rfl rfl ?_
      refine Ie.off rfl rfl rfl ?_
      refine Ie.off rfl rfl rfl ?_
      refine Ie.off rfl rfl rfl ?_
      refine Ie.off rfl rfl rfl ?_
      refine Ie.off rfl rfl rfl ?_
      refine Ie.p rfl rfl rfl rfl ?_
      refine Ie.p rfl rfl rfl rfl ?_
      refine Ie.off rfl rfl rfl ?_
      refine Ie.off rfl rfl rfl ?_
      refine Ie.p rfl rfl rfl rfl ?_
      refine Ie.p rfl rfl rfl rfl ?_
      refine Ie.nil ?_
      refine Ne.seq ?_
      refine Ce.ret ?_
      exact Re.end_ rfl rfl (fun m hm => ⟨congrArg Value.bool ((by unfold letB; rw [Bool.eq_iff_iff]; simp only [nrm_lt, nrm_nlt, nrm_eq, nrm_neq, nrm_seq, nrm_sneq, nrm_sempty, nrm_snempty, nrm_ofNat, Bool.not_eq_true', Bool.not_eq_false', decide_eq_true_eq, Bool.false_eq_true, reduceCtorEq, Classical.not_not, true_iff, false_iff, iff_true, iff_false]; omega)), hm.ext⟩)
    · (try simp only [decide_eq_true_eq, decide_eq_false_iff_not, nrm_lt, nrm_nlt, nrm_eq, nrm_neq, nrm_seq, nrm_sneq, nrm_sempty, nrm_snempty, nrm_ofNat, Bool.not_eq_true', Bool.not_eq_false'] at hs1)
      refine Ie.p rfl rfl rfl rfl ?_
      refine Ie.p rfl rfl rfl rfl ?_
      refine Ie.p rfl rfl rfl rfl ?_
      refine Ie.splitB 12 rfl (fun hs2 => ?_) (fun hs2 => ?_)
      · (try simp only [decide_eq_true_eq, decide_eq_false_iff_not, nrm_lt, nrm_nlt, nrm_eq, nrm_neq, nrm_seq, nrm_sneq, nrm_sempty, nrm_snempty, nrm_ofNat, Bool.not_eq_true', Bool.not_eq_false'] at hs2)
        refine Ie.p rfl rfl rfl rfl ?_
        refine Ie.p rfl rfl rfl rfl ?_
        refine Ie.p rfl rfl rfl rfl ?_
        refine Ie.p rfl rfl rfl rfl ?_
        refine Ie.p rfl rfl rfl rfl ?_
        refine Ie.splitB 17 rfl (fun hs3 => ?_) (fun hs3 => ?_)
        · (try simp only [decide_eq_true_eq, decide_eq_false_iff_not, nrm_lt, nrm_nlt, nrm_eq, nrm_neq, nrm_seq, nrm_sneq, nrm_sempty, nrm_snempty, nrm_ofNat, Bool.not_eq_true', Bool.not_eq_false'] at hs3)
          refine Ie.off rfl rfl rfl ?_
          refine Ie.off rfl rfl rfl ?_
          refine Ie.p rfl rfl rfl rfl ?_
          refine Ie.p rfl rfl rfl rfl ?_
          refine Ie.nil ?_
          refine Ne.seq ?_
          refine Ce.ret ?_
          exact Re.end_ rfl rfl (fun m hm => ⟨congrArg Value.bool ((by unfold letB; rw [Bool.eq_iff_iff]; simp only [nrm_lt, nrm_nlt, nrm_eq, nrm_neq, nrm_seq, nrm_sneq, nrm_sempty, nrm_snempty, nrm_ofNat, Bool.not_eq_true', Bool.not_eq_false', decide_eq_true_eq, Bool.false_eq_true, reduceCtorEq, Classical.not_not, true_iff, false_iff, iff_true, iff_false]; omega)), hm.ext⟩)
        · (try simp only [decide_eq_true_eq, decide_eq_false_iff_not, nrm_lt, nrm_nlt, nrm_eq, nrm_neq, nrm_seq, nrm_sneq, nrm_sempty, nrm_snempty, nrm_ofNat, Bool.not_eq_true', Bool.not_eq_false'] at hs3)
          refine Ie.p rfl rfl rfl rfl ?_
          refine Ie.p rfl rfl rfl rfl ?_
          refine Ie.p rfl rfl rfl rfl ?_
          refine Ie.p rfl rfl rfl rfl ?_
          refine Ie.nil ?_
          refine Ne.seq ?_
          refine Ce.ret ?_
          exact Re.end_ rfl rfl (fun m hm => ⟨congrArg Value.bool ((by unfold letB; rw [Bool.eq_iff_iff]; simp only [nrm_lt, nrm_nlt, nrm_eq, nrm_neq, nrm_seq, nrm_sneq, nrm_sempty, nrm_snempty, nrm_ofNat, Bool.not_eq_true', Bool.not_eq_false', decide_eq_true_eq, Bool.false_eq_true, reduceCtorEq, Classical.not_not, true_iff, false_iff, iff_true, iff_false]; omega)), hm.ext⟩)
      · (try simp only [decide_eq_true_eq, decide_eq_false_iff_not, nrm_lt, nrm_nlt, nrm_eq, nrm_neq, nrm_seq, nrm_sneq, nrm_sempty, nrm_snempty, nrm_ofNat, Bool.not_eq_true', Bool.not_eq_false'] at hs2)
        refine Ie.off rfl rfl rfl ?_
        refine Ie.off rfl rfl rfl ?_
        refine Ie.p rfl rfl rfl rfl ?_
        refine Ie.p rfl rfl rfl rfl ?_
        refine Ie.p rfl rfl rfl rfl ?_
        refine Ie.p rfl rfl rfl rfl ?_
        refine Ie.p rfl rfl rfl rfl ?_
        refine Ie.p rfl rfl rfl rfl ?_
        refine Ie.p rfl rfl rfl rfl ?_
        refine Ie.nil ?_
        refine Ne.seq ?_
        refine Ce.ret ?_
        exact Re.end_ rfl rfl (fun m hm => ⟨congrArg Value.bool ((by unfold letB; rw [Bool.eq_iff_iff]; simp only [nrm_lt, nrm_nlt, nrm_eq, nrm_neq, nrm_seq, nrm_sneq, nrm_sempty, nrm_snempty, nrm_ofNat, Bool.not_eq_true', Bool.not_eq_false', decide_eq_true_eq, Bool.false_eq_true, reduceCtorEq, Classical.not_not, true_iff, false_iff, iff_true, iff_false]; omega)), hm.ext⟩)
  · (try simp only [decide_eq_true_eq, decide_eq_false_iff_not, nrm_lt, nrm_nlt, nrm_eq, nrm_neq, nrm_seq, nrm_sneq, nrm_sempty, nrm_snempty, nrm_ofNat, Bool.not_eq_true', Bool.not_eq_false'] at hs0)
    refine Ie.off rfl rfl rfl ?_
    refine Ie.off rfl rfl rfl ?_
    refine Ie.p rfl rfl rfl rfl ?_
    refine Ie.p rfl rfl rfl rfl ?_
    refine Ie.p rfl rfl rfl rfl ?_
    refine Ie.p rfl rfl rfl rfl ?_
    refine Ie.p rfl rfl rfl rfl ?_
    refine Ie.splitB 12 rfl (fun hs4 => ?_) (fun hs4 => ?_)
    · (try simp only [decide_eq_true_eq, decide_eq_false_iff_not, nrm_lt, nrm_nlt, nrm_eq, nrm_neq, nrm_seq, nrm_sneq, nrm_sempty, nrm_snempty, nrm_ofNat, Bool.not_eq_true', Bool.not_eq_false'] at hs4)
      refine Ie.p rfl rfl rfl rfl ?_
      refine Ie.p rfl rfl rfl rfl ?_
      refine Ie.p rfl rfl rfl rfl ?_
      refine Ie.p rfl rfl rfl rfl ?_
      refine Ie.p rfl rfl rfl rfl ?_
      refine Ie.splitB 17 rfl (fun hs5 => ?_) (fun hs5 => ?_)
      · (try simp only [decide_eq_true_eq, decide_eq_false_iff_not, nrm_lt, nrm_nlt, nrm_eq, nrm_neq, nrm_seq, nrm_sneq, nrm_sempty, nrm_snempty, nrm_ofNat, Bool.not_eq_true', Bool.not_eq_false'] at hs5)
        refine Ie.off rfl rfl rfl ?_
        refine Ie.off rfl rfl rfl ?_
        refine Ie.p rfl rfl rfl rfl ?_
        refine Ie.p rfl rfl rfl rfl ?_
        refine Ie.nil ?_
        refine Ne.seq ?_
        refine Ce.ret ?_
        exact Re.end_ rfl rfl (fun m hm => ⟨congrArg Value.bool ((by unfold letB; rw [Bool.eq_iff_iff]; simp only [nrm_lt, nrm_nlt, nrm_eq, nrm_neq, nrm_seq, nrm_sneq, nrm_sempty, nrm_snempty, nrm_ofNat, Bool.not_eq_true', Bool.not_eq_false', decide_eq_true_eq, Bool.false_eq_true, reduceCtorEq, Classical.not_not, true_iff, false_iff, iff_true, iff_false]; omega)), hm.ext⟩)
      · (try simp only [decide_eq_true_eq, decide_eq_false_iff_not, nrm_lt, nrm_nlt, nrm_eq, nrm_neq, nrm_seq, nrm_sneq, nrm_sempty, nrm_snempty, nrm_ofNat, Bool.not_eq_true', Bool.not_eq_false'] at hs5)
        refine Ie.p rfl rfl rfl rfl ?_
        refine Ie.p rfl rfl rfl rfl ?_
        refine Ie.p rfl rfl rfl rfl ?_
        refine Ie.p rfl rfl rfl rfl ?_
        refine Ie.nil ?_
        refine Ne.seq ?_
        refine Ce.ret ?_
        exact Re.end_ rfl rfl (fun m hm => ⟨congrArg Value.bool ((by unfold letB; rw [Bool.eq_iff_iff]; simp only [nrm_lt, nrm_nlt, nrm_eq, nrm_neq, nrm_seq, nrm_sneq, nrm_sempty, nrm_snempty, nrm_ofNat, Bool.not_eq_true', Bool.not_eq_false', decide_eq_true_eq, Bool.false_eq_true, reduceCtorEq, Classical.not_not, true_iff, false_iff, iff_true, iff_false]; omega)), hm.ext⟩)
    · (try simp only [decide_eq_true_eq, decide_eq_false_iff_not, nrm_lt, nrm_nlt, nrm_eq, nrm_neq, nrm_seq, nrm_sneq, nrm_sempty, nrm_snempty, nrm_ofNat, Bool.not_eq_true', Bool.not_eq_false'] at hs4)
      refine Ie.off rfl rfl rfl ?_
      refine Ie.off rfl rfl rfl ?_
      refine Ie.p rfl rfl rfl rfl ?_
      refine Ie.p rfl rfl rfl rfl ?_
      refine Ie.p rfl rfl rfl rfl ?_
      refine Ie.p rfl rfl rfl rfl ?_
      refine Ie.p rfl rfl rfl rfl ?_
      refine Ie.p rfl rfl rfl rfl ?_
      refine Ie.p rfl rfl rfl rfl ?_
      refine Ie.nil ?_
      refine Ne.seq ?_
      refine Ce.ret ?_
      exact Re.end_ rfl rfl (fun m hm => ⟨congrArg Value.bool ((by unfold letB; rw [Bool.eq_iff_iff]; simp only [nrm_lt, nrm_nlt, nrm_eq, nrm_neq, nrm_seq, nrm_sneq, nrm_sempty, nrm_snempty, nrm_ofNat, Bool.not_eq_true', Bool.not_eq_false', decide_eq_true_eq, Bool.false_eq_true, reduceCtorEq, Classical.not_not, true_iff, false_iff, iff_true, iff_false]; omega)), hm.ext⟩)

theorem digit_ok {c : Nat} {m : AW} (hm : m.lo ≤ m.next) : Fc Tryz.prog 15 [.int .u8 (Int.ofNat c)] m fun v m' => v = .bool (digB c) ∧ Ext m m' := by
  refine Fc.body (c := _) Tryz.func15 rfl rfl rfl rfl hm ?_
  refine Ce.seq ?_
  refine Ce.region ?_
  refine Ie.p rfl rfl rfl rfl ?_
  refine Ie.nil ?_
  refine Ne.seq ?_
  refine Ce.seq ?_
  refine Ce.region ?_
  refine Ie.p rfl rfl rfl rfl ?_
  refine Ie.p rfl rfl rfl rfl ?_
  refine Ie.p rfl rfl rfl rfl ?_
  refine Ie.splitB 5 rfl (fun hs0 => ?_) (fun hs0 => ?_)
  · (try simp only [decide_eq_true_eq, decide_eq_false_iff_not, nrm_lt, nrm_nlt, nrm_eq, nrm_neq, nrm_seq, nrm_sneq, nrm_sempty, nrm_snempty, nrm_ofNat, Bool.not_eq_true', Bool.not_eq_false'] at hs0)
    refine Ie.p rfl rfl rfl rfl ?_
    refine Ie.p rfl rfl rfl rfl ?_
    refine Ie.p rfl rfl rfl rfl ?_
    refine Ie.p rfl rfl rfl rfl ?_
    refine Ie.nil ?_
    refine Ne.seq ?_
    refine Ce.ret ?_
    exact Re.end_ rfl rfl (fun m hm => ⟨congrArg Value.bool ((by unfold digB; rw [Bool.eq_iff_iff]; simp only [nrm_lt, nrm_nlt, nrm_eq, nrm_neq, nrm_seq, nrm_sneq, nrm_sempty, nrm_snempty, nrm_ofNat, Bool.not_eq_true', Bool.not_eq_false', decide_eq_true_eq, Bool.false_eq_true, reduceCtorEq, Classical.not_not, true_iff, false_iff, iff_true, iff_false]; omega)), hm.ext⟩)
  · (try simp only [decide_eq_true_eq, decide_eq_false_iff_not, nrm_lt, nrm_nlt, nrm_eq, nrm_neq, nrm_seq, nrm_sneq, nrm_sempty, nrm_snempty, nrm_ofNat, Bool.not_eq_true', Bool.not_eq_false'] at hs0)
    refine Ie.off rfl rfl rfl ?_
    refine Ie.off rfl rfl rfl ?_
    refine Ie.p rfl rfl rfl rfl ?_
    refine Ie.p rfl rfl rfl rfl ?_
    refine Ie.nil ?_
    refine Ne.seq ?_
    refine Ce.ret ?_
    exact Re.end_ rfl rfl (fun m hm => ⟨congrArg Value.bool ((by unfold digB; rw [Bool.eq_iff_iff]; simp only [nrm_lt, nrm_nlt, nrm_eq, nrm_neq, nrm_seq, nrm_sneq, nrm_sempty, nrm_snempty, nrm_ofNat, Bool.not_eq_true', Bool.not_eq_false', decide_eq_true_eq, Bool.false_eq_true, reduceCtorEq, Classical.not_not, true_iff, false_iff, iff_true, iff_false]; omega)), hm.ext⟩)

theorem value_ok {c : Nat} {m : AW} (hm : m.lo ≤ m.next) (hc : c < 256) : Fc Tryz.prog 37 [.int .u8 (Int.ofNat c)] m fun v m' => v = .int .u64 (Int.ofNat (valN c)) ∧ Ext m m' := by
  refine Fc.body (c := _) Tryz.func37 rfl rfl rfl rfl hm ?_
  refine Ce.seq ?_
  refine Ce.region ?_
  refine Ie.p rfl rfl rfl rfl ?_
  refine Ie.nil ?_
  refine Ne.seq ?_
  refine Ce.seq ?_
  refine Ce.block ?_
  refine Ce.seq ?_
  refine Ce.region ?_
  refine Ie.p rfl rfl rfl rfl ?_
  refine Ie.call _ rfl rfl rfl rfl rfl rfl (fun m hm => digit_ok hm.lole) ?_
  refine Ie.p rfl rfl rfl rfl ?_
  refine Ie.nil ?_
  refine Ne.seq ?_
  refine Ce.cond rfl (fun ht3 => ?_) (fun ht3 => ?_)
  · have h3_ := digB_iff.1 ht3
    refine Ce.seq ?_
    refine Ce.region ?_
    refine Ie.p rfl rfl rfl rfl ?_
    refine Ie.p rfl rfl rfl rfl ?_
    refine Ie.convInt rfl rfl rfl rfl Tryz.underlying5 Tryz.underlying50 rfl ?_
    refine Ie.p rfl rfl rfl rfl ?_
    refine Ie.nil ?_
    refine Ne.seq ?_
    refine Ce.ret ?_
    refine Re.blk ?_
    refine Re.seq ?_
    exact Re.end_ rfl rfl (fun m hm => ⟨congrArg (Value.int .u64) (by first | exact val_d (by omega) | exact val_l (by omega) | exact val_u (by omega) | exact val_n (by omega) (by omega) (by omega)), hm.ext⟩)
  · have h3_ := digB_not.1 ht3
    refine Ce.seq ?_
    refine Ce.region ?_
    refine Ie.p rfl rfl rfl rfl ?_
    refine Ie.p rfl rfl rfl rfl ?_
    refine Ie.p rfl rfl rfl rfl ?_
    refine Ie.splitB 12 rfl (fun hs0 => ?_) (fun hs0 => ?_)
    · (try simp only [decide_eq_true_eq, decide_eq_false_iff_not, nrm_lt, nrm_nlt, nrm_eq, nrm_neq, nrm_seq, nrm_sneq, nrm_sempty, nrm_snempty, nrm_ofNat, Bool.not_eq_true', Bool.not_eq_false'] at hs0)
      refine Ie.p rfl rfl rfl rfl ?_
      refine Ie.p rfl rfl rfl rfl ?_
      refine Ie.p rfl rfl rfl rfl ?_
      refine Ie.p rfl rfl rfl rfl ?_
      refine Ie.nil ?_
      refine Ne.seq ?_
      refine Ce.cond rfl (fun hc1 => ?_) (fun hc1 => ?_)
      · (try simp only [decide_eq_true_eq, decide_eq_false_iff_not, nrm_lt, nrm_nlt, nrm_eq, nrm_neq, nrm_seq, nrm_sneq, nrm_sempty, nrm_snempty, nrm_ofNat, Bool.not_eq_true', Bool.not_eq_false'] at hc1)
        refine Ce.seq ?_
        refine Ce.region ?_
        refine Ie.p rfl rfl rfl rfl ?_
        refine Ie.p rfl rfl rfl rfl ?_
        refine Ie.convInt rfl rfl rfl rfl Tryz.underlying5 Tryz.underlying50 rfl ?_
        refine Ie.p rfl rfl rfl rfl ?_
        refine Ie.p rfl rfl rfl rfl ?_
        refine Ie.nil ?_
        refine Ne.seq ?_
        refine Ce.ret ?_
        refine Re.blk ?_
        refine Re.seq ?_
        exact Re.end_ rfl rfl (fun m hm => ⟨congrArg (Value.int .u64) (by first | exact val_d (by omega) | exact val_l (by omega) | exact val_u (by omega) | exact val_n (by omega) (by omega) (by omega)), hm.ext⟩)
      · (try simp only [decide_eq_true_eq, decide_eq_false_iff_not, nrm_lt, nrm_nlt, nrm_eq, nrm_neq, nrm_seq, nrm_sneq, nrm_sempty, nrm_snempty, nrm_ofNat, Bool.not_eq_true', Bool.not_eq_false'] at hc1)
        refine Ce.seq ?_
        refine Ce.region ?_
        refine Ie.p rfl rfl rfl rfl ?_
        refine Ie.p rfl rfl rfl rfl ?_
        refine Ie.p rfl rfl rfl rfl ?_
        refine Ie.splitB 23 rfl (fun hs1 => ?_) (fun hs1 => ?_)
        · (try simp only [decide_eq_true_eq, decide_eq_false_iff_not, nrm_lt, nrm_nlt, nrm_eq, nrm_neq, nrm_seq, nrm_sneq, nrm_sempty, nrm_snempty, nrm_ofNat, Bool.not_eq_true', Bool.not_eq_false'] at hs1)
          refine Ie.p rfl rfl rfl rfl ?_
          refine Ie.p rfl rfl rfl rfl ?_
          refine Ie.p rfl rfl rfl rfl ?_
          refine Ie.p rfl rfl rfl rfl ?_
          refine Ie.nil ?_
          refine Ne.seq ?_
          refine Ce.cond rfl (fun hc2 => ?_) (fun hc2 => ?_)
          · (try simp only [decide_eq_true_eq, decide_eq_false_iff_not, nrm_lt, nrm_nlt, nrm_eq, nrm_neq, nrm_seq, nrm_sneq, nrm_sempty, nrm_snempty, nrm_ofNat, Bool.not_eq_true', Bool.not_eq_false'] at hc2)
            refine Ce.seq ?_
            refine Ce.region ?_
            refine Ie.p rfl rfl rfl rfl ?_
            refine Ie.p rfl rfl rfl rfl ?_
            refine Ie.convInt rfl rfl rfl rfl Tryz.underlying5 Tryz.underlying50 rfl ?_
            refine Ie.p rfl rfl rfl rfl ?_
            refine Ie.p rfl rfl rfl rfl ?_
            refine Ie.nil ?_
            refine Ne.seq ?_
            refine Ce.ret ?_
            refine Re.blk ?_
            refine Re.seq ?_
            exact Re.end_ rfl rfl (fun m hm => ⟨congrArg (Value.int .u64) (by first | exact val_d (by omega) | exact val_l (by omega) | exact val_u (by omega) | exact val_n (by omega) (by omega) (by omega)), hm.ext⟩)
          · (try simp only [decide_eq_true_eq, decide_eq_false_iff_not, nrm_lt, nrm_nlt, nrm_eq, nrm_neq, nrm_seq, nrm_sneq, nrm_sempty, nrm_snempty, nrm_ofNat, Bool.not_eq_true', Bool.not_eq_false'] at hc2)
            refine Ce.skip ?_
            refine Ne.blk ?_
            refine Ne.seq ?_
            refine Ce.seq ?_
            refine Ce.region ?_
            refine Ie.p rfl rfl rfl rfl ?_
            refine Ie.nil ?_
            refine Ne.seq ?_
            refine Ce.ret ?_
            exact Re.end_ rfl rfl (fun m hm => ⟨congrArg (Value.int .u64) (by first | exact val_d (by omega) | exact val_l (by omega) | exact val_u (by omega) | exact val_n (by omega) (by omega) (by omega)), hm.ext⟩)
        · (try simp only [decide_eq_true_eq, decide_eq_false_iff_not, nrm_lt, nrm_nlt, nrm_eq, nrm_neq, nrm_seq, nrm_sneq, nrm_sempty, nrm_snempty, nrm_ofNat, Bool.not_eq_true', Bool.not_eq_false'] at hs1)
          refine Ie.off rfl rfl rfl ?_
          refine Ie.off rfl rfl rfl ?_
          refine Ie.p rfl rfl rfl rfl ?_
          refine Ie.p rfl rfl rfl rfl ?_
          refine Ie.nil ?_
          refine Ne.seq ?_
          refine Ce.cond_false rfl ?_
          refine Ce.skip ?_
          refine Ne.blk ?_
          refine Ne.seq ?_
          refine Ce.seq ?_
          refine Ce.region ?_
          refine Ie.p rfl rfl rfl rfl ?_
          refine Ie.nil ?_
          refine Ne.seq ?_
          refine Ce.ret ?_
          exact Re.end_ rfl rfl (fun m hm => ⟨congrArg (Value.int .u64) (by first | exact val_d (by omega) | exact val_l (by omega) | exact val_u (by omega) | exact val_n (by omega) (by omega) (by omega)), hm.ext⟩)
    · (try simp only [decide_eq_true_eq, decide_eq_false_iff_not, nrm_lt, nrm_nlt, nrm_eq, nrm_neq, nrm_seq, nrm_sneq, nrm_sempty, nrm_snempty, nrm_ofNat, Bool.not_eq_true', Bool.not_eq_false'] at hs0)
      refine Ie.off rfl rfl rfl ?_
      refine Ie.off rfl rfl rfl ?_
      refine Ie.p rfl rfl rfl rfl ?_
      refine Ie.p rfl rfl rfl rfl ?_
      refine Ie.nil ?_
      refine Ne.seq ?_
      refine Ce.cond_false rfl ?_
      refine Ce.seq ?_
      refine Ce.region ?_
      refine Ie.p rfl rfl rfl rfl ?_
      refine Ie.p rfl rfl rfl rfl ?_
      refine Ie.p rfl rfl rfl rfl ?_
      refine Ie.splitB 23 rfl (fun hs2 => ?_) (fun hs2 => ?_)
      · (try simp only [decide_eq_true_eq, decide_eq_false_iff_not, nrm_lt, nrm_nlt, nrm_eq, nrm_neq, nrm_seq, nrm_sneq, nrm_sempty, nrm_snempty, nrm_ofNat, Bool.not_eq_true', Bool.not_eq_false'] at hs2)
        refine Ie.p rfl rfl rfl rfl ?_
        refine Ie.p rfl rfl rfl rfl ?_
        refine Ie.p rfl rfl rfl rfl ?_
        refine Ie.p rfl rfl rfl rfl ?_
        refine Ie.nil ?_
        refine Ne.seq ?_
        refine Ce.cond rfl (fun hc3 => ?_) (fun hc3 => ?_)
        · (try simp only [decide_eq_true_eq, decide_eq_false_iff_not, nrm_lt, nrm_nlt, nrm_eq, nrm_neq, nrm_seq, nrm_sneq, nrm_sempty, nrm_snempty, nrm_ofNat, Bool.not_eq_true', Bool.not_eq_false'] at hc3)
          refine Ce.seq ?_
          refine Ce.region ?_
          refine Ie.p rfl rfl rfl rfl ?_
          refine Ie.p rfl rfl rfl rfl ?_
          refine Ie.convInt rfl rfl rfl rfl Tryz.underlying5 Tryz.underlying50 rfl ?_
          refine Ie.p rfl rfl rfl rfl ?_
          refine Ie.p rfl rfl rfl rfl ?_
          refine Ie.nil ?_
          refine Ne.seq ?_
          refine Ce.ret ?_
          refine Re.blk ?_
          refine Re.seq ?_
          exact Re.end_ rfl rfl (fun m hm => ⟨congrArg (Value.int .u64) (by first | exact val_d (by omega) | exact val_l (by omega) | exact val_u (by omega) | exact val_n (by omega) (by omega) (by omega)), hm.ext⟩)
        · (try simp only [decide_eq_true_eq, decide_eq_false_iff_not, nrm_lt, nrm_nlt, nrm_eq, nrm_neq, nrm_seq, nrm_sneq, nrm_sempty, nrm_snempty, nrm_ofNat, Bool.not_eq_true', Bool.not_eq_false'] at hc3)
          refine Ce.skip ?_
          refine Ne.blk ?_
          refine Ne.seq ?_
          refine Ce.seq ?_
          refine Ce.region ?_
          refine Ie.p rfl rfl rfl rfl ?_
          refine Ie.nil ?_
          refine Ne.seq ?_
          refine Ce.ret ?_
          exact Re.end_ rfl rfl (fun m hm => ⟨congrArg (Value.int .u64) (by first | exact val_d (by omega) | exact val_l (by omega) | exact val_u (by omega) | exact val_n (by omega) (by omega) (by omega)), hm.ext⟩)
      · (try simp only [decide_eq_true_eq, decide_eq_false_iff_not, nrm_lt, nrm_nlt, nrm_eq, nrm_neq, nrm_seq, nrm_sneq, nrm_sempty, nrm_snempty, nrm_ofNat, Bool.not_eq_true', Bool.not_eq_false'] at hs2)
        refine Ie.off rfl rfl rfl ?_
        refine Ie.off rfl rfl rfl ?_
        refine Ie.p rfl rfl rfl rfl ?_
        refine Ie.p rfl rfl rfl rfl ?_
        refine Ie.nil ?_
        refine Ne.seq ?_
        refine Ce.cond_false rfl ?_
        refine Ce.skip ?_
        refine Ne.blk ?_
        refine Ne.seq ?_
        refine Ce.seq ?_
        refine Ce.region ?_
        refine Ie.p rfl rfl rfl rfl ?_
        refine Ie.nil ?_
        refine Ne.seq ?_
        refine Ce.ret ?_
        exact Re.end_ rfl rfl (fun m hm => ⟨congrArg (Value.int .u64) (by first | exact val_d (by omega) | exact val_l (by omega) | exact val_u (by omega) | exact val_n (by omega) (by omega) (by omega)), hm.ext⟩)

theorem digits_ok {l : List UInt8} {m : AW} (hm : m.lo ≤ m.next) (hl : l.length ≤ 1000) : Fc Tryz.prog 26 [.string ⟨⟨l⟩⟩] m fun v m' => v = .int .i64 (Int.ofNat (digN l)) ∧ Ext m m' := by
  have hsz : (⟨⟨l⟩⟩ : ByteArray).size = l.length := rfl
  refine Fc.body (c := _) Tryz.func26 rfl rfl rfl rfl hm ?_
  refine Ce.seq ?_
  refine Ce.region ?_
  refine Ie.p rfl rfl rfl rfl ?_
  refine Ie.nil ?_
  refine Ne.seq ?_
  refine Ce.seq ?_
  refine Ce.region ?_
  refine Ie.p rfl rfl rfl rfl ?_
  refine Ie.nil ?_
  refine Ne.seq ?_
  refine Ce.seq ?_
  refine Ce.block ?_
 
  refine Ce.loop (α := Nat) (fun i => [(0, .string ⟨⟨l⟩⟩), (3, .int .i64 (Int.ofNat (i)))]) (fun i => []) (fun i => i ≤ l.length ∧ ∀ (j : Nat) (x : UInt8), j < i → l[j]? = some x → digB x.toNat = true) (fun i => l.length - i) 0 ⟨Nat.zero_le _, fun _ _ h => (by cases h)⟩ ⟨rfl, rfl, trivial⟩ (List.nil_sublist _) (fun i hi => ?_)
  refine Ce.seq ?_
  refine Ce.seq ?_
  refine Ce.region ?_
  refine Ie.p rfl rfl rfl rfl ?_
  refine Ie.p rfl rfl rfl rfl ?_
  refine Ie.len rfl rfl rfl rfl rfl (ln9 ..) ?_
  refine Ie.p rfl rfl rfl rfl ?_
  refine Ie.p rfl rfl rfl rfl ?_
  refine Ie.splitB 8 rfl (fun hs_8 => ?_) (fun hs_8 => ?_)
  · (try simp only [decide_eq_true_eq, decide_eq_false_iff_not, nrm_lt, nrm_nlt, nrm_eq, nrm_neq, nrm_seq, nrm_sneq, nrm_sempty, nrm_snempty, nrm_ofNat, Bool.not_eq_true', Bool.not_eq_false'] at hs_8)
    obtain ⟨x, hx⟩ := at_len (l := l) (i := i) (by omega)
    refine Ie.p rfl rfl rfl rfl ?_
    refine Ie.p rfl rfl rfl rfl ?_
    refine Ie.indexStr rfl rfl rfl rfl Tryz.underlying9 rfl rfl (hx) ?_
    refine Ie.call _ rfl rfl rfl rfl rfl rfl (fun m hm => digit_ok hm.lole) ?_
    refine Ie.p rfl rfl rfl rfl ?_
    refine Ie.nil ?_
    refine Ne.seq ?_
    refine Ce.cond rfl (fun ht13 => ?_) (fun ht13 => ?_)
    · refine Ce.skip ?_
      refine Ne.seq ?_
      refine Ce.block ?_
      refine Ce.region ?_
      refine Ie.p rfl rfl rfl rfl ?_
      refine Ie.p rfl rfl rfl rfl ?_
      refine Ie.as 15 (.int .i64 (Int.ofNat (i + 1))) rfl (congrArg (Value.int .i64) (wr_succ (by omega))) ?_
      refine Ie.p rfl rfl rfl rfl ?_
      refine Ie.nil ?_
      refine Ne.blk ?_
      exact Ne.loop (i + 1) ⟨by omega, upto_succ hi.2 hx (by assumption)⟩ (by omega) ⟨rfl, rfl, trivial⟩ (List.nil_sublist _)
    · refine Ce.exit ?_
      refine Xe.seq ?_
      refine Xe.loop ?_
      refine Xe.here ?_
      refine Ne.seq ?_
      refine Ce.seq ?_
      refine Ce.region ?_
      refine Ie.p rfl rfl rfl rfl ?_
      refine Ie.p rfl rfl rfl rfl ?_
      refine Ie.nil ?_
      refine Ne.seq ?_
      refine Ce.ret ?_
      exact Re.end_ rfl rfl (fun m hm => ⟨congrArg (Value.int .i64) (congrArg Int.ofNat (take_len hi.1 hi.2 (by first | exact .inl (by omega) | exact .inr ⟨x, hx, by assumption⟩)).symm), hm.ext⟩)
  · (try simp only [decide_eq_true_eq, decide_eq_false_iff_not, nrm_lt, nrm_nlt, nrm_eq, nrm_neq, nrm_seq, nrm_sneq, nrm_sempty, nrm_snempty, nrm_ofNat, Bool.not_eq_true', Bool.not_eq_false'] at hs_8)
    refine Ie.off rfl rfl rfl ?_
    refine Ie.off rfl rfl rfl ?_
    refine Ie.off rfl rfl rfl ?_
    refine Ie.off rfl rfl rfl ?_
    refine Ie.p rfl rfl rfl rfl ?_
    refine Ie.nil ?_
    refine Ne.seq ?_
    refine Ce.cond_false rfl ?_
    refine Ce.exit ?_
    refine Xe.seq ?_
    refine Xe.loop ?_
    refine Xe.here ?_
    refine Ne.seq ?_
    refine Ce.seq ?_
    refine Ce.region ?_
    refine Ie.p rfl rfl rfl rfl ?_
    refine Ie.p rfl rfl rfl rfl ?_
    refine Ie.nil ?_
    refine Ne.seq ?_
    refine Ce.ret ?_
    exact Re.end_ rfl rfl (fun m hm => ⟨congrArg (Value.int .i64) (congrArg Int.ofNat (take_len hi.1 hi.2 (by first | exact .inl (by omega) | exact .inr ⟨x, hx, by assumption⟩)).symm), hm.ext⟩)

theorem exponent_ok {A : List UInt8} {m : AW} (hm : m.lo ≤ m.next) : Fc Tryz.prog 38 [.string ⟨⟨114 :: A⟩⟩] m fun v m' => v = .bool false ∧ Ext m m' := by
  refine Fc.body (c := _) Tryz.func38 rfl rfl rfl rfl hm ?_
  refine Ce.seq ?_
  refine Ce.region ?_
  refine Ie.p rfl rfl rfl rfl ?_
  refine Ie.nil ?_
  refine Ne.seq ?_
  refine Ce.seq ?_
  refine Ce.seq ?_
  refine Ce.region ?_
  refine Ie.p rfl rfl rfl rfl ?_
  refine Ie.p rfl rfl rfl rfl ?_
  refine Ie.as 4 (.bool false) rfl (congrArg Value.bool (rfl)) ?_
  refine Ie.p rfl rfl rfl rfl ?_
  refine Ie.p rfl rfl rfl rfl ?_
  refine Ie.indexStr rfl rfl rfl rfl Tryz.underlying9 rfl rfl (rfl) ?_
  refine Ie.p rfl rfl rfl rfl ?_
  refine Ie.as 8 (.bool true) rfl (congrArg Value.bool (rfl)) ?_
  refine Ie.p rfl rfl rfl rfl ?_
  refine Ie.p rfl rfl rfl rfl ?_
  refine Ie.indexStr rfl rfl rfl rfl Tryz.underlying9 rfl rfl (rfl) ?_
  refine Ie.p rfl rfl rfl rfl ?_
  refine Ie.as 12 (.bool true) rfl (congrArg Value.bool (rfl)) ?_
  refine Ie.p rfl rfl rfl rfl ?_
  refine Ie.p rfl rfl rfl rfl ?_
  refine Ie.nil ?_
  refine Ne.seq ?_
  refine Ce.cond_true rfl ?_
  refine Ce.seq ?_
  refine Ce.region ?_
  refine Ie.p rfl rfl rfl rfl ?_
  refine Ie.nil ?_
  refine Ne.seq ?_
  refine Ce.ret ?_
  refine Re.seq ?_
  exact Re.end_ rfl rfl (fun m hm => ⟨rfl, hm.ext⟩)

theorem isReal_ok {D A : List UInt8} {m : AW} (hm : m.lo ≤ m.next) (hD : AllD D) (h0 : 0 < D.length) (hl : (D ++ 114 :: A).length ≤ 1000) : Fc Tryz.prog 28 [.string ⟨⟨D ++ 114 :: A⟩⟩] m fun v m' => v = .bool false ∧ Ext m m' := by
  have hlen : (D ++ 114 :: A).length = D.length + (A.length + 1) := by rw [List.length_append, List.length_cons]
  refine Fc.body (c := _) Tryz.func28 rfl rfl rfl rfl hm ?_
  refine Ce.seq ?_
  refine Ce.region ?_
  refine Ie.p rfl rfl rfl rfl ?_
  refine Ie.nil ?_
  refine Ne.seq ?_
  refine Ce.seq ?_
  refine Ce.region ?_
  refine Ie.p rfl rfl rfl rfl ?_
  refine Ie.call _ rfl rfl rfl rfl rfl rfl (fun m hm => digits_ok hm.lole hl) ?_
  refine Ie.as 7 (.int .i64 (Int.ofNat (D.length))) rfl (congrArg (Value.int .i64) (congrArg Int.ofNat (digN_app hD))) ?_
  refine Ie.p rfl rfl rfl rfl ?_
  refine Ie.nil ?_
  refine Ne.seq ?_
  refine Ce.seq ?_
  refine Ce.region ?_
  refine Ie.p rfl rfl rfl rfl ?_
  refine Ie.p rfl rfl rfl rfl ?_
  refine Ie.p (v := .string ⟨⟨(D ++ 114 :: A).drop D.length⟩⟩) rfl rfl rfl (strFrom_E rfl rfl Tryz.underlying9 (by omega)) ?_
  refine Ie.as 10 (.string ⟨⟨114 :: A⟩⟩) rfl (congrArg (fun z : List UInt8 => Value.string ⟨⟨z⟩⟩) (drop_app D _)) ?_
  refine Ie.p rfl rfl rfl rfl ?_
  refine Ie.nil ?_
  refine Ne.seq ?_
  refine Ce.seq ?_
  refine Ce.seq ?_
  refine Ce.region ?_
  refine Ie.p rfl rfl rfl rfl ?_
  refine Ie.p rfl rfl rfl rfl ?_
  refine Ie.as 12 (.bool true) rfl (congrArg Value.bool (by rw [ltI_eq]; exact decide_eq_true (by simp only [Int.ofNat_eq_natCast]; omega))) ?_
  refine Ie.p rfl rfl rfl rfl ?_
  refine Ie.p rfl rfl rfl rfl ?_
  refine Ie.p rfl rfl rfl rfl ?_
  refine Ie.as 15 (.bool true) rfl (congrArg Value.bool (rfl)) ?_
  refine Ie.p rfl rfl rfl rfl ?_
  refine Ie.p rfl rfl rfl rfl ?_
  refine Ie.p rfl rfl rfl rfl ?_
  refine Ie.indexStr rfl rfl rfl rfl Tryz.underlying9 rfl rfl (rfl) ?_
  refine Ie.p rfl rfl rfl rfl ?_
  refine Ie.as 20 (.bool false) rfl (congrArg Value.bool (rfl)) ?_
  refine Ie.p rfl rfl rfl rfl ?_
  refine Ie.nil ?_
  refine Ne.seq ?_
  refine Ce.cond_false rfl ?_
  refine Ce.skip ?_
  refine Ne.seq ?_
  refine Ce.seq ?_
  refine Ce.region ?_
  refine Ie.p rfl rfl rfl rfl ?_
  refine Ie.p rfl rfl rfl rfl ?_
  refine Ie.as 42 (.bool true) rfl (congrArg Value.bool (by rw [ltI_eq]; exact decide_eq_true (by simp only [Int.ofNat_eq_natCast]; omega))) ?_
  refine Ie.p rfl rfl rfl rfl ?_
  refine Ie.p rfl rfl rfl rfl ?_
  refine Ie.call _ rfl rfl rfl rfl rfl rfl (fun m hm => exponent_ok hm.lole) ?_
  refine Ie.p rfl rfl rfl rfl ?_
  refine Ie.p rfl rfl rfl rfl ?_
  refine Ie.nil ?_
  refine Ne.seq ?_
  refine Ce.ret ?_
  exact Re.end_ rfl rfl (fun m hm => ⟨rfl, hm.ext⟩)

theorem wordl_ok {l : List UInt8} {m : AW} (hm : m.lo ≤ m.next) (hl : l.length ≤ 1000) : Fc Tryz.prog 23 [.string ⟨⟨l⟩⟩] m fun v m' => v = .int .i64 (Int.ofNat (wrdN l)) ∧ Ext m m' := by
  have hsz : (⟨⟨l⟩⟩ : ByteArray).size = l.length := rfl
  refine Fc.body (c := _) Tryz.func23 rfl rfl rfl rfl hm ?_
  refine Ce.seq ?_
  refine Ce.region ?_
  refine Ie.p rfl rfl rfl rfl ?_
  refine Ie.nil ?_
  refine Ne.seq ?_
  refine Ce.seq ?_
  refine Ce.region ?_
  refine Ie.p rfl rfl rfl rfl ?_
  refine Ie.nil ?_
  refine Ne.seq ?_
  refine Ce.seq ?_
  refine Ce.block ?_
 
  refine Ce.loop (α := Nat) (fun i => [(0, .string ⟨⟨l⟩⟩), (3, .int .i64 (Int.ofNat (i)))]) (fun i => []) (fun i => i ≤ l.length ∧ ∀ (j : Nat) (x : UInt8), j < i → l[j]? = some x → wordC x = true) (fun i => l.length - i) 0 ⟨Nat.zero_le _, fun _ _ h => (by cases h)⟩ ⟨rfl, rfl, trivial⟩ (List.nil_sublist _) (fun i hi => ?_)
  refine Ce.seq ?_
  refine Ce.seq ?_
  refine Ce.region ?_
  refine Ie.p rfl rfl rfl rfl ?_
  refine Ie.p rfl rfl rfl rfl ?_
  refine Ie.len rfl rfl rfl rfl rfl (ln9 ..) ?_
  refine Ie.p rfl rfl rfl rfl ?_
  refine Ie.p rfl rfl rfl rfl ?_
  refine Ie.splitB 8 rfl (fun hs_8 => ?_) (fun hs_8 => ?_)
  · (try simp only [decide_eq_true_eq, decide_eq_false_iff_not, nrm_lt, nrm_nlt, nrm_eq, nrm_neq, nrm_seq, nrm_sneq, nrm_sempty, nrm_snempty, nrm_ofNat, Bool.not_eq_true', Bool.not_eq_false'] at hs_8)
    obtain ⟨x, hx⟩ := at_len (l := l) (i := i) (by omega)
    refine Ie.p rfl rfl rfl rfl ?_
    refine Ie.p rfl rfl rfl rfl ?_
    refine Ie.indexStr rfl rfl rfl rfl Tryz.underlying9 rfl rfl (hx) ?_
    refine Ie.call _ rfl rfl rfl rfl rfl rfl (fun m hm => letter_ok hm.lole) ?_
    refine Ie.p rfl rfl rfl rfl ?_
    refine Ie.splitB 13 rfl (fun hs_13 => ?_) (fun hs_13 => ?_)
    · (try simp only [decide_eq_true_eq, decide_eq_false_iff_not, nrm_lt, nrm_nlt, nrm_eq, nrm_neq, nrm_seq, nrm_sneq, nrm_sempty, nrm_snempty, nrm_ofNat, Bool.not_eq_true', Bool.not_eq_false'] at hs_13)
      have hw : wordC x = true := by unfold wordC wrdB; rw [hs_13]; rfl
      refine Ie.off rfl rfl rfl ?_
      refine Ie.off rfl rfl rfl ?_
      refine Ie.off rfl rfl rfl ?_
      refine Ie.off rfl rfl rfl ?_
      refine Ie.p rfl rfl rfl rfl ?_
      refine Ie.p rfl rfl rfl rfl ?_
      refine Ie.nil ?_
      refine Ne.seq ?_
      refine Ce.cond_true rfl ?_
      refine Ce.skip ?_
      refine Ne.seq ?_
      refine Ce.block ?_
      refine Ce.region ?_
      refine Ie.p rfl rfl rfl rfl ?_
      refine Ie.p rfl rfl rfl rfl ?_
      refine Ie.as 21 (.int .i64 (Int.ofNat (i + 1))) rfl (congrArg (Value.int .i64) (wr_succ (by omega))) ?_
      refine Ie.p rfl rfl rfl rfl ?_
      refine Ie.nil ?_
      refine Ne.blk ?_
      exact Ne.loop (i + 1) ⟨by omega, upto_succ hi.2 hx hw⟩ (by omega) ⟨rfl, rfl, trivial⟩ (List.nil_sublist _)
    · (try simp only [decide_eq_true_eq, decide_eq_false_iff_not, nrm_lt, nrm_nlt, nrm_eq, nrm_neq, nrm_seq, nrm_sneq, nrm_sempty, nrm_snempty, nrm_ofNat, Bool.not_eq_true', Bool.not_eq_false'] at hs_13)
      refine Ie.p rfl rfl rfl rfl ?_
      refine Ie.p rfl rfl rfl rfl ?_
      refine Ie.indexStr rfl rfl rfl rfl Tryz.underlying9 rfl rfl (hx) ?_
      refine Ie.call _ rfl rfl rfl rfl rfl rfl (fun m hm => digit_ok hm.lole) ?_
      refine Ie.p rfl rfl rfl rfl ?_
      refine Ie.p rfl rfl rfl rfl ?_
      refine Ie.nil ?_
      refine Ne.seq ?_
      refine Ce.cond rfl (fun ht19 => ?_) (fun ht19 => ?_)
      · have hw : wordC x = true := by unfold wordC wrdB; rw [ht19, Bool.or_true]
        refine Ce.skip ?_
        refine Ne.seq ?_
        refine Ce.block ?_
        refine Ce.region ?_
        refine Ie.p rfl rfl rfl rfl ?_
        refine Ie.p rfl rfl rfl rfl ?_
        refine Ie.as 21 (.int .i64 (Int.ofNat (i + 1))) rfl (congrArg (Value.int .i64) (wr_succ (by omega))) ?_
        refine Ie.p rfl rfl rfl rfl ?_
        refine Ie.nil ?_
        refine Ne.blk ?_
        exact Ne.loop (i + 1) ⟨by omega, upto_succ hi.2 hx hw⟩ (by omega) ⟨rfl, rfl, trivial⟩ (List.nil_sublist _)
      · refine Ce.exit ?_
        refine Xe.seq ?_
        refine Xe.loop ?_
        refine Xe.here ?_
        refine Ne.seq ?_
        refine Ce.seq ?_
        refine Ce.region ?_
        refine Ie.p rfl rfl rfl rfl ?_
        refine Ie.p rfl rfl rfl rfl ?_
        refine Ie.nil ?_
        refine Ne.seq ?_
        refine Ce.ret ?_
        exact Re.end_ rfl rfl (fun m hm => ⟨congrArg (Value.int .i64) (congrArg Int.ofNat (take_len hi.1 hi.2 (by first | exact .inl (by omega) | exact .inr ⟨x, hx, by unfold wordC wrdB; rw [hs_13, ht19]; rfl⟩)).symm), hm.ext⟩)
  · (try simp only [decide_eq_true_eq, decide_eq_false_iff_not, nrm_lt, nrm_nlt, nrm_eq, nrm_neq, nrm_seq, nrm_sneq, nrm_sempty, nrm_snempty, nrm_ofNat, Bool.not_eq_true', Bool.not_eq_false'] at hs_8)
    refine Ie.off rfl rfl rfl ?_
    refine Ie.off rfl rfl rfl ?_
    refine Ie.off rfl rfl rfl ?_
    refine Ie.off rfl rfl rfl ?_
    refine Ie.off rfl rfl rfl ?_
    refine Ie.off rfl rfl rfl ?_
    refine Ie.off rfl rfl rfl ?_
    refine Ie.off rfl rfl rfl ?_
    refine Ie.off rfl rfl rfl ?_
    refine Ie.off rfl rfl rfl ?_
    refine Ie.p rfl rfl rfl rfl ?_
    refine Ie.nil ?_
    refine Ne.seq ?_
    refine Ce.cond_false rfl ?_
    refine Ce.exit ?_
    refine Xe.seq ?_
    refine Xe.loop ?_
    refine Xe.here ?_
    refine Ne.seq ?_
    refine Ce.seq ?_
    refine Ce.region ?_
    refine Ie.p rfl rfl rfl rfl ?_
    refine Ie.p rfl rfl rfl rfl ?_
    refine Ie.nil ?_
    refine Ne.seq ?_
    refine Ce.ret ?_
    exact Re.end_ rfl rfl (fun m hm => ⟨congrArg (Value.int .i64) (congrArg Int.ofNat (take_len hi.1 hi.2 (by first | exact .inl (by omega) | exact .inr ⟨x, hx, by unfold wordC wrdB; rw [hs_13, ht19]; rfl⟩)).symm), hm.ext⟩)

theorem integer_ok {l : List UInt8} {b : Nat} {m : AW} (hm : m.lo ≤ m.next) (hl : l.length ≤ 1000) (hb : 2 ≤ b) (hb2 : b ≤ 36) (hv : ∀ c ∈ l, valN c.toNat < b) (hM : valL b 0 l ≤ 9223372036854775807) : Fc Tryz.prog 27 [.string ⟨⟨l⟩⟩, .int .u64 (Int.ofNat (b))] m fun v m' => v = .tuple ⟨[.int .i64 (Int.ofNat (valL b 0 l)), .int .i64 0]⟩ ∧ Ext m m' := by
  have hsz : (⟨⟨l⟩⟩ : ByteArray).size = l.length := rfl
  refine Fc.body (c := _) Tryz.func27 rfl rfl rfl rfl hm ?_
  refine Ce.seq ?_
  refine Ce.region ?_
  refine Ie.p rfl rfl rfl rfl ?_
  refine Ie.p rfl rfl rfl rfl ?_
  refine Ie.nil ?_
  refine Ne.seq ?_
  refine Ce.seq ?_
  refine Ce.seq ?_
  refine Ce.region ?_
  refine Ie.p rfl rfl rfl rfl ?_
  refine Ie.toBytes (by omega) rfl rfl rfl rfl (by kernel_rfl) Tryz.underlying9 Tryz.underlying65 Tryz.underlying5 sz5 rfl (fun b12 hb12 => ?_)
  refine Ie.len rfl rfl rfl rfl rfl (ln65 ..) ?_
  refine Ie.p rfl rfl rfl rfl ?_
  refine Ie.nil ?_
  refine Ne.seq ?_
  refine Ce.block ?_
 
  refine Ce.loop (α := Nat) (fun i => [(0, .string ⟨⟨l⟩⟩), (1, .int .u64 (Int.ofNat (b))), (12, .slice (some ⟨b12, 0, none⟩) l.length top), (13, .int .i64 (Int.ofNat (l.length))), (14, .int .i64 (Int.ofNat (i)))]) (fun i => [(b12, .cells (l.map fun b => .int .u8 (Int.ofNat b.toNat)) 5 true .strish none)]) (fun i => i ≤ l.length) (fun i => l.length - i) 0 (Nat.zero_le _) ⟨rfl, rfl, rfl, rfl, rfl, trivial⟩ (List.Sublist.refl _) (fun i hi => ?_)
  refine Ce.seq ?_
  refine Ce.region ?_
  refine Ie.p rfl rfl rfl rfl ?_
  refine Ie.nil ?_
  refine Ne.seq ?_
  refine Ce.seq ?_
  refine Ce.cond rfl (fun ht15 => ?_) (fun ht15 => ?_)
  · (try simp only [decide_eq_true_eq, decide_eq_false_iff_not, nrm_lt, nrm_nlt, nrm_eq, nrm_neq, nrm_seq, nrm_sneq, nrm_sempty, nrm_snempty, nrm_ofNat, Bool.not_eq_true', Bool.not_eq_false'] at ht15)
    obtain ⟨x, hx⟩ := at_len (l := l) (i := i) (by omega)
    have hvx := hv x (List.mem_of_getElem? hx)
    refine Ce.skip ?_
    refine Ne.seq ?_
    refine Ce.seq ?_
    refine Ce.block ?_
    refine Ce.seq ?_
    refine Ce.region ?_
    refine Ie.indexAddr rfl rfl rfl rfl Tryz.underlying65 sz5 rfl rfl (by omega) ?_
    refine Ie.load rfl rfl rfl rfl rfl ag5 (by first | exact .head | exact .tail .head | exact .tail (.tail .head) | exact .tail (.tail (.tail .head)) | exact .tail (.tail (.tail (.tail .head))) | exact .app .head | exact .app (.tail .head) | exact .app (.tail (.tail .head)) | exact .app (.tail (.tail (.tail .head))) | exact .base ‹_› ‹_› (by simp)) (map_cell hx) ?_
    refine Ie.p rfl rfl rfl rfl ?_
    refine Ie.nil ?_
    refine Ne.seq ?_
    refine Ce.seq ?_
    refine Ce.region ?_
    refine Ie.p rfl rfl rfl rfl ?_
    refine Ie.call _ rfl rfl rfl rfl rfl rfl (fun m hm => value_ok hm.lole (UInt8.toNat_lt x)) ?_
    refine Ie.p rfl rfl rfl rfl ?_
    refine Ie.p rfl rfl rfl rfl ?_
    refine Ie.nil ?_
    refine Ne.seq ?_
    refine Ce.cond rfl (fun ht21 => ?_) (fun ht21 => ?_)
    · (try simp only [decide_eq_true_eq, decide_eq_false_iff_not, nrm_lt, nrm_nlt, nrm_eq, nrm_neq, nrm_seq, nrm_sneq, nrm_sempty, nrm_snempty, nrm_ofNat, Bool.not_eq_true', Bool.not_eq_false'] at ht21)
      exfalso; omega
    · (try simp only [decide_eq_true_eq, decide_eq_false_iff_not, nrm_lt, nrm_nlt, nrm_eq, nrm_neq, nrm_seq, nrm_sneq, nrm_sempty, nrm_snempty, nrm_ofNat, Bool.not_eq_true', Bool.not_eq_false'] at ht21)
      refine Ce.skip ?_
      refine Ne.blk ?_
      refine Ne.seq ?_
      refine Ce.region ?_
      refine Ie.p rfl rfl rfl rfl ?_
      refine Ie.as 22 (.int .i64 (Int.ofNat (i + 1))) rfl (congrArg (Value.int .i64) (wr_succ (by omega))) ?_
      refine Ie.p rfl rfl rfl rfl ?_
      refine Ie.nil ?_
      exact Ne.loop (i + 1) (by omega) (by omega) ⟨rfl, rfl, rfl, rfl, rfl, trivial⟩ (List.Sublist.refl _)
  · (try simp only [decide_eq_true_eq, decide_eq_false_iff_not, nrm_lt, nrm_nlt, nrm_eq, nrm_neq, nrm_seq, nrm_sneq, nrm_sempty, nrm_snempty, nrm_ofNat, Bool.not_eq_true', Bool.not_eq_false'] at ht15)
    refine Ce.exit ?_
    refine Xe.seq ?_
    refine Xe.loop ?_
    refine Xe.here ?_
    refine Ne.seq ?_
    refine Ce.seq ?_
    refine Ce.region ?_
    refine Ie.p rfl rfl rfl rfl ?_
    refine Ie.nil ?_
    refine Ne.seq ?_
    refine Ce.seq ?_
    refine Ce.seq ?_
    refine Ce.region ?_
    refine Ie.p rfl rfl rfl rfl ?_
    refine Ie.toBytes (by omega) rfl rfl rfl rfl (by kernel_rfl) Tryz.underlying9 Tryz.underlying65 Tryz.underlying5 sz5 rfl (fun b24 hb24 => ?_)
    refine Ie.len rfl rfl rfl rfl rfl (ln65 ..) ?_
    refine Ie.p rfl rfl rfl rfl ?_
    refine Ie.nil ?_
    refine Ne.seq ?_
    refine Ce.block ?_
   
    refine Ce.loop (α := Nat) (fun i => [(0, .string ⟨⟨l⟩⟩), (1, .int .u64 (Int.ofNat (b))), (8, .int .u64 (Int.ofNat (valL b 0 (l.take i)))), (24, .slice (some ⟨b24, 0, none⟩) l.length top), (25, .int .i64 (Int.ofNat (l.length))), (26, .int .i64 (Int.ofNat (i)))]) (fun i => [(b24, .cells (l.map fun b => .int .u8 (Int.ofNat b.toNat)) 5 true .strish none)]) (fun i => i ≤ l.length) (fun i => l.length - i) 0 (Nat.zero_le _) ⟨rfl, rfl, rfl, rfl, rfl, rfl, trivial⟩ (.cons_cons _ (List.nil_sublist _)) (fun i hi => ?_)
    refine Ce.seq ?_
    refine Ce.region ?_
    refine Ie.p rfl rfl rfl rfl ?_
    refine Ie.nil ?_
    refine Ne.seq ?_
    refine Ce.seq ?_
    refine Ce.cond rfl (fun ht27 => ?_) (fun ht27 => ?_)
    · (try simp only [decide_eq_true_eq, decide_eq_false_iff_not, nrm_lt, nrm_nlt, nrm_eq, nrm_neq, nrm_seq, nrm_sneq, nrm_sempty, nrm_snempty, nrm_ofNat, Bool.not_eq_true', Bool.not_eq_false'] at ht27)
      obtain ⟨x, hx⟩ := at_len (l := l) (i := i) (by omega)
      have hN := valL_snoc b 0 (l.take i) x
      rw [← take_succ' hx] at hN
      have hle : valL b 0 (l.take (i + 1)) ≤ 9223372036854775807 := Nat.le_trans (valL_take (by omega)) hM
      have hq := val_lt (c := x.toNat) (M := 9223372036854775807) (by rw [← hN]; exact hle) (show 0 < b by omega)
      have hv36 := valN_le x.toNat
      have hmu : valL b 0 (l.take i) * b ≤ 9223372036854775807 := by omega
      refine Ce.skip ?_
      refine Ne.seq ?_
      refine Ce.seq ?_
      refine Ce.block ?_
      refine Ce.seq ?_
      refine Ce.region ?_
      refine Ie.indexAddr rfl rfl rfl rfl Tryz.underlying65 sz5 rfl rfl (by omega) ?_
      refine Ie.load rfl rfl rfl rfl rfl ag5 (by first | exact .head | exact .tail .head | exact .tail (.tail .head) | exact .tail (.tail (.tail .head)) | exact .tail (.tail (.tail (.tail .head))) | exact .app .head | exact .app (.tail .head) | exact .app (.tail (.tail .head)) | exact .app (.tail (.tail (.tail .head))) | exact .base ‹_› ‹_› (by simp)) (map_cell hx) ?_
      refine Ie.p rfl rfl rfl rfl ?_
      refine Ie.nil ?_
      refine Ne.seq ?_
      refine Ce.seq ?_
      refine Ce.seq ?_
      refine Ce.region ?_
      refine Ie.p rfl rfl rfl rfl ?_
      refine Ie.p rfl rfl rfl rfl ?_
      refine Ie.call _ rfl rfl rfl rfl rfl rfl (fun m hm => value_ok hm.lole (UInt8.toNat_lt x)) ?_
      refine Ie.p rfl rfl rfl rfl ?_
      refine Ie.as 33 (.int .u64 (Int.ofNat (9223372036854775807 - valN x.toNat))) rfl (congrArg (Value.int .u64) (subU (a := 9223372036854775807) (by omega) (by decide))) ?_
      refine Ie.p rfl rfl rfl rfl ?_
      refine Ie.bin rfl rfl rfl rfl rfl rfl (binS_quo (by simp only [Int.ofNat_eq_natCast]; omega)) ?_
      refine Ie.as 35 (.int .u64 (Int.ofNat ((9223372036854775807 - valN x.toNat) / b))) rfl (congrArg (Value.int .u64) (quoN (by omega) (by omega))) ?_
      refine Ie.p rfl rfl rfl rfl ?_
      refine Ie.nil ?_
      refine Ne.seq ?_
      refine Ce.cond rfl (fun ht36 => ?_) (fun ht36 => ?_)
      · (try simp only [decide_eq_true_eq, decide_eq_false_iff_not, nrm_lt, nrm_nlt, nrm_eq, nrm_neq, nrm_seq, nrm_sneq, nrm_sempty, nrm_snempty, nrm_ofNat, Bool.not_eq_true', Bool.not_eq_false'] at ht36)
        exfalso; omega
      · (try simp only [decide_eq_true_eq, decide_eq_false_iff_not, nrm_lt, nrm_nlt, nrm_eq, nrm_neq, nrm_seq, nrm_sneq, nrm_sempty, nrm_snempty, nrm_ofNat, Bool.not_eq_true', Bool.not_eq_false'] at ht36)
        refine Ce.skip ?_
        refine Ne.seq ?_
        refine Ce.region ?_
        refine Ie.p rfl rfl rfl rfl ?_
        refine Ie.p rfl rfl rfl rfl ?_
        refine Ie.p rfl rfl rfl rfl ?_
        refine Ie.as 39 (.int .u64 (Int.ofNat (valL b 0 (l.take i) * b))) rfl (congrArg (Value.int .u64) (mulN (by omega))) ?_
        refine Ie.p rfl rfl rfl rfl ?_
        refine Ie.call _ rfl rfl rfl rfl rfl rfl (fun m hm => value_ok hm.lole (UInt8.toNat_lt x)) ?_
        refine Ie.p rfl rfl rfl rfl ?_
        refine Ie.as 42 (.int .u64 (Int.ofNat (valL b 0 (l.take (i + 1))))) rfl (congrArg (Value.int .u64) (by rw [hN]; exact addN (by omega))) ?_
        refine Ie.p rfl rfl rfl rfl ?_
        refine Ie.nil ?_
        refine Ne.blk ?_
        refine Ne.seq ?_
        refine Ce.region ?_
        refine Ie.p rfl rfl rfl rfl ?_
        refine Ie.as 43 (.int .i64 (Int.ofNat (i + 1))) rfl (congrArg (Value.int .i64) (wr_succ (by omega))) ?_
        refine Ie.p rfl rfl rfl rfl ?_
        refine Ie.nil ?_
        exact Ne.loop (i + 1) (by omega) (by omega) ⟨rfl, rfl, rfl, rfl, rfl, rfl, trivial⟩ (List.Sublist.refl _)
    · (try simp only [decide_eq_true_eq, decide_eq_false_iff_not, nrm_lt, nrm_nlt, nrm_eq, nrm_neq, nrm_seq, nrm_sneq, nrm_sempty, nrm_snempty, nrm_ofNat, Bool.not_eq_true', Bool.not_eq_false'] at ht27)
      have hie : i = l.length := by omega
      subst hie
      refine Ce.exit ?_
      refine Xe.seq ?_
      refine Xe.loop ?_
      refine Xe.here ?_
      refine Ne.seq ?_
      refine Ce.seq ?_
      refine Ce.region ?_
      refine Ie.p rfl rfl rfl rfl ?_
      refine Ie.convInt rfl rfl rfl rfl Tryz.underlying50 Tryz.underlying2 rfl ?_
      rw [List.take_length] at *
      refine Ie.as 45 (.int .i64 (Int.ofNat (valL b 0 l))) rfl (congrArg (Value.int .i64) (wri (by omega))) ?_
      refine Ie.p rfl rfl rfl rfl ?_
      refine Ie.p rfl rfl rfl rfl ?_
      refine Ie.nil ?_
      refine Ne.seq ?_
      refine Ce.ret ?_
      exact Re.end_ rfl rfl (fun m hm => ⟨rfl, hm.ext⟩)

theorem based_ok {D A : List UInt8} {b : Nat} {m : AW} (hm : m.lo ≤ m.next) (hD : AllD D) (h0 : 0 < D.length) (hl : (D ++ 114 :: A).length ≤ 1000) (hb : valL 10 0 D = b) (hbl : 2 ≤ b) (hbu : b ≤ 36) (hA : ∀ c ∈ A, wordC c = true) (hu : ∀ c ∈ A, c ≠ 95) (hA0 : 0 < A.length) (hv : ∀ c ∈ A, valN c.toNat < b) (hM : valL b 0 A ≤ 9223372036854775807) (hlay : LaidAt lays m) : Fc Tryz.prog 32 [.string ⟨⟨D ++ 114 :: A⟩⟩] m fun v m' => v = .tuple ⟨[.int .i64 (Int.ofNat (valL b 0 A)), .int .i64 0]⟩ ∧ Ext m m' := by
  have hlen : (D ++ 114 :: A).length = D.length + (A.length + 1) := by rw [List.length_append, List.length_cons]
  have hsz : (⟨⟨D ++ 114 :: A⟩⟩ : ByteArray).size = (D ++ 114 :: A).length := rfl
  have hdr : (D ++ 114 :: A).drop (D.length + 1) = A := by rw [List.drop_append, Nat.add_sub_cancel_left, List.drop_of_length_le (Nat.le_succ _)]; rfl
  have hnu : ∀ c ∈ (D ++ 114 :: A), c ≠ 95 := fun c hc => by rcases List.mem_append.1 hc with h | h; (exact fun e => by have := digB_iff.1 (hD c h); rw [e] at this; exact absurd this (by decide)); rcases List.mem_cons.1 h with h | h; (rw [h]; decide); exact hu c h
  have hvD : ∀ c ∈ D, valN c.toNat < 10 := fun c hc => by have h_ := digB_iff.1 (hD c hc); unfold valN; rw [if_pos h_]; omega
  refine Fc.body (c := _) Tryz.func32 rfl rfl rfl rfl hm ?_
  refine Ce.seq ?_
  refine Ce.region ?_
  refine Ie.p rfl rfl rfl rfl ?_
  refine Ie.p rfl rfl rfl rfl ?_
  refine Ie.nil ?_
  refine Ne.seq ?_
  refine Ce.seq ?_
  refine Ce.region ?_
  refine Ie.p rfl rfl rfl rfl ?_
  refine Ie.call _ rfl rfl rfl rfl rfl rfl (fun m hm => digits_ok hm.lole hl) ?_
  refine Ie.as 8 (.int .i64 (Int.ofNat (D.length))) rfl (congrArg (Value.int .i64) (congrArg Int.ofNat (digN_app hD))) ?_
  refine Ie.p rfl rfl rfl rfl ?_
  refine Ie.nil ?_
  refine Ne.seq ?_
  refine Ce.seq ?_
  refine Ce.seq ?_
  refine Ce.region ?_
  refine Ie.p rfl rfl rfl rfl ?_
  refine Ie.p rfl rfl rfl rfl ?_
  refine Ie.as 10 (.bool false) rfl (congrArg Value.bool (by rw [eqI_eq]; exact decide_eq_false (by simp only [Int.ofNat_eq_natCast]; omega))) ?_
  refine Ie.p rfl rfl rfl rfl ?_
  refine Ie.p rfl rfl rfl rfl ?_
  refine Ie.p rfl rfl rfl rfl ?_
  refine Ie.as 13 (.int .i64 (Int.ofNat (D.length + 1))) rfl (congrArg (Value.int .i64) (addI (a := D.length) (b := 1) (by omega))) ?_
  refine Ie.p rfl rfl rfl rfl ?_
  refine Ie.len rfl rfl rfl rfl rfl (ln9 ..) ?_
  refine Ie.bin (v := .bool false) rfl rfl rfl rfl rfl rfl (binS_ngeq (by simp only [Int.ofNat_eq_natCast]; omega)) ?_
  refine Ie.p rfl rfl rfl rfl ?_
  refine Ie.p rfl rfl rfl rfl ?_
  refine Ie.p rfl rfl rfl rfl ?_
  refine Ie.p rfl rfl rfl rfl ?_
  refine Ie.indexStr rfl rfl rfl rfl Tryz.underlying9 rfl rfl (by rw [List.getElem?_append_right (Nat.le_refl _), Nat.sub_self]; rfl) ?_
  refine Ie.p rfl rfl rfl rfl ?_
  refine Ie.as 22 (.bool false) rfl (congrArg Value.bool (rfl)) ?_
  refine Ie.p rfl rfl rfl rfl ?_
  refine Ie.p rfl rfl rfl rfl ?_
  refine Ie.p rfl rfl rfl rfl ?_
  refine Ie.p rfl rfl rfl rfl ?_
  refine Ie.p rfl rfl rfl rfl ?_
  refine Ie.as 27 (.int .i64 (Int.ofNat (D.length + 1))) rfl (congrArg (Value.int .i64) (addI (a := D.length) (b := 1) (by omega))) ?_
  refine Ie.p (v := .string ⟨⟨(D ++ 114 :: A).drop (D.length + 1)⟩⟩) rfl rfl rfl (strFrom_E rfl rfl Tryz.underlying9 (by omega)) ?_
  refine Ie.as 28 (.string ⟨⟨A⟩⟩) rfl (congrArg (fun z : List UInt8 => Value.string ⟨⟨z⟩⟩) (hdr)) ?_
  refine Ie.call _ rfl rfl rfl rfl rfl rfl (fun m hm => wordl_ok hm.lole (by omega)) ?_
  refine Ie.as 29 (.int .i64 (Int.ofNat (A.length))) rfl (congrArg (Value.int .i64) (congrArg Int.ofNat (take_full hA))) ?_
  refine Ie.p rfl rfl rfl rfl ?_
  refine Ie.len rfl rfl rfl rfl rfl (ln9 ..) ?_
  refine Ie.p rfl rfl rfl rfl ?_
  refine Ie.p rfl rfl rfl rfl ?_
  refine Ie.as 33 (.int .i64 (Int.ofNat (A.length + 1))) rfl (congrArg (Value.int .i64) (by rw [subI (by omega) (by omega)]; exact congrArg Int.ofNat (by omega))) ?_
  refine Ie.p rfl rfl rfl rfl ?_
  refine Ie.as 34 (.int .i64 (Int.ofNat (A.length))) rfl (congrArg (Value.int .i64) (by rw [show (1 : Int) = Int.ofNat 1 from rfl, subI (by omega) (by omega)]; exact congrArg Int.ofNat (by omega))) ?_
  refine Ie.p rfl rfl rfl rfl ?_
  refine Ie.as 35 (.bool false) rfl (congrArg Value.bool (by rw [ltI_eq]; exact decide_eq_false (by simp only [Int.ofNat_eq_natCast]; omega))) ?_
  refine Ie.p rfl rfl rfl rfl ?_
  refine Ie.p rfl rfl rfl rfl ?_
  refine Ie.p rfl rfl rfl rfl ?_
  refine Ie.call _ rfl rfl rfl rfl rfl rfl (fun m hm => contains_ok (k := ⟨⟨D ++ 114 :: A⟩⟩) (by omega) (hlay.kr hm)) ?_
  refine Ie.as 39 (.bool false) rfl (congrArg Value.bool (no_under hnu)) ?_
  refine Ie.p rfl rfl rfl rfl ?_
  refine Ie.nil ?_
  refine Ne.seq ?_
  refine Ce.cond_false rfl ?_
  refine Ce.skip ?_
  refine Ne.seq ?_
  refine Ce.seq ?_
  refine Ce.region ?_
  refine Ie.p rfl rfl rfl rfl ?_
  refine Ie.p rfl rfl rfl rfl ?_
  refine Ie.p (v := .string ⟨⟨(D ++ 114 :: A).take D.length⟩⟩) rfl rfl rfl (strTo_E rfl rfl Tryz.underlying9 (by omega)) ?_
  refine Ie.as 44 (.string ⟨⟨D⟩⟩) rfl (congrArg (fun z : List UInt8 => Value.string ⟨⟨z⟩⟩) (take_app' D _)) ?_
  refine Ie.call _ rfl rfl rfl rfl rfl rfl (fun m hm => integer_ok (l := D) (b := 10) hm.lole (by omega) (by decide) (by decide) hvD (by omega)) ?_
  refine Ie.p rfl rfl rfl rfl ?_
  refine Ie.p rfl rfl rfl rfl ?_
  refine Ie.as 46 (.int .i64 (Int.ofNat (b))) rfl (congrArg (Value.int .i64) (congrArg Int.ofNat hb)) ?_
  refine Ie.p rfl rfl rfl rfl ?_
  refine Ie.p rfl rfl rfl rfl ?_
  refine Ie.p rfl rfl rfl rfl ?_
  refine Ie.nil ?_
  refine Ne.seq ?_
  refine Ce.seq ?_
  refine Ce.seq ?_
  refine Ce.region ?_
  refine Ie.p rfl rfl rfl rfl ?_
  refine Ie.p rfl rfl rfl rfl ?_
  refine Ie.as 49 (.bool false) rfl (congrArg Value.bool (rfl)) ?_
  refine Ie.p rfl rfl rfl rfl ?_
  refine Ie.p rfl rfl rfl rfl ?_
  refine Ie.p rfl rfl rfl rfl ?_
  refine Ie.as 52 (.bool false) rfl (congrArg Value.bool (by rw [ltI_eq]; exact decide_eq_false (by simp only [Int.ofNat_eq_natCast]; omega))) ?_
  refine Ie.p rfl rfl rfl rfl ?_
  refine Ie.p rfl rfl rfl rfl ?_
  refine Ie.p rfl rfl rfl rfl ?_
  refine Ie.p rfl rfl rfl rfl ?_
  refine Ie.as 56 (.bool false) rfl (congrArg Value.bool (by rw [ltI_eq]; exact decide_eq_false (by simp only [Int.ofNat_eq_natCast]; omega))) ?_
  refine Ie.p rfl rfl rfl rfl ?_
  refine Ie.nil ?_
  refine Ne.seq ?_
  refine Ce.cond_false rfl ?_
  refine Ce.skip ?_
  refine Ne.seq ?_
  refine Ce.seq ?_
  refine Ce.region ?_
  refine Ie.p rfl rfl rfl rfl ?_
  refine Ie.p rfl rfl rfl rfl ?_
  refine Ie.p rfl rfl rfl rfl ?_
  refine Ie.as 60 (.int .i64 (Int.ofNat (D.length + 1))) rfl (congrArg (Value.int .i64) (addI (a := D.length) (b := 1) (by omega))) ?_
  refine Ie.p (v := .string ⟨⟨(D ++ 114 :: A).drop (D.length + 1)⟩⟩) rfl rfl rfl (strFrom_E rfl rfl Tryz.underlying9 (by omega)) ?_
  refine Ie.as 61 (.string ⟨⟨A⟩⟩) rfl (congrArg (fun z : List UInt8 => Value.string ⟨⟨z⟩⟩) (hdr)) ?_
  refine Ie.p rfl rfl rfl rfl ?_
  refine Ie.convInt rfl rfl rfl rfl Tryz.underlying2 Tryz.underlying50 rfl ?_
  refine Ie.as 63 (.int .u64 (Int.ofNat (b))) rfl (congrArg (Value.int .u64) (wr64 (by omega))) ?_
  refine Ie.call _ rfl rfl rfl rfl rfl rfl (fun m hm => integer_ok (l := A) (b := b) hm.lole (by omega) hbl hbu hv hM) ?_
  refine Ie.p rfl rfl rfl rfl ?_
  refine Ie.p rfl rfl rfl rfl ?_
  refine Ie.p rfl rfl rfl rfl ?_
  refine Ie.p rfl rfl rfl rfl ?_
  refine Ie.nil ?_
  refine Ne.seq ?_
  refine Ce.ret ?_
  exact Re.end_ rfl rfl (fun m hm => ⟨rfl, hm.ext⟩)

theorem numeral_ok {w rest : List UInt8} {m : AW} (hm : m.lo ≤ m.next) (hw : ∀ c ∈ w, wordC c = true) (hr : EndB rest) (hl : (w ++ rest).length ≤ 1000) : Fc Tryz.prog 25 [.string ⟨⟨w ++ rest⟩⟩] m fun v m' => v = .string ⟨⟨w⟩⟩ ∧ Ext m m' := by
  have hsz : (⟨⟨w ++ rest⟩⟩ : ByteArray).size = (w ++ rest).length := rfl
  have hlen : (w ++ rest).length = w.length + rest.length := List.length_append
  refine Fc.body (c := _) Tryz.func25 rfl rfl rfl rfl hm ?_
  refine Ce.seq ?_
  refine Ce.region ?_
  refine Ie.box rfl rfl rfl rfl rfl (fun b1 hb1 => ?_)
  refine Ie.p rfl rfl rfl rfl ?_
  refine Ie.nil ?_
  refine Ne.seq ?_
  refine Ce.seq ?_
  refine Ce.region ?_
  refine Ie.p rfl rfl rfl rfl ?_
  refine Ie.p rfl rfl rfl rfl ?_
  refine Ie.nil ?_
  refine Ne.seq ?_
  refine Ce.seq ?_
  refine Ce.region ?_
  refine Ie.p rfl rfl rfl rfl ?_
  refine Ie.p rfl rfl rfl rfl ?_
  refine Ie.nil ?_
  refine Ne.seq ?_
  refine Ce.seq ?_
  refine Ce.seq ?_
  refine Ce.region ?_
  refine Ie.p rfl rfl rfl rfl ?_
  refine Ie.nil ?_
  refine Ne.seq ?_
  refine Ce.block ?_
 
  refine Ce.loop (α := Nat × Bool) (fun q => [(1, .pointer (some ⟨b1, 0, none⟩)), (3, .bool q.2), (4, .bool false), (5, .func (.func 36) ⟨[]⟩ ⟨[.pointer (some ⟨b1, 0, none⟩)]⟩), (6, .int .i64 (Int.ofNat (q.1)))]) (fun q => [(b1, .cells [.string ⟨⟨w ++ rest⟩⟩] 9 false .plain none)]) (fun q => q.1 ≤ w.length) (fun q => w.length - q.1) (0, true) (Nat.zero_le _) ⟨rfl, rfl, rfl, rfl, rfl, trivial⟩ (List.Sublist.refl _) (fun q hi => ?_)
  obtain ⟨i, p⟩ := q
  simp only at hi
  refine Ce.seq ?_
  refine Ce.seq ?_
  refine Ce.region ?_
  refine Ie.p rfl rfl rfl rfl ?_
  refine Ie.load rfl rfl rfl rfl rfl ag9 (by first | exact .head | exact .tail .head | exact .tail (.tail .head) | exact .tail (.tail (.tail .head)) | exact .tail (.tail (.tail (.tail .head))) | exact .app .head | exact .app (.tail .head) | exact .app (.tail (.tail .head)) | exact .app (.tail (.tail (.tail .head))) | exact .base ‹_› ‹_› (by simp)) rfl ?_
  refine Ie.len rfl rfl rfl rfl rfl (ln9 ..) ?_
  refine Ie.p rfl rfl rfl rfl ?_
  refine Ie.nil ?_
  refine Ne.seq ?_
  refine Ce.cond rfl (fun ht12 => ?_) (fun ht12 => ?_)
  · (try simp only [decide_eq_true_eq, decide_eq_false_iff_not, nrm_lt, nrm_nlt, nrm_eq, nrm_neq, nrm_seq, nrm_sneq, nrm_sempty, nrm_snempty, nrm_ofNat, Bool.not_eq_true', Bool.not_eq_false'] at ht12)
    obtain ⟨x, hx⟩ := at_len (l := w ++ rest) (i := i) (by omega)
    have hc := num_at hw hr hi hx
    have h46 : x.toNat ≠ 46 := by rcases hc with ⟨_, h⟩ | ⟨_, h⟩; (exact (word_ne h).1); (rw [h]; decide)
    refine Ce.skip ?_
    refine Ne.seq ?_
    refine Ce.seq ?_
    refine Ce.block ?_
    refine Ce.seq ?_
    refine Ce.region ?_
    refine Ie.load rfl rfl rfl rfl rfl ag9 (by first | exact .head | exact .tail .head | exact .tail (.tail .head) | exact .tail (.tail (.tail .head)) | exact .tail (.tail (.tail (.tail .head))) | exact .app .head | exact .app (.tail .head) | exact .app (.tail (.tail .head)) | exact .app (.tail (.tail (.tail .head))) | exact .base ‹_› ‹_› (by simp)) rfl ?_
    refine Ie.p rfl rfl rfl rfl ?_
    refine Ie.indexStr rfl rfl rfl rfl Tryz.underlying9 rfl rfl (hx) ?_
    refine Ie.p rfl rfl rfl rfl ?_
    refine Ie.nil ?_
    refine Ne.seq ?_
    refine Ce.block ?_
    refine Ce.seq ?_
    refine Ce.region ?_
    refine Ie.p rfl rfl rfl rfl ?_
    refine Ie.call _ rfl rfl rfl rfl rfl rfl (fun m hm => digit_ok hm.lole) ?_
    refine Ie.p rfl rfl rfl rfl ?_
    refine Ie.nil ?_
    refine Ne.seq ?_
    refine Ce.cond rfl (fun ht21 => ?_) (fun ht21 => ?_)
    · have hlt : i < w.length := by rcases hc with ⟨h, _⟩ | ⟨_, h⟩; (exact h); (rw [h] at ht21; exact absurd ht21 (by decide))
      refine Ce.skip ?_
      refine Ne.blk ?_
      refine Ne.blk ?_
      refine Ne.seq ?_
      refine Ce.region ?_
      refine Ie.p rfl rfl rfl rfl ?_
      refine Ie.p rfl rfl rfl rfl ?_
      refine Ie.as 14 (.int .i64 (Int.ofNat (i + 1))) rfl (congrArg (Value.int .i64) (wr_succ (by omega))) ?_
      refine Ie.p rfl rfl rfl rfl ?_
      refine Ie.nil ?_
      exact Ne.loop (i + 1, _) (by show i + 1 ≤ w.length; omega) (by show w.length - (i + 1) < w.length - i; omega) ⟨rfl, rfl, rfl, rfl, rfl, trivial⟩ (List.Sublist.refl _)
    · refine Ce.seq ?_
      refine Ce.region ?_
      refine Ie.p rfl rfl rfl rfl ?_
      refine Ie.p rfl rfl rfl rfl ?_
      refine Ie.as 26 (.bool false) rfl (congrArg Value.bool (by rw [eqI_eq]; exact decide_eq_false (fun h => by simp only [Int.ofNat_eq_natCast] at h; omega))) ?_
      refine Ie.p rfl rfl rfl rfl ?_
      refine Ie.off rfl rfl rfl ?_
      refine Ie.off rfl rfl rfl ?_
      refine Ie.p rfl rfl rfl rfl ?_
      refine Ie.p rfl rfl rfl rfl ?_
      refine Ie.off rfl rfl rfl ?_
      refine Ie.off rfl rfl rfl ?_
      refine Ie.off rfl rfl rfl ?_
      refine Ie.off rfl rfl rfl ?_
      refine Ie.p rfl rfl rfl rfl ?_
      refine Ie.p rfl rfl rfl rfl ?_
      refine Ie.nil ?_
      refine Ne.seq ?_
      refine Ce.cond_false rfl ?_
      refine Ce.joinA (True) [(37, .bool false)] ?_ (fun _ => ?_)
      · refine Ce.region ?_
        refine Ie.p rfl rfl rfl rfl ?_
        refine Ie.p rfl rfl rfl rfl ?_
        refine Ie.p rfl rfl rfl rfl ?_
        refine Ie.splitB 40 rfl (fun hs_40 => ?_) (fun hs_40 => ?_)
        · (try simp only [decide_eq_true_eq, decide_eq_false_iff_not, nrm_lt, nrm_nlt, nrm_eq, nrm_neq, nrm_seq, nrm_sneq, nrm_sempty, nrm_snempty, nrm_ofNat, Bool.not_eq_true', Bool.not_eq_false'] at hs_40)
          have hlt : i < w.length := by rcases hc with ⟨h, _⟩ | ⟨_, h⟩; (exact h); (rw [h] at hs_40; exact absurd hs_40 (by decide))
          refine Ie.off rfl rfl rfl ?_
          refine Ie.off rfl rfl rfl ?_
          refine Ie.p rfl rfl rfl rfl ?_
          refine Ie.p rfl rfl rfl rfl ?_
          refine Ie.p rfl rfl rfl rfl ?_
          refine Ie.p rfl rfl rfl rfl ?_
          refine Ie.p rfl rfl rfl rfl ?_
          refine Ie.splitB 47 rfl (fun hs_47 => ?_) (fun hs_47 => ?_)
          · (try simp only [decide_eq_true_eq, decide_eq_false_iff_not, nrm_lt, nrm_nlt, nrm_eq, nrm_neq, nrm_seq, nrm_sneq, nrm_sempty, nrm_snempty, nrm_ofNat, Bool.not_eq_true', Bool.not_eq_false'] at hs_47)
            refine Ie.p rfl rfl rfl rfl ?_
            refine Ie.p rfl rfl rfl rfl ?_
            refine Ie.as 49 (.int .i64 (Int.ofNat (i + 1))) rfl (congrArg (Value.int .i64) (wr_succ (by omega))) ?_
            refine Ie.load rfl rfl rfl rfl rfl ag9 (by first | exact .head | exact .tail .head | exact .tail (.tail .head) | exact .tail (.tail (.tail .head)) | exact .tail (.tail (.tail (.tail .head))) | exact .app .head | exact .app (.tail .head) | exact .app (.tail (.tail .head)) | exact .app (.tail (.tail (.tail .head))) | exact .base ‹_› ‹_› (by simp)) rfl ?_
            refine Ie.len rfl rfl rfl rfl rfl (ln9 ..) ?_
            refine Ie.p rfl rfl rfl rfl ?_
            refine Ie.p rfl rfl rfl rfl ?_
            refine Ie.p rfl rfl rfl rfl ?_
            refine Ie.splitB 54 rfl (fun hs_54 => ?_) (fun hs_54 => ?_)
            · (try simp only [decide_eq_true_eq, decide_eq_false_iff_not, nrm_lt, nrm_nlt, nrm_eq, nrm_neq, nrm_seq, nrm_sneq, nrm_sempty, nrm_snempty, nrm_ofNat, Bool.not_eq_true', Bool.not_eq_false'] at hs_54)
              obtain ⟨y, hy⟩ := at_len (l := w ++ rest) (i := i + 1) (by omega)
              have hyn := num_next hw hr hlt hy
              refine Ie.load rfl rfl rfl rfl rfl ag9 (by first | exact .head | exact .tail .head | exact .tail (.tail .head) | exact .tail (.tail (.tail .head)) | exact .tail (.tail (.tail (.tail .head))) | exact .app .head | exact .app (.tail .head) | exact .app (.tail (.tail .head)) | exact .app (.tail (.tail (.tail .head))) | exact .base ‹_› ‹_› (by simp)) rfl ?_
              refine Ie.p rfl rfl rfl rfl ?_
              refine Ie.p rfl rfl rfl rfl ?_
              refine Ie.as 57 (.int .i64 (Int.ofNat (i + 1))) rfl (congrArg (Value.int .i64) (wr_succ (by omega))) ?_
              refine Ie.indexStr rfl rfl rfl rfl Tryz.underlying9 rfl rfl (hy) ?_
              refine Ie.p rfl rfl rfl rfl ?_
              refine Ie.as 59 (.bool false) rfl (congrArg Value.bool (by rw [eqI_eq]; exact decide_eq_false (fun h => by simp only [Int.ofNat_eq_natCast] at h; omega))) ?_
              refine Ie.p rfl rfl rfl rfl ?_
              refine Ie.load rfl rfl rfl rfl rfl ag9 (by first | exact .head | exact .tail .head | exact .tail (.tail .head) | exact .tail (.tail (.tail .head)) | exact .tail (.tail (.tail (.tail .head))) | exact .app .head | exact .app (.tail .head) | exact .app (.tail (.tail .head)) | exact .app (.tail (.tail (.tail .head))) | exact .base ‹_› ‹_› (by simp)) rfl ?_
              refine Ie.p rfl rfl rfl rfl ?_
              refine Ie.p rfl rfl rfl rfl ?_
              refine Ie.as 63 (.int .i64 (Int.ofNat (i + 1))) rfl (congrArg (Value.int .i64) (wr_succ (by omega))) ?_
              refine Ie.indexStr rfl rfl rfl rfl Tryz.underlying9 rfl rfl (hy) ?_
              refine Ie.p rfl rfl rfl rfl ?_
              refine Ie.as 65 (.bool false) rfl (congrArg Value.bool (by rw [eqI_eq]; exact decide_eq_false (fun h => by simp only [Int.ofNat_eq_natCast] at h; omega))) ?_
              refine Ie.p rfl rfl rfl rfl ?_
              refine Ie.p rfl rfl rfl rfl ?_
              refine Ie.p rfl rfl rfl rfl ?_
              refine Ie.off rfl rfl rfl ?_
              refine Ie.off rfl rfl rfl ?_
              refine Ie.off rfl rfl rfl ?_
              refine Ie.off rfl rfl rfl ?_
              refine Ie.p rfl rfl rfl rfl ?_
              refine Ie.p rfl rfl rfl rfl ?_
              refine Ie.nil ?_
              refine Ne.as 37 (.bool false) rfl (rfl) ?_
              exact Ne.jnx (trivial) (by repeat (first | exact trivial | refine ⟨rfl, ?_⟩)) (List.Sublist.refl _)
            · (try simp only [decide_eq_true_eq, decide_eq_false_iff_not, nrm_lt, nrm_nlt, nrm_eq, nrm_neq, nrm_seq, nrm_sneq, nrm_sempty, nrm_snempty, nrm_ofNat, Bool.not_eq_true', Bool.not_eq_false'] at hs_54)
              refine Ie.off rfl rfl rfl ?_
              refine Ie.off rfl rfl rfl ?_
              refine Ie.off rfl rfl rfl ?_
              refine Ie.off rfl rfl rfl ?_
              refine Ie.off rfl rfl rfl ?_
              refine Ie.off rfl rfl rfl ?_
              refine Ie.off rfl rfl rfl ?_
              refine Ie.off rfl rfl rfl ?_
              refine Ie.off rfl rfl rfl ?_
              refine Ie.off rfl rfl rfl ?_
              refine Ie.off rfl rfl rfl ?_
              refine Ie.off rfl rfl rfl ?_
              refine Ie.p rfl rfl rfl rfl ?_
              refine Ie.p rfl rfl rfl rfl ?_
              refine Ie.off rfl rfl rfl ?_
              refine Ie.off rfl rfl rfl ?_
              refine Ie.off rfl rfl rfl ?_
              refine Ie.off rfl rfl rfl ?_
              refine Ie.p rfl rfl rfl rfl ?_
              refine Ie.p rfl rfl rfl rfl ?_
              refine Ie.nil ?_
              refine Ne.as 37 (.bool false) rfl (rfl) ?_
              exact Ne.jnx (trivial) (by repeat (first | exact trivial | refine ⟨rfl, ?_⟩)) (List.Sublist.refl _)
          · (try simp only [decide_eq_true_eq, decide_eq_false_iff_not, nrm_lt, nrm_nlt, nrm_eq, nrm_neq, nrm_seq, nrm_sneq, nrm_sempty, nrm_snempty, nrm_ofNat, Bool.not_eq_true', Bool.not_eq_false'] at hs_47)
            refine Ie.off rfl rfl rfl ?_
            refine Ie.off rfl rfl rfl ?_
            refine Ie.off rfl rfl rfl ?_
            refine Ie.off rfl rfl rfl ?_
            refine Ie.off rfl rfl rfl ?_
            refine Ie.p rfl rfl rfl rfl ?_
            refine Ie.p rfl rfl rfl rfl ?_
            refine Ie.off rfl rfl rfl ?_
            refine Ie.off rfl rfl rfl ?_
            refine Ie.off rfl rfl rfl ?_
            refine Ie.off rfl rfl rfl ?_
            refine Ie.off rfl rfl rfl ?_
            refine Ie.off rfl rfl rfl ?_
            refine Ie.off rfl rfl rfl ?_
            refine Ie.off rfl rfl rfl ?_
            refine Ie.off rfl rfl rfl ?_
            refine Ie.off rfl rfl rfl ?_
            refine Ie.off rfl rfl rfl ?_
            refine Ie.off rfl rfl rfl ?_
            refine Ie.p rfl rfl rfl rfl ?_
            refine Ie.p rfl rfl rfl rfl ?_
            refine Ie.off rfl rfl rfl ?_
            refine Ie.off rfl rfl rfl ?_
            refine Ie.off rfl rfl rfl ?_
            refine Ie.off rfl rfl rfl ?_
            refine Ie.p rfl rfl rfl rfl ?_
            refine Ie.p rfl rfl rfl rfl ?_
            refine Ie.nil ?_
            refine Ne.as 37 (.bool false) rfl (rfl) ?_
            exact Ne.jnx (trivial) (by repeat (first | exact trivial | refine ⟨rfl, ?_⟩)) (List.Sublist.refl _)
        · (try simp only [decide_eq_true_eq, decide_eq_false_iff_not, nrm_lt, nrm_nlt, nrm_eq, nrm_neq, nrm_seq, nrm_sneq, nrm_sempty, nrm_snempty, nrm_ofNat, Bool.not_eq_true', Bool.not_eq_false'] at hs_40)
          refine Ie.p rfl rfl rfl rfl ?_
          refine Ie.p rfl rfl rfl rfl ?_
          refine Ie.p rfl rfl rfl rfl ?_
          refine Ie.p rfl rfl rfl rfl ?_
          refine Ie.splitB 44 rfl (fun hs_44 => ?_) (fun hs_44 => ?_)
          · (try simp only [decide_eq_true_eq, decide_eq_false_iff_not, nrm_lt, nrm_nlt, nrm_eq, nrm_neq, nrm_seq, nrm_sneq, nrm_sempty, nrm_snempty, nrm_ofNat, Bool.not_eq_true', Bool.not_eq_false'] at hs_44)
            have hlt : i < w.length := by rcases hc with ⟨h, _⟩ | ⟨_, h⟩; (exact h); (rw [h] at hs_44; exact absurd hs_44 (by decide))
            refine Ie.p rfl rfl rfl rfl ?_
            refine Ie.p rfl rfl rfl rfl ?_
            refine Ie.p rfl rfl rfl rfl ?_
            refine Ie.splitB 47 rfl (fun hs_47 => ?_) (fun hs_47 => ?_)
            · (try simp only [decide_eq_true_eq, decide_eq_false_iff_not, nrm_lt, nrm_nlt, nrm_eq, nrm_neq, nrm_seq, nrm_sneq, nrm_sempty, nrm_snempty, nrm_ofNat, Bool.not_eq_true', Bool.not_eq_false'] at hs_47)
              refine Ie.p rfl rfl rfl rfl ?_
              refine Ie.p rfl rfl rfl rfl ?_
              refine Ie.as 49 (.int .i64 (Int.ofNat (i + 1))) rfl (congrArg (Value.int .i64) (wr_succ (by omega))) ?_
              refine Ie.load rfl rfl rfl rfl rfl ag9 (by first | exact .head | exact .tail .head | exact .tail (.tail .head) | exact .tail (.tail (.tail .head)) | exact .tail (.tail (.tail (.tail .head))) | exact .app .head | exact .app (.tail .head) | exact .app (.tail (.tail .head)) | exact .app (.tail (.tail (.tail .head))) | exact .base ‹_› ‹_› (by simp)) rfl ?_
              refine Ie.len rfl rfl rfl rfl rfl (ln9 ..) ?_
              refine Ie.p rfl rfl rfl rfl ?_
              refine Ie.p rfl rfl rfl rfl ?_
              refine Ie.p rfl rfl rfl rfl ?_
              refine Ie.splitB 54 rfl (fun hs_54 => ?_) (fun hs_54 => ?_)
              · (try simp only [decide_eq_true_eq, decide_eq_false_iff_not, nrm_lt, nrm_nlt, nrm_eq, nrm_neq, nrm_seq, nrm_sneq, nrm_sempty, nrm_snempty, nrm_ofNat, Bool.not_eq_true', Bool.not_eq_false'] at hs_54)
                obtain ⟨y, hy⟩ := at_len (l := w ++ rest) (i := i + 1) (by omega)
                have hyn := num_next hw hr hlt hy
                refine Ie.load rfl rfl rfl rfl rfl ag9 (by first | exact .head | exact .tail .head | exact .tail (.tail .head) | exact .tail (.tail (.tail .head)) | exact .tail (.tail (.tail (.tail .head))) | exact .app .head | exact .app (.tail .head) | exact .app (.tail (.tail .head)) | exact .app (.tail (.tail (.tail .head))) | exact .base ‹_› ‹_› (by simp)) rfl ?_
                refine Ie.p rfl rfl rfl rfl ?_
                refine Ie.p rfl rfl rfl rfl ?_
                refine Ie.as 57 (.int .i64 (Int.ofNat (i + 1))) rfl (congrArg (Value.int .i64) (wr_succ (by omega))) ?_
                refine Ie.indexStr rfl rfl rfl rfl Tryz.underlying9 rfl rfl (hy) ?_
                refine Ie.p rfl rfl rfl rfl ?_
                refine Ie.as 59 (.bool false) rfl (congrArg Value.bool (by rw [eqI_eq]; exact decide_eq_false (fun h => by simp only [Int.ofNat_eq_natCast] at h; omega))) ?_
                refine Ie.p rfl rfl rfl rfl ?_
                refine Ie.load rfl rfl rfl rfl rfl ag9 (by first | exact .head | exact .tail .head | exact .tail (.tail .head) | exact .tail (.tail (.tail .head)) | exact .tail (.tail (.tail (.tail .head))) | exact .app .head | exact .app (.tail .head) | exact .app (.tail (.tail .head)) | exact .app (.tail (.tail (.tail .head))) | exact .base ‹_› ‹_› (by simp)) rfl ?_
                refine Ie.p rfl rfl rfl rfl ?_
                refine Ie.p rfl rfl rfl rfl ?_
                refine Ie.as 63 (.int .i64 (Int.ofNat (i + 1))) rfl (congrArg (Value.int .i64) (wr_succ (by omega))) ?_
                refine Ie.indexStr rfl rfl rfl rfl Tryz.underlying9 rfl rfl (hy) ?_
                refine Ie.p rfl rfl rfl rfl ?_
                refine Ie.as 65 (.bool false) rfl (congrArg Value.bool (by rw [eqI_eq]; exact decide_eq_false (fun h => by simp only [Int.ofNat_eq_natCast] at h; omega))) ?_
                refine Ie.p rfl rfl rfl rfl ?_
                refine Ie.p rfl rfl rfl rfl ?_
                refine Ie.p rfl rfl rfl rfl ?_
                refine Ie.off rfl rfl rfl ?_
                refine Ie.off rfl rfl rfl ?_
                refine Ie.off rfl rfl rfl ?_
                refine Ie.off rfl rfl rfl ?_
                refine Ie.p rfl rfl rfl rfl ?_
                refine Ie.p rfl rfl rfl rfl ?_
                refine Ie.nil ?_
                refine Ne.as 37 (.bool false) rfl (rfl) ?_
                exact Ne.jnx (trivial) (by repeat (first | exact trivial | refine ⟨rfl, ?_⟩)) (List.Sublist.refl _)
              · (try simp only [decide_eq_true_eq, decide_eq_false_iff_not, nrm_lt, nrm_nlt, nrm_eq, nrm_neq, nrm_seq, nrm_sneq, nrm_sempty, nrm_snempty, nrm_ofNat, Bool.not_eq_true', Bool.not_eq_false'] at hs_54)
                refine Ie.off rfl rfl rfl ?_
                refine Ie.off rfl rfl rfl ?_
                refine Ie.off rfl rfl rfl ?_
                refine Ie.off rfl rfl rfl ?_
                refine Ie.off rfl rfl rfl ?_
                refine Ie.off rfl rfl rfl ?_
                refine Ie.off rfl rfl rfl ?_
                refine Ie.off rfl rfl rfl ?_
                refine Ie.off rfl rfl rfl ?_
                refine Ie.off rfl rfl rfl ?_
                refine Ie.off rfl rfl rfl ?_
                refine Ie.off rfl rfl rfl ?_
                refine Ie.p rfl rfl rfl rfl ?_
                refine Ie.p rfl rfl rfl rfl ?_
                refine Ie.off rfl rfl rfl ?_
                refine Ie.off rfl rfl rfl ?_
                refine Ie.off rfl rfl rfl ?_
                refine Ie.off rfl rfl rfl ?_
                refine Ie.p rfl rfl rfl rfl ?_
                refine Ie.p rfl rfl rfl rfl ?_
                refine Ie.nil ?_
                refine Ne.as 37 (.bool false) rfl (rfl) ?_
                exact Ne.jnx (trivial) (by repeat (first | exact trivial | refine ⟨rfl, ?_⟩)) (List.Sublist.refl _)
            · (try simp only [decide_eq_true_eq, decide_eq_false_iff_not, nrm_lt, nrm_nlt, nrm_eq, nrm_neq, nrm_seq, nrm_sneq, nrm_sempty, nrm_snempty, nrm_ofNat, Bool.not_eq_true', Bool.not_eq_false'] at hs_47)
              refine Ie.off rfl rfl rfl ?_
              refine Ie.off rfl rfl rfl ?_
              refine Ie.off rfl rfl rfl ?_
              refine Ie.off rfl rfl rfl ?_
              refine Ie.off rfl rfl rfl ?_
              refine Ie.p rfl rfl rfl rfl ?_
              refine Ie.p rfl rfl rfl rfl ?_
              refine Ie.off rfl rfl rfl ?_
              refine Ie.off rfl rfl rfl ?_
              refine Ie.off rfl rfl rfl ?_
              refine Ie.off rfl rfl rfl ?_
              refine Ie.off rfl rfl rfl ?_
              refine Ie.off rfl rfl rfl ?_
              refine Ie.off rfl rfl rfl ?_
              refine Ie.off rfl rfl rfl ?_
              refine Ie.off rfl rfl rfl ?_
              refine Ie.off rfl rfl rfl ?_
              refine Ie.off rfl rfl rfl ?_
              refine Ie.off rfl rfl rfl ?_
              refine Ie.p rfl rfl rfl rfl ?_
              refine Ie.p rfl rfl rfl rfl ?_
              refine Ie.off rfl rfl rfl ?_
              refine Ie.off rfl rfl rfl ?_
              refine Ie.off rfl rfl rfl ?_
              refine Ie.off rfl rfl rfl ?_
              refine Ie.p rfl rfl rfl rfl ?_
              refine Ie.p rfl rfl rfl rfl ?_
              refine Ie.nil ?_
              refine Ne.as 37 (.bool false) rfl (rfl) ?_
              exact Ne.jnx (trivial) (by repeat (first | exact trivial | refine ⟨rfl, ?_⟩)) (List.Sublist.refl _)
          · (try simp only [decide_eq_true_eq, decide_eq_false_iff_not, nrm_lt, nrm_nlt, nrm_eq, nrm_neq, nrm_seq, nrm_sneq, nrm_sempty, nrm_snempty, nrm_ofNat, Bool.not_eq_true', Bool.not_eq_false'] at hs_44)
            refine Ie.off rfl rfl rfl ?_
            refine Ie.p rfl rfl rfl rfl ?_
            refine Ie.p rfl rfl rfl rfl ?_
            refine Ie.off rfl rfl rfl ?_
            refine Ie.off rfl rfl rfl ?_
            refine Ie.off rfl rfl rfl ?_
            refine Ie.off rfl rfl rfl ?_
            refine Ie.off rfl rfl rfl ?_
            refine Ie.p rfl rfl rfl rfl ?_
            refine Ie.p rfl rfl rfl rfl ?_
            refine Ie.off rfl rfl rfl ?_
            refine Ie.off rfl rfl rfl ?_
            refine Ie.off rfl rfl rfl ?_
            refine Ie.off rfl rfl rfl ?_
            refine Ie.off rfl rfl rfl ?_
            refine Ie.off rfl rfl rfl ?_
            refine Ie.off rfl rfl rfl ?_
            refine Ie.off rfl rfl rfl ?_
            refine Ie.off rfl rfl rfl ?_
            refine Ie.off rfl rfl rfl ?_
            refine Ie.off rfl rfl rfl ?_
            refine Ie.off rfl rfl rfl ?_
            refine Ie.p rfl rfl rfl rfl ?_
            refine Ie.p rfl rfl rfl rfl ?_
            refine Ie.off rfl rfl rfl ?_
            refine Ie.off rfl rfl rfl ?_
            refine Ie.off rfl rfl rfl ?_
            refine Ie.off rfl rfl rfl ?_
            refine Ie.p rfl rfl rfl rfl ?_
            refine Ie.p rfl rfl rfl rfl ?_
            refine Ie.nil ?_
            refine Ne.as 37 (.bool false) rfl (rfl) ?_
            exact Ne.jnx (trivial) (by repeat (first | exact trivial | refine ⟨rfl, ?_⟩)) (List.Sublist.refl _)
      · refine Ce.cond_false (rfl) ?_
        refine Ce.seq ?_
        refine Ce.region ?_
        refine Ie.p rfl rfl rfl rfl ?_
        refine Ie.call _ rfl rfl rfl rfl rfl rfl (fun m hm => letter_ok hm.lole) ?_
        refine Ie.p rfl rfl rfl rfl ?_
        refine Ie.nil ?_
        refine Ne.seq ?_
        refine Ce.cond rfl (fun ht76 => ?_) (fun ht76 => ?_)
        · have hlt : i < w.length := by rcases hc with ⟨h, _⟩ | ⟨_, h⟩; (exact h); (rw [h] at ht76; exact absurd ht76 (by decide))
          refine Ce.region ?_
          refine Ie.p rfl rfl rfl rfl ?_
          refine Ie.nil ?_
          refine Ne.blk ?_
          refine Ne.blk ?_
          refine Ne.seq ?_
          refine Ce.region ?_
          refine Ie.p rfl rfl rfl rfl ?_
          refine Ie.p rfl rfl rfl rfl ?_
          refine Ie.as 14 (.int .i64 (Int.ofNat (i + 1))) rfl (congrArg (Value.int .i64) (wr_succ (by omega))) ?_
          refine Ie.p rfl rfl rfl rfl ?_
          refine Ie.nil ?_
          exact Ne.loop (i + 1, _) (by show i + 1 ≤ w.length; omega) (by show w.length - (i + 1) < w.length - i; omega) ⟨rfl, rfl, rfl, rfl, rfl, trivial⟩ (List.Sublist.refl _)
        · have hie : i = w.length := by rcases hc with ⟨_, h⟩ | ⟨h, _⟩; (rw [word_split, ht76, ht21] at h; cases h); exact h
          refine Ce.seq ?_
          refine Ce.region ?_
          refine Ie.load rfl rfl rfl rfl rfl ag9 (by first | exact .head | exact .tail .head | exact .tail (.tail .head) | exact .tail (.tail (.tail .head)) | exact .tail (.tail (.tail (.tail .head))) | exact .app .head | exact .app (.tail .head) | exact .app (.tail (.tail .head)) | exact .app (.tail (.tail (.tail .head))) | exact .base ‹_› ‹_› (by simp)) rfl ?_
          refine Ie.p rfl rfl rfl rfl ?_
          refine Ie.p (v := .string ⟨⟨(w ++ rest).take i⟩⟩) rfl rfl rfl (strTo_E rfl rfl Tryz.underlying9 (by omega)) ?_
          refine Ie.as 20 (.string ⟨⟨w⟩⟩) rfl (congrArg (fun z : List UInt8 => Value.string ⟨⟨z⟩⟩) (by rw [hie]; exact take_app' w rest)) ?_
          refine Ie.p rfl rfl rfl rfl ?_
          refine Ie.nil ?_
          refine Ne.seq ?_
          refine Ce.ret ?_
          refine Re.blk ?_
          refine Re.blk ?_
          refine Re.seq ?_
          refine Re.loop ?_
          refine Re.blk ?_
          refine Re.seq ?_
          exact Re.end_ rfl rfl (fun m hm => ⟨rfl, hm.ext⟩)
  · (try simp only [decide_eq_true_eq, decide_eq_false_iff_not, nrm_lt, nrm_nlt, nrm_eq, nrm_neq, nrm_seq, nrm_sneq, nrm_sempty, nrm_snempty, nrm_ofNat, Bool.not_eq_true', Bool.not_eq_false'] at ht12)
    have hie : i = w.length := by omega
    have hr0 : rest = [] := List.length_eq_zero_iff.1 (by omega)
    subst hr0
    refine Ce.exit ?_
    refine Xe.seq ?_
    refine Xe.loop ?_
    refine Xe.here ?_
    refine Ne.seq ?_
    refine Ce.seq ?_
    refine Ce.region ?_
    refine Ie.load rfl rfl rfl rfl rfl ag9 (by first | exact .head | exact .tail .head | exact .tail (.tail .head) | exact .tail (.tail (.tail .head)) | exact .tail (.tail (.tail (.tail .head))) | exact .app .head | exact .app (.tail .head) | exact .app (.tail (.tail .head)) | exact .app (.tail (.tail (.tail .head))) | exact .base ‹_› ‹_› (by simp)) rfl ?_
    refine Ie.as 79 (.string ⟨⟨w⟩⟩) rfl (congrArg (fun z : List UInt8 => Value.string ⟨⟨z⟩⟩) (List.append_nil w)) ?_
    refine Ie.p rfl rfl rfl rfl ?_
    refine Ie.nil ?_
    refine Ne.seq ?_
    refine Ce.ret ?_
    exact Re.end_ rfl rfl (fun m hm => ⟨rfl, hm.ext⟩)

theorem done_ok {T : List UInt8} {wx at_ : Nat} {gv : Value} {m : AW} (hm : m.lo ≤ m.next) (hx : Mem m wx (.cells [.string ⟨⟨T⟩⟩, .int .i64 (Int.ofNat (at_)), gv] 36 false .plain none)) : Fc Tryz.prog 7 [.pointer (some ⟨wx, 0, none⟩)] m fun v m' => v = .bool (decide (T.length ≤ at_)) ∧ Ext m m' := by
  have hsz : (⟨⟨T⟩⟩ : ByteArray).size = T.length := rfl
  refine Fc.body (c := _) Tryz.func7 rfl rfl rfl rfl hm ?_
  refine Ce.seq ?_
  refine Ce.region ?_
  refine Ie.p rfl rfl rfl rfl ?_
  refine Ie.nil ?_
  refine Ne.seq ?_
  refine Ce.seq ?_
  refine Ce.draw [⟨0, .p, true, true, 0⟩, ⟨1, .p, true, true, 1⟩, ⟨2, .p, true, true, 3⟩, ⟨3, .l, true, true, 7⟩, ⟨4, .p, true, true, 0⟩, ⟨5, .p, true, true, 16⟩, ⟨6, .p, true, true, 48⟩, ⟨7, .l, true, true, 112⟩, ⟨8, .l, true, true, 240⟩, ⟨9, .p, true, true, 511⟩, ⟨10, .p, true, true, 1023⟩] (by kernel_rfl) (by kernel_rfl) (fun base hbase hB => ?_)
  refine De.p rfl rfl rfl rfl rfl ?_
  refine De.p rfl rfl rfl rfl rfl ?_
  refine De.fieldAddr rfl rfl rfl rfl rfl rfl fa34_1 ?_
  refine De.load rfl rfl rfl rfl rfl rfl rfl rfl ag3 (.base hx.2 hx.1 (by simp)) rfl ?_
  refine De.p rfl rfl rfl rfl rfl ?_
  refine De.p rfl rfl rfl rfl rfl ?_
  refine De.fieldAddr rfl rfl rfl rfl rfl rfl fa34_0 ?_
  refine De.load rfl rfl rfl rfl rfl rfl rfl rfl ag9 (.base hx.2 hx.1 (by simp)) rfl ?_
  refine De.len rfl rfl rfl rfl rfl rfl (ln9 ..) ?_
  refine De.p rfl rfl rfl rfl rfl ?_
  refine De.p rfl rfl rfl rfl rfl ?_
  refine De.nil ?_
  refine Ne.seq ?_
  refine Ce.ret ?_
  exact Re.end_ rfl rfl (fun m hm => ⟨congrArg Value.bool (by rw [Bool.eq_iff_iff]; simp only [nrm_lt, nrm_nlt, nrm_eq, nrm_neq, nrm_seq, nrm_sneq, nrm_sempty, nrm_snempty, nrm_ofNat, Bool.not_eq_true', Bool.not_eq_false', decide_eq_true_eq, Bool.false_eq_true, reduceCtorEq, Classical.not_not, true_iff, false_iff, iff_true, iff_false]; omega), hm.ext⟩)

theorem rest_ok {T : List UInt8} {wx at_ : Nat} {gv : Value} {m : AW} (hm : m.lo ≤ m.next) (hx : Mem m wx (.cells [.string ⟨⟨T⟩⟩, .int .i64 (Int.ofNat (at_)), gv] 36 false .plain none)) (ha : at_ ≤ T.length) : Fc Tryz.prog 10 [.pointer (some ⟨wx, 0, none⟩)] m fun v m' => v = .string ⟨⟨T.drop at_⟩⟩ ∧ Ext m m' := by
  refine Fc.body (c := _) Tryz.func10 rfl rfl rfl rfl hm ?_
  refine Ce.seq ?_
  refine Ce.region ?_
  refine Ie.p rfl rfl rfl rfl ?_
  refine Ie.nil ?_
  refine Ne.seq ?_
  refine Ce.seq ?_
  refine Ce.draw [⟨0, .p, true, true, 0⟩, ⟨1, .p, true, true, 1⟩, ⟨2, .p, true, true, 3⟩, ⟨3, .l, true, true, 7⟩, ⟨4, .p, true, true, 0⟩, ⟨5, .p, true, true, 16⟩, ⟨6, .p, true, true, 48⟩, ⟨7, .l, true, true, 112⟩, ⟨8, .p, true, true, 255⟩, ⟨9, .p, true, true, 511⟩] (by kernel_rfl) (by kernel_rfl) (fun base hbase hB => ?_)
  refine De.p rfl rfl rfl rfl rfl ?_
  refine De.p rfl rfl rfl rfl rfl ?_
  refine De.fieldAddr rfl rfl rfl rfl rfl rfl fa34_0 ?_
  refine De.load rfl rfl rfl rfl rfl rfl rfl rfl ag9 (.base hx.2 hx.1 (by simp)) rfl ?_
  refine De.p rfl rfl rfl rfl rfl ?_
  refine De.p rfl rfl rfl rfl rfl ?_
  refine De.fieldAddr rfl rfl rfl rfl rfl rfl fa34_1 ?_
  refine De.load rfl rfl rfl rfl rfl rfl rfl rfl ag3 (.base hx.2 hx.1 (by simp)) rfl ?_
  refine De.p (v := .string ⟨⟨(T).drop at_⟩⟩) rfl rfl rfl rfl (strFrom_E rfl rfl Tryz.underlying9 (ha)) ?_
  refine De.p rfl rfl rfl rfl rfl ?_
  refine De.nil ?_
  refine Ne.seq ?_
  refine Ce.ret ?_
  exact Re.end_ rfl rfl (fun m hm => ⟨rfl, hm.ext⟩)

theorem reader_ok {wx c : Nat} {m : AW} (hm : m.lo ≤ m.next) (hc : digB c = true) : Fc Tryz.prog 9 [.pointer (some ⟨wx, 0, none⟩), .int .u8 (Int.ofNat c)] m fun v m' => v = .func (.func 16) ⟨[.pointer (some ⟨wx, 0, none⟩)]⟩ ⟨[]⟩ ∧ Ext m m' := by
  refine Fc.body (c := _) Tryz.func9 rfl rfl rfl rfl hm ?_
  refine Ce.seq ?_
  refine Ce.region ?_
  refine Ie.box rfl rfl rfl rfl rfl (fun b2 hb2 => ?_)
  refine Ie.p rfl rfl rfl rfl ?_
  refine Ie.nil ?_
  refine Ne.seq ?_
  refine Ce.seq ?_
  refine Ce.block ?_
  refine Ce.seq ?_
  refine Ce.region ?_
  refine Ie.p rfl rfl rfl rfl ?_
  refine Ie.call _ rfl rfl rfl rfl rfl rfl (fun m hm => letter_ok hm.lole) ?_
  refine Ie.p rfl rfl rfl rfl ?_
  refine Ie.nil ?_
  refine Ne.seq ?_
  refine Ce.cond rfl (fun ht7 => ?_) (fun ht7 => ?_)
  · rw [dig_no_let hc] at ht7; cases ht7
  · refine Ce.seq ?_
    refine Ce.region ?_
    refine Ie.p rfl rfl rfl rfl ?_
    refine Ie.call _ rfl rfl rfl rfl rfl rfl (fun m hm => digit_ok hm.lole) ?_
    refine Ie.p rfl rfl rfl rfl ?_
    refine Ie.nil ?_
    refine Ne.seq ?_
    refine Ce.cond rfl (fun ht12 => ?_) (fun ht12 => ?_)
    · refine Ce.seq ?_
      refine Ce.region ?_
      refine Ie.load rfl rfl rfl rfl rfl ag32 (by first | exact .head | exact .tail .head | exact .tail (.tail .head) | exact .tail (.tail (.tail .head)) | exact .tail (.tail (.tail (.tail .head))) | exact .app .head | exact .app (.tail .head) | exact .app (.tail (.tail .head)) | exact .app (.tail (.tail (.tail .head))) | exact .base ‹_› ‹_› (by simp)) rfl ?_
      refine Ie.p rfl rfl rfl rfl ?_
      refine Ie.p rfl rfl rfl rfl ?_
      refine Ie.nil ?_
      refine Ne.seq ?_
      refine Ce.ret ?_
      refine Re.blk ?_
      refine Re.seq ?_
      exact Re.end_ rfl rfl (fun m hm => ⟨rfl, hm.ext⟩)
    · rw [hc] at ht12; cases ht12

theorem numd_ok {K : List Nat} {T w rest : List UInt8} {wx at_ : Nat} {gv : Value} {m : AW} (hm : m.lo ≤ m.next) (hk : Knows K m m [(wx, .cells [.string ⟨⟨T⟩⟩, .int .i64 (Int.ofNat (at_)), gv] 36 false .plain none)]) (hT : T.drop at_ = w ++ rest) (hr : EndB rest) (ha : at_ ≤ T.length) (hTl : T.length ≤ 1000) (hw100 : w.length ≤ 100) (hD : AllD w) (h0 : 0 < w.length) (hM : valL 10 0 w ≤ 9223372036854775807) : Fc Tryz.prog 16 [.pointer (some ⟨wx, 0, none⟩)] m fun v m' => v = .agg ⟨[.int .i64 4, .string ⟨⟨[]⟩⟩, .int .i64 (Int.ofNat (valL 10 0 w)), .int .i64 (Int.ofNat (at_))]⟩ ∧ Knows K m m' [(wx, .cells [.string ⟨⟨T⟩⟩, .int .i64 (Int.ofNat (at_ + w.length)), gv] 36 false .plain none)] := by
  have hlw : w.length + rest.length + at_ = T.length := by have h_ := congrArg List.length hT; rw [List.length_drop, List.length_append] at h_; omega
  have hl1 : (w ++ rest).length ≤ 1000 := by rw [List.length_append]; omega
  have hszw : (⟨⟨w⟩⟩ : ByteArray).size = w.length := rfl
  have hww : ∀ c ∈ w, wordC c = true := fun c hc => digB_word (hD c hc)
  have hvw : ∀ c ∈ w, valN c.toNat < 10 := fun c hc => by have h_ := digB_iff.1 (hD c hc); unfold valN; rw [if_pos h_]; omega
  refine Fc.bodyS (S := K) (c := _) Tryz.func16 rfl rfl rfl rfl hk ?_
  refine Ce.seq ?_
  refine Ce.region ?_
  refine Ie.alloc rfl rfl rfl rfl zr30 (fun b2 hb2 => ?_)
  refine Ie.nil ?_
  refine Ne.seq ?_
  refine Ce.seq ?_
  refine Ce.region ?_
  refine Ie.p rfl rfl rfl rfl ?_
  refine Ie.p rfl rfl rfl rfl ?_
  refine Ie.fieldAddr rfl rfl rfl rfl rfl fa36_0 ?_
  refine Ie.call _ rfl rfl rfl rfl rfl rfl (fun m hm => rest_ok hm.lole ⟨(hm.has wx _ (.tail _ (.head _))).2, (hm.has wx _ (.tail _ (.head _))).1⟩ ha) ?_
  refine Ie.as 11 (.string ⟨⟨w ++ rest⟩⟩) rfl (congrArg (fun z : List UInt8 => Value.string ⟨⟨z⟩⟩) (hT)) ?_
  refine Ie.call _ rfl rfl rfl rfl rfl rfl (fun m hm => numeral_ok hm.lole hww hr hl1) ?_
  refine Ie.p rfl rfl rfl rfl ?_
  refine Ie.nil ?_
  refine Ne.seq ?_
  refine Ce.seq ?_
  refine Ce.region ?_
  refine Ie.p rfl rfl rfl rfl ?_
  refine Ie.p rfl rfl rfl rfl ?_
  refine Ie.fieldAddr rfl rfl rfl rfl rfl fa36_0 ?_
  refine Ie.fieldAddr rfl rfl rfl rfl rfl fa34_1 ?_
  refine Ie.load rfl rfl rfl rfl rfl ag3 (by first | exact .head | exact .tail .head | exact .tail (.tail .head) | exact .tail (.tail (.tail .head)) | exact .tail (.tail (.tail (.tail .head))) | exact .app .head | exact .app (.tail .head) | exact .app (.tail (.tail .head)) | exact .app (.tail (.tail (.tail .head))) | exact .base ‹_› ‹_› (by simp)) rfl ?_
  refine Ie.p (v := .agg ⟨[.int .i64 4, .string ⟨⟨[]⟩⟩, .int .i64 0, .int .i64 (Int.ofNat at_)]⟩) rfl rfl rfl (by kernel_rfl) ?_
  refine Ie.alloc rfl rfl rfl rfl zr30 (fun b4 hb4 => ?_)
  refine Ie.store rfl rfl rfl rfl rfl sz30 rfl (by first | exact .head | exact .tail .head | exact .tail (.tail .head) | exact .tail (.tail (.tail .head)) | exact updo) rfl ?_
  refine Ie.nil ?_
  refine Ne.seq ?_
  refine Ce.seq ?_
  refine Ce.region ?_
  refine Ie.p rfl rfl rfl rfl ?_
  refine Ie.nil ?_
  refine Ne.seq ?_
  refine Ce.seq ?_
  refine Ce.block ?_
  refine Ce.seq ?_
  refine Ce.region ?_
  refine Ie.p rfl rfl rfl rfl ?_
  refine Ie.len rfl rfl rfl rfl rfl (ln9 ..) ?_
  refine Ie.p rfl rfl rfl rfl ?_
  refine Ie.as 28 (.bool false) rfl (congrArg Value.bool (by rw [ltI_eq]; exact decide_eq_false (by simp only [Int.ofNat_eq_natCast]; omega))) ?_
  refine Ie.p rfl rfl rfl rfl ?_
  refine Ie.nil ?_
  refine Ne.seq ?_
  refine Ce.cond_false rfl ?_
  refine Ce.seq ?_
  refine Ce.region ?_
  refine Ie.p rfl rfl rfl rfl ?_
  refine Ie.call _ rfl rfl rfl rfl rfl rfl (fun m hm => digits_ok hm.lole (by omega)) ?_
  refine Ie.as 31 (.int .i64 (Int.ofNat (w.length))) rfl (congrArg (Value.int .i64) (congrArg Int.ofNat (digN_full hD))) ?_
  refine Ie.p rfl rfl rfl rfl ?_
  refine Ie.len rfl rfl rfl rfl rfl (ln9 ..) ?_
  refine Ie.p rfl rfl rfl rfl ?_
  refine Ie.as 34 (.bool true) rfl (congrArg Value.bool (by rw [eqI_eq]; exact decide_eq_true rfl)) ?_
  refine Ie.p rfl rfl rfl rfl ?_
  refine Ie.nil ?_
  refine Ne.seq ?_
  refine Ce.cond_true rfl ?_
  refine Ce.region ?_
  refine Ie.p rfl rfl rfl rfl ?_
  refine Ie.call _ rfl rfl rfl rfl rfl rfl (fun m hm => integer_ok (l := w) (b := 10) hm.lole (by omega) (by decide) (by decide) hvw hM) ?_
  refine Ie.p rfl rfl rfl rfl ?_
  refine Ie.p rfl rfl rfl rfl ?_
  refine Ie.p rfl rfl rfl rfl ?_
  refine Ie.fieldAddr rfl rfl rfl rfl rfl fa30_2 ?_
  refine Ie.store rfl rfl rfl rfl rfl sz2 rfl (by first | exact .head | exact .tail .head | exact .tail (.tail .head) | exact .tail (.tail (.tail .head)) | exact updo) rfl ?_
  refine Ie.p rfl rfl rfl rfl ?_
  refine Ie.nil ?_
  refine Ne.blk ?_
  refine Ne.seq ?_
  refine Ce.seq ?_
  refine Ce.seq ?_
  refine Ce.region ?_
  refine Ie.p rfl rfl rfl rfl ?_
  refine Ie.p rfl rfl rfl rfl ?_
  refine Ie.as 57 (.bool false) rfl (congrArg Value.bool (rfl)) ?_
  refine Ie.nil ?_
  refine Ne.seq ?_
  refine Ce.cond_false rfl ?_
  refine Ce.skip ?_
  refine Ne.seq ?_
  refine Ce.seq ?_
  refine Ce.region ?_
  refine Ie.p rfl rfl rfl rfl ?_
  refine Ie.p rfl rfl rfl rfl ?_
  refine Ie.fieldAddr rfl rfl rfl rfl rfl fa36_0 ?_
  refine Ie.fieldAddr rfl rfl rfl rfl rfl fa34_1 ?_
  refine Ie.load rfl rfl rfl rfl rfl ag3 (by first | exact .head | exact .tail .head | exact .tail (.tail .head) | exact .tail (.tail (.tail .head)) | exact .tail (.tail (.tail (.tail .head))) | exact .app .head | exact .app (.tail .head) | exact .app (.tail (.tail .head)) | exact .app (.tail (.tail (.tail .head))) | exact .base ‹_› ‹_› (by simp)) rfl ?_
  refine Ie.p rfl rfl rfl rfl ?_
  refine Ie.len rfl rfl rfl rfl rfl (ln9 ..) ?_
  refine Ie.p rfl rfl rfl rfl ?_
  refine Ie.as 72 (.int .i64 (Int.ofNat (at_ + w.length))) rfl (congrArg (Value.int .i64) (addI (a := at_) (b := w.length) (by omega))) ?_
  refine Ie.p rfl rfl rfl rfl ?_
  refine Ie.fieldAddr rfl rfl rfl rfl rfl fa36_0 ?_
  refine Ie.fieldAddr rfl rfl rfl rfl rfl fa34_1 ?_
  refine Ie.store rfl rfl rfl rfl rfl sz3 rfl (by first | exact .head | exact .tail .head | exact .tail (.tail .head) | exact .tail (.tail (.tail .head)) | exact updo) rfl ?_
  refine Ie.nil ?_
  refine Ne.seq ?_
  refine Ce.seq ?_
  refine Ce.region ?_
  refine Ie.loadAgg rfl rfl rfl rfl rfl ag30 sz30 (by first | exact .head | exact .tail .head | exact .tail (.tail .head) | exact .tail (.tail (.tail .head)) | exact .tail (.tail (.tail (.tail .head))) | exact .app .head | exact .app (.tail .head) | exact .app (.tail (.tail .head)) | exact .app (.tail (.tail (.tail .head))) | exact .base ‹_› ‹_› (by simp)) (Nat.le_of_ble_eq_true rfl) rfl ?_
  refine Ie.store rfl rfl rfl rfl rfl sz30 rfl (by first | exact .head | exact .tail .head | exact .tail (.tail .head) | exact .tail (.tail (.tail .head)) | exact updo) rfl ?_
  refine Ie.nil ?_
  refine Ne.seq ?_
  refine Ce.ret ?_
  refine Re.endH rfl (.agg rfl ag30 sz30 (by first | exact .head | exact .tail .head | exact .tail (.tail .head) | exact .tail (.tail (.tail .head)) | exact .tail (.tail (.tail (.tail .head))) | exact .app .head | exact .app (.tail .head) | exact .app (.tail (.tail .head)) | exact .app (.tail (.tail (.tail .head))) | exact .base ‹_› ‹_› (by simp)) (Nat.le_of_ble_eq_true rfl) rfl .nil) ?_
  exact fun m hm => ⟨rfl, hm.sub (.cons _ (.cons _ (List.Sublist.refl _)))⟩

theorem numb_ok {K : List Nat} {T w rest D A : List UInt8} {wx at_ b : Nat} {gv : Value} {m : AW} (hm : m.lo ≤ m.next) (hk : Knows K m m [(wx, .cells [.string ⟨⟨T⟩⟩, .int .i64 (Int.ofNat (at_)), gv] 36 false .plain none)]) (hT : T.drop at_ = w ++ rest) (hr : EndB rest) (ha : at_ ≤ T.length) (hTl : T.length ≤ 1000) (hw100 : w.length ≤ 100) (hwe : w = D ++ 114 :: A) (hD : AllD D) (h0 : 0 < D.length) (hb : valL 10 0 D = b) (hbl : 2 ≤ b) (hbu : b ≤ 36) (hA : ∀ c ∈ A, wordC c = true) (hu : ∀ c ∈ A, c ≠ 95) (hA0 : 0 < A.length) (hv : ∀ c ∈ A, valN c.toNat < b) (hM : valL b 0 A ≤ 9223372036854775807) (hlay : LaidAt lays m) (hK : ∀ p ∈ lays, p.1 ∉ K) : Fc Tryz.prog 16 [.pointer (some ⟨wx, 0, none⟩)] m fun v m' => v = .agg ⟨[.int .i64 4, .string ⟨⟨[]⟩⟩, .int .i64 (Int.ofNat (valL b 0 A)), .int .i64 (Int.ofNat (at_))]⟩ ∧ Knows K m m' [(wx, .cells [.string ⟨⟨T⟩⟩, .int .i64 (Int.ofNat (at_ + w.length)), gv] 36 false .plain none)] := by
  have hlw : w.length + rest.length + at_ = T.length := by have h_ := congrArg List.length hT; rw [List.length_drop, List.length_append] at h_; omega
  have hl1 : (w ++ rest).length ≤ 1000 := by rw [List.length_append]; omega
  have hszw : (⟨⟨w⟩⟩ : ByteArray).size = w.length := rfl
  have hww : ∀ c ∈ w, wordC c = true := fun c hc => by rw [hwe] at hc; exact (List.mem_append.1 hc).elim (fun h => digB_word (hD c h)) fun h => (List.mem_cons.1 h).elim (fun h => by rw [h]; rfl) (hA c)
  have hlD : w.length = D.length + (A.length + 1) := by rw [hwe, List.length_append, List.length_cons]
  refine Fc.bodyS (S := K) (c := _) Tryz.func16 rfl rfl rfl rfl hk ?_
  refine Ce.seq ?_
  refine Ce.region ?_
  refine Ie.alloc rfl rfl rfl rfl zr30 (fun b2 hb2 => ?_)
  refine Ie.nil ?_
  refine Ne.seq ?_
  refine Ce.seq ?_
  refine Ce.region ?_
  refine Ie.p rfl rfl rfl rfl ?_
  refine Ie.p rfl rfl rfl rfl ?_
  refine Ie.fieldAddr rfl rfl rfl rfl rfl fa36_0 ?_
  refine Ie.call _ rfl rfl rfl rfl rfl rfl (fun m hm => rest_ok hm.lole ⟨(hm.has wx _ (.tail _ (.head _))).2, (hm.has wx _ (.tail _ (.head _))).1⟩ ha) ?_
  refine Ie.as 11 (.string ⟨⟨w ++ rest⟩⟩) rfl (congrArg (fun z : List UInt8 => Value.string ⟨⟨z⟩⟩) (hT)) ?_
  refine Ie.call _ rfl rfl rfl rfl rfl rfl (fun m hm => numeral_ok hm.lole hww hr hl1) ?_
  refine Ie.p rfl rfl rfl rfl ?_
  refine Ie.nil ?_
  refine Ne.seq ?_
  refine Ce.seq ?_
  refine Ce.region ?_
  refine Ie.p rfl rfl rfl rfl ?_
  refine Ie.p rfl rfl rfl rfl ?_
  refine Ie.fieldAddr rfl rfl rfl rfl rfl fa36_0 ?_
  refine Ie.fieldAddr rfl rfl rfl rfl rfl fa34_1 ?_
  refine Ie.load rfl rfl rfl rfl rfl ag3 (by first | exact .head | exact .tail .head | exact .tail (.tail .head) | exact .tail (.tail (.tail .head)) | exact .tail (.tail (.tail (.tail .head))) | exact .app .head | exact .app (.tail .head) | exact .app (.tail (.tail .head)) | exact .app (.tail (.tail (.tail .head))) | exact .base ‹_› ‹_› (by simp)) rfl ?_
  refine Ie.p (v := .agg ⟨[.int .i64 4, .string ⟨⟨[]⟩⟩, .int .i64 0, .int .i64 (Int.ofNat at_)]⟩) rfl rfl rfl (by kernel_rfl) ?_
  refine Ie.alloc rfl rfl rfl rfl zr30 (fun b4 hb4 => ?_)
  refine Ie.store rfl rfl rfl rfl rfl sz30 rfl (by first | exact .head | exact .tail .head | exact .tail (.tail .head) | exact .tail (.tail (.tail .head)) | exact updo) rfl ?_
  refine Ie.nil ?_
  refine Ne.seq ?_
  refine Ce.seq ?_
  refine Ce.region ?_
  refine Ie.p rfl rfl rfl rfl ?_
  refine Ie.nil ?_
  refine Ne.seq ?_
  refine Ce.seq ?_
  refine Ce.block ?_
  refine Ce.seq ?_
  refine Ce.region ?_
  refine Ie.p rfl rfl rfl rfl ?_
  refine Ie.len rfl rfl rfl rfl rfl (ln9 ..) ?_
  refine Ie.p rfl rfl rfl rfl ?_
  refine Ie.as 28 (.bool false) rfl (congrArg Value.bool (by rw [ltI_eq]; exact decide_eq_false (by simp only [Int.ofNat_eq_natCast]; omega))) ?_
  refine Ie.p rfl rfl rfl rfl ?_
  refine Ie.nil ?_
  refine Ne.seq ?_
  refine Ce.cond_false rfl ?_
  refine Ce.seq ?_
  refine Ce.region ?_
  refine Ie.p rfl rfl rfl rfl ?_
  refine Ie.call _ rfl rfl rfl rfl rfl rfl (fun m hm => digits_ok hm.lole (by omega)) ?_
  refine Ie.as 31 (.int .i64 (Int.ofNat (D.length))) rfl (congrArg (Value.int .i64) (congrArg Int.ofNat (by rw [hwe]; exact digN_app hD))) ?_
  refine Ie.p rfl rfl rfl rfl ?_
  refine Ie.len rfl rfl rfl rfl rfl (ln9 ..) ?_
  refine Ie.p rfl rfl rfl rfl ?_
  refine Ie.as 34 (.bool false) rfl (congrArg Value.bool (by rw [eqI_eq]; exact decide_eq_false (by simp only [Int.ofNat_eq_natCast]; omega))) ?_
  refine Ie.p rfl rfl rfl rfl ?_
  refine Ie.nil ?_
  refine Ne.seq ?_
  refine Ce.cond_false rfl ?_
  refine Ce.seq ?_
  refine Ce.region ?_
  refine Ie.p rfl rfl rfl rfl ?_
  refine Ie.as 3 (.string ⟨⟨D ++ 114 :: A⟩⟩) rfl (congrArg (fun z : List UInt8 => Value.string ⟨⟨z⟩⟩) hwe) ?_
  refine Ie.as 42 (.string ⟨⟨D ++ 114 :: A⟩⟩) rfl (congrArg (fun z : List UInt8 => Value.string ⟨⟨z⟩⟩) hwe) ?_
  refine Ie.call (.bool false) rfl rfl rfl rfl rfl rfl (fun m hm => isReal_ok hm.lole hD h0 (by rw [← hwe]; omega)) ?_
  refine Ie.p rfl rfl rfl rfl ?_
  refine Ie.nil ?_
  refine Ne.seq ?_
  refine Ce.cond_false (rfl) ?_
  refine Ce.region ?_
  refine Ie.p rfl rfl rfl rfl ?_
  refine Ie.call _ rfl rfl rfl rfl rfl rfl (fun m hm => based_ok hm.lole hD h0 (by rw [← hwe]; omega) hb hbl hbu hA hu hA0 hv hM (hlay.krS hK hm)) ?_
  refine Ie.p rfl rfl rfl rfl ?_
  refine Ie.p rfl rfl rfl rfl ?_
  refine Ie.p rfl rfl rfl rfl ?_
  refine Ie.fieldAddr rfl rfl rfl rfl rfl fa30_2 ?_
  refine Ie.store rfl rfl rfl rfl rfl sz2 rfl (by first | exact .head | exact .tail .head | exact .tail (.tail .head) | exact .tail (.tail (.tail .head)) | exact updo) rfl ?_
  refine Ie.p rfl rfl rfl rfl ?_
  refine Ie.nil ?_
  refine Ne.blk ?_
  refine Ne.seq ?_
  refine Ce.seq ?_
  refine Ce.seq ?_
  refine Ce.region ?_
  refine Ie.p rfl rfl rfl rfl ?_
  refine Ie.p rfl rfl rfl rfl ?_
  refine Ie.as 57 (.bool false) rfl (congrArg Value.bool (rfl)) ?_
  refine Ie.nil ?_
  refine Ne.seq ?_
  refine Ce.cond_false rfl ?_
  refine Ce.skip ?_
  refine Ne.seq ?_
  refine Ce.seq ?_
  refine Ce.region ?_
  refine Ie.p rfl rfl rfl rfl ?_
  refine Ie.p rfl rfl rfl rfl ?_
  refine Ie.fieldAddr rfl rfl rfl rfl rfl fa36_0 ?_
  refine Ie.fieldAddr rfl rfl rfl rfl rfl fa34_1 ?_
  refine Ie.load rfl rfl rfl rfl rfl ag3 (by first | exact .head | exact .tail .head | exact .tail (.tail .head) | exact .tail (.tail (.tail .head)) | exact .tail (.tail (.tail (.tail .head))) | exact .app .head | exact .app (.tail .head) | exact .app (.tail (.tail .head)) | exact .app (.tail (.tail (.tail .head))) | exact .base ‹_› ‹_› (by simp)) rfl ?_
  refine Ie.p rfl rfl rfl rfl ?_
  refine Ie.len rfl rfl rfl rfl rfl (ln9 ..) ?_
  refine Ie.p rfl rfl rfl rfl ?_
  refine Ie.as 72 (.int .i64 (Int.ofNat (at_ + w.length))) rfl (congrArg (Value.int .i64) (by rw [show (⟨⟨D ++ 114 :: A⟩⟩ : ByteArray).size = w.length by rw [hwe]; rfl]; exact addI (a := at_) (b := w.length) (by omega))) ?_
  refine Ie.p rfl rfl rfl rfl ?_
  refine Ie.fieldAddr rfl rfl rfl rfl rfl fa36_0 ?_
  refine Ie.fieldAddr rfl rfl rfl rfl rfl fa34_1 ?_
  refine Ie.store rfl rfl rfl rfl rfl sz3 rfl (by first | exact .head | exact .tail .head | exact .tail (.tail .head) | exact .tail (.tail (.tail .head)) | exact updo) rfl ?_
  refine Ie.nil ?_
  refine Ne.seq ?_
  refine Ce.seq ?_
  refine Ce.region ?_
  refine Ie.loadAgg rfl rfl rfl rfl rfl ag30 sz30 (by first | exact .head | exact .tail .head | exact .tail (.tail .head) | exact .tail (.tail (.tail .head)) | exact .tail (.tail (.tail (.tail .head))) | exact .app .head | exact .app (.tail .head) | exact .app (.tail (.tail .head)) | exact .app (.tail (.tail (.tail .head))) | exact .base ‹_› ‹_› (by simp)) (Nat.le_of_ble_eq_true rfl) rfl ?_
  refine Ie.store rfl rfl rfl rfl rfl sz30 rfl (by first | exact .head | exact .tail .head | exact .tail (.tail .head) | exact .tail (.tail (.tail .head)) | exact updo) rfl ?_
  refine Ie.nil ?_
  refine Ne.seq ?_
  refine Ce.ret ?_
  refine Re.endH rfl (.agg rfl ag30 sz30 (by first | exact .head | exact .tail .head | exact .tail (.tail .head) | exact .tail (.tail (.tail .head)) | exact .tail (.tail (.tail (.tail .head))) | exact .app .head | exact .app (.tail .head) | exact .app (.tail (.tail .head)) | exact .app (.tail (.tail (.tail .head))) | exact .base ‹_› ‹_› (by simp)) (Nat.le_of_ble_eq_true rfl) rfl .nil) ?_
  exact fun m hm => ⟨rfl, hm.sub (.cons _ (.cons _ (List.Sublist.refl _)))⟩

theorem num_ok {K : List Nat} {T w rest : List UInt8} {wx at_ n : Nat} {gv : Value} {m : AW} (hm : m.lo ≤ m.next) (hk : Knows K m m [(wx, .cells [.string ⟨⟨T⟩⟩, .int .i64 (Int.ofNat (at_)), gv] 36 false .plain none)]) (hT : T.drop at_ = w ++ rest) (hr : EndB rest) (ha : at_ ≤ T.length) (hTl : T.length ≤ 1000) (hw100 : w.length ≤ 100) (hn : NumW w n) (hlay : LaidAt lays m) (hK : ∀ p ∈ lays, p.1 ∉ K) : Fc Tryz.prog 16 [.pointer (some ⟨wx, 0, none⟩)] m fun v m' => v = .agg ⟨[.int .i64 4, .string ⟨⟨[]⟩⟩, .int .i64 (Int.ofNat (n)), .int .i64 (Int.ofNat (at_))]⟩ ∧ Knows K m m' [(wx, .cells [.string ⟨⟨T⟩⟩, .int .i64 (Int.ofNat (at_ + w.length)), gv] 36 false .plain none)] := by
  rcases hn with ⟨hD, h0, rfl, hM⟩ | ⟨D, A, b, rfl, hD, h0, hb, hbl, hbu, hA, hu, hA0, hv, rfl, hM⟩
  · exact numd_ok hm hk hT hr ha hTl hw100 hD h0 hM
  · exact numb_ok hm hk hT hr ha hTl hw100 rfl hD h0 hb hbl hbu hA hu hA0 hv hM hlay hK

theorem tok1_ok {c1 c2 : Nat} {m : AW} (hm : m.lo ≤ m.next) : Fc Tryz.prog 6 [.pointer (some ⟨c1, 0, none⟩), .pointer (some ⟨c2, 0, none⟩)] m fun v m' => Ext m m' := by
  refine Fc.body (c := _) Tryz.func6 rfl rfl rfl rfl hm ?_
  refine Ce.seq ?_
  refine Ce.region ?_
  refine Ie.recover rfl rfl rfl rfl rfl ?_
  refine Ie.p rfl rfl rfl rfl ?_
  refine Ie.nil ?_
  refine Ne.seq ?_
  refine Ce.seq ?_
  refine Ce.region ?_
  refine Ie.p rfl rfl rfl rfl ?_
  refine Ie.bin (v := .bool false) rfl rfl rfl rfl rfl rfl (by kernel_rfl) ?_
  refine Ie.nil ?_
  refine Ne.seq ?_
  refine Ce.cond_false rfl ?_
  refine Ce.skip ?_
  exact Ne.end_ rfl rfl (fun m hm => hm.ext)

theorem tok_ok {w1 w2 : List UInt8} {n1 n2 : Nat} {m : AW} (hm : m.lo ≤ m.next) (h1 : NumW w1 n1) (h2 : NumW w2 n2) (hl1 : w1.length ≤ 100) (hl2 : w2.length ≤ 100) (hlay : LaidAt lays m) : Fc Tryz.prog 4 [.string ⟨⟨w1 ++ 32 :: w2⟩⟩] m fun v m' => ∃ x : Gro × List Value, (Flat 4 RTok [(4, Int.ofNat n1, Int.ofNat 0), (4, Int.ofNat n2, Int.ofNat (w1.length + 1)), (0, 0, Int.ofNat (w1.length + (w2.length + 1)))] x.2 ∧ x.1.Ok 3) ∧ v = .tuple ⟨[x.1.V 3, .agg ⟨[.int .i64 0, .int .i64 0]⟩]⟩ ∧ Ext m m' ∧ News m m' (x.1.H 30 x.2) := by
  have hlen : (w1 ++ 32 :: w2).length = w1.length + (w2.length + 1) := by rw [List.length_append, List.length_cons]
  have hsz : (⟨⟨w1 ++ 32 :: w2⟩⟩ : ByteArray).size = w1.length + (w2.length + 1) := hlen
  obtain ⟨nc2, nr2, ne2, -⟩ := h2.head
  have hw2p : 0 < w2.length := by rw [ne2]; exact Nat.succ_pos _
  refine Fc.bodyD (S := []) (c := _) Tryz.func4 rfl rfl rfl rfl (Knows.start hm) ?_
  refine Ce.seq ?_
  refine Ce.region ?_
  refine Ie.alloc rfl rfl rfl rfl zr22 (fun b2 hb2 => ?_)
  refine Ie.alloc rfl rfl rfl rfl zr25 (fun b3 hb3 => ?_)
  refine Ie.nil ?_
  refine Ne.seq ?_
  refine Ce.seq ?_
  refine Ce.seq ?_
  refine Ce.region ?_
  refine Ie.p rfl rfl rfl rfl ?_
  refine Ie.len rfl rfl rfl rfl rfl (ln9 ..) ?_
  refine Ie.p rfl rfl rfl rfl ?_
  refine Ie.as 8 (.bool false) rfl (congrArg Value.bool (by first | rfl | (rw [ltI_eq]; exact decide_eq_false (by simp only [Int.ofNat_eq_natCast]; omega)))) ?_
  refine Ie.nil ?_
  refine Ne.seq ?_
  refine Ce.cond_false rfl ?_
  refine Ce.skip ?_
  refine Ne.seq ?_
  refine Ce.dfr rfl rfl (by kernel_rfl) rfl rfl rfl rfl rfl rfl rfl rfl ?_
  refine Ce.seq ?_
  refine Ce.region ?_
  refine Ie.p rfl rfl rfl rfl ?_
  refine Ie.p (v := .agg ⟨[.string ⟨⟨w1 ++ 32 :: w2⟩⟩, .int .i64 (Int.ofNat 0)]⟩) rfl rfl rfl (by kernel_rfl) ?_
  refine Ie.p (v := .agg ⟨[.string ⟨⟨w1 ++ 32 :: w2⟩⟩, .int .i64 (Int.ofNat 0), .slice none 0 0]⟩) rfl rfl rfl (by kernel_rfl) ?_
  refine Ie.box rfl rfl rfl rfl rfl (fun b14 hb14 => ?_)
  refine Ie.p rfl rfl rfl rfl ?_
  refine Ie.nil ?_
  refine Ne.seq ?_
  refine Ce.seq ?_
  refine Ce.block ?_
 
  refine Ce.loop (α := Nat × List (Int × Int × Int) × Gro × List Value) (fun q => [(0, .string ⟨⟨w1 ++ 32 :: w2⟩⟩), (2, .pointer (some ⟨b2, 0, none⟩)), (3, .pointer (some ⟨b3, 0, none⟩)), (4, .pointer (some ⟨b14, 0, none⟩))]) (fun q => q.2.2.1.H 30 q.2.2.2 ++ [(b14, .cells [.string ⟨⟨w1 ++ 32 :: w2⟩⟩, .int .i64 (Int.ofNat (q.1)), q.2.2.1.V q.2.1.length] 36 false .plain none), (b3, .cells [.int .i64 0, .int .i64 0] 25 false .plain none), (b2, .cells [.slice none 0 0] 22 false .plain none)]) (fun q => TokSt w1 w2 n1 n2 q.1 q.2.1 ∧ Flat 4 RTok q.2.1 q.2.2.2 ∧ q.2.2.1.Ok q.2.1.length) (fun q => w1.length + (w2.length + 1) - q.1) (0, [], .no, []) ⟨.inl ⟨rfl, rfl⟩, Flat.nil, rfl⟩ ⟨rfl, rfl, rfl, rfl, trivial⟩ (List.Sublist.refl _) (fun q hq => ?_)
  obtain ⟨at_, L_, g_, cs_⟩ := q
  obtain ⟨hst, hF, hO⟩ := hq
  simp only at hst hF hO
  obtain ⟨hle, hL2⟩ := tok_le hst
  refine Ce.seq ?_
  refine Ce.seq ?_
  refine Ce.region ?_
  refine Ie.p rfl rfl rfl rfl ?_
  refine Ie.p rfl rfl rfl rfl ?_
  refine Ie.fieldAddr rfl rfl rfl rfl rfl fa36_0 ?_
  refine Ie.call _ rfl rfl rfl rfl rfl rfl (fun m hm => done_ok (T := w1 ++ 32 :: w2) hm.lole (⟨(hm.has b14 _ (List.mem_append_right _ (.head _))).2, (hm.has b14 _ (List.mem_append_right _ (.head _))).1⟩ : Mem m b14 _)) ?_
  refine Ie.p rfl rfl rfl rfl ?_
  refine Ie.nil ?_
  refine Ne.seq ?_
  refine Ce.cond rfl (fun ht19 => ?_) (fun ht19 => ?_)
  · have hat : at_ < (w1 ++ 32 :: w2).length := by rw [Bool.not_eq_true', decide_eq_false_iff_not] at ht19; omega
    obtain ⟨x, hx⟩ := at_len hat
    have hcase := tok_step h1 h2 hl1 hl2 hst hx
    refine Ce.skip ?_
    refine Ne.seq ?_
    refine Ce.block ?_
    refine Ce.seq ?_
    refine Ce.region ?_
    refine Ie.p rfl rfl rfl rfl ?_
    refine Ie.p rfl rfl rfl rfl ?_
    refine Ie.p rfl rfl rfl rfl ?_
    refine Ie.fieldAddr rfl rfl rfl rfl rfl fa36_0 ?_
    refine Ie.fieldAddr rfl rfl rfl rfl rfl fa34_1 ?_
    refine Ie.load rfl rfl rfl rfl rfl ag3 (by first | exact .head | exact .tail .head | exact .tail (.tail .head) | exact .tail (.tail (.tail .head)) | exact .tail (.tail (.tail (.tail .head))) | exact .app .head | exact .app (.tail .head) | exact .app (.tail (.tail .head)) | exact .app (.tail (.tail (.tail .head))) | exact .base ‹_› ‹_› (by simp)) rfl ?_
    refine Ie.indexStr rfl rfl rfl rfl Tryz.underlying9 rfl rfl (hx) ?_
    refine Ie.p rfl rfl rfl rfl ?_
    refine Ie.nil ?_
    refine Ne.seq ?_
    refine Ce.seq ?_
    refine Ce.region ?_
    refine Ie.p rfl rfl rfl rfl ?_
    refine Ie.nil ?_
    refine Ne.seq ?_
    refine Ce.block ?_
    refine Ce.seq ?_
    refine Ce.seq ?_
    refine Ce.region ?_
    refine Ie.p rfl rfl rfl rfl ?_
    refine Ie.p rfl rfl rfl rfl ?_
    refine Ie.nil ?_
    refine Ne.seq ?_
    refine Ce.cond rfl (fun ht41 => ?_) (fun ht41 => ?_)
    · refine Ce.as 41 (.bool true) rfl (congrArg Value.bool ht41) ?_
      (try simp only [decide_eq_true_eq, decide_eq_false_iff_not, nrm_lt, nrm_nlt, nrm_eq, nrm_neq, nrm_seq, nrm_sneq, nrm_sempty, nrm_snempty, nrm_ofNat, Bool.not_eq_true', Bool.not_eq_false'] at ht41)
      have hst2 : TokSt w1 w2 n1 n2 (at_ + 1) L_ := by rcases hcase with ⟨_, h_⟩ | ⟨h_, _⟩; (exact h_); exact absurd (UInt8.toNat_inj.1 (show x.toNat = (32 : UInt8).toNat by rw [show (32 : UInt8).toNat = 32 from rfl]; omega)) (dig_32 h_)
      refine Ce.skip ?_
      refine Ne.seq ?_
      refine Ce.cond_true rfl ?_
      refine Ce.region ?_
      refine Ie.p rfl rfl rfl rfl ?_
      refine Ie.p rfl rfl rfl rfl ?_
      refine Ie.fieldAddr rfl rfl rfl rfl rfl fa36_0 ?_
      refine Ie.fieldAddr rfl rfl rfl rfl rfl fa34_1 ?_
      refine Ie.load rfl rfl rfl rfl rfl ag3 (by first | exact .head | exact .tail .head | exact .tail (.tail .head) | exact .tail (.tail (.tail .head)) | exact .tail (.tail (.tail (.tail .head))) | exact .app .head | exact .app (.tail .head) | exact .app (.tail (.tail .head)) | exact .app (.tail (.tail (.tail .head))) | exact .base ‹_› ‹_› (by simp)) rfl ?_
      refine Ie.p rfl rfl rfl rfl ?_
      refine Ie.as 51 (.int .i64 (Int.ofNat (at_ + 1))) rfl (congrArg (Value.int .i64) (wr_succ (by omega))) ?_
      refine Ie.p rfl rfl rfl rfl ?_
      refine Ie.fieldAddr rfl rfl rfl rfl rfl fa36_0 ?_
      refine Ie.fieldAddr rfl rfl rfl rfl rfl fa34_1 ?_
      refine Ie.store rfl rfl rfl rfl rfl sz3 rfl (Upd.app .head) rfl ?_
      refine Ie.nil ?_
      refine Ne.blk ?_
      refine Ne.blk ?_
      exact Ne.loop (at_ + 1, L_, g_, cs_) ⟨hst2, hF, hO⟩ (by show w1.length + (w2.length + 1) - (at_ + 1) < w1.length + (w2.length + 1) - at_; omega) ⟨rfl, rfl, rfl, rfl, trivial⟩ (List.Sublist.refl _)
    · refine Ce.as 41 (.bool false) rfl (congrArg Value.bool ht41) ?_
      (try simp only [decide_eq_true_eq, decide_eq_false_iff_not, nrm_lt, nrm_nlt, nrm_eq, nrm_neq, nrm_seq, nrm_sneq, nrm_sempty, nrm_snempty, nrm_ofNat, Bool.not_eq_true', Bool.not_eq_false'] at ht41)
      obtain ⟨hdx, w, rest, n, hT, hrs, hn, hw_, hw0, hst2⟩ := hcase.resolve_left (fun h_ => ht41 (by rw [h_.1]; rfl))
      have hdx2 := digB_iff.1 hdx
      refine Ce.seq ?_
      refine Ce.region ?_
      refine Ie.p rfl rfl rfl rfl ?_
      refine Ie.as 43 (.bool false) rfl (congrArg Value.bool (by rw [eqI_eq]; exact decide_eq_false (fun h => by simp only [Int.ofNat_eq_natCast] at h; omega))) ?_
      refine Ie.p rfl rfl rfl rfl ?_
      refine Ie.nil ?_
      refine Ne.seq ?_
      refine Ce.cond_false rfl ?_
      refine Ce.seq ?_
      refine Ce.region ?_
      refine Ie.p rfl rfl rfl rfl ?_
      refine Ie.as 44 (.bool false) rfl (congrArg Value.bool (by rw [eqI_eq]; exact decide_eq_false (fun h => by simp only [Int.ofNat_eq_natCast] at h; omega))) ?_
      refine Ie.p rfl rfl rfl rfl ?_
      refine Ie.nil ?_
      refine Ne.seq ?_
      refine Ce.cond_false rfl ?_
      refine Ce.region ?_
      refine Ie.p rfl rfl rfl rfl ?_
      refine Ie.as 45 (.bool false) rfl (congrArg Value.bool (by rw [eqI_eq]; exact decide_eq_false (fun h => by simp only [Int.ofNat_eq_natCast] at h; omega))) ?_
      refine Ie.p rfl rfl rfl rfl ?_
      refine Ie.nil ?_
      refine Ne.seq ?_
      refine Ce.cond_false rfl ?_
      refine Ce.seq ?_
      refine Ce.region ?_
      refine Ie.p rfl rfl rfl rfl ?_
      refine Ie.as 56 (.bool false) rfl (congrArg Value.bool (by rw [eqI_eq]; exact decide_eq_false (fun h => by simp only [Int.ofNat_eq_natCast] at h; omega))) ?_
      refine Ie.p rfl rfl rfl rfl ?_
      refine Ie.nil ?_
      refine Ne.seq ?_
      refine Ce.cond_false rfl ?_
      refine Ce.draw [⟨0, .p, false, true, 0⟩, ⟨1, .p, false, true, 0⟩, ⟨2, .p, false, true, 2⟩, ⟨3, .p, false, true, 6⟩, ⟨4, .l, false, true, 14⟩, ⟨5, .p, true, true, 0⟩, ⟨6, .p, true, true, 0⟩, ⟨7, .h, true, true, 96⟩, ⟨8, .h, true, true, 224⟩, ⟨9, .a, true, true, 480⟩, ⟨10, .h, true, true, 1022⟩, ⟨11, .p, true, true, 2047⟩, ⟨12, .p, true, true, 4095⟩, ⟨13, .h, true, true, 8191⟩] (by kernel_rfl) (by kernel_rfl) (fun base hbase hB => ?_)
      refine DeV.start ?_
      refine DeV.p rfl rfl rfl rfl rfl ?_
      refine DeV.p rfl rfl rfl rfl rfl ?_
      refine DeV.p rfl rfl rfl rfl rfl ?_
      refine DeV.fieldAddr rfl rfl rfl rfl rfl rfl fa36_1 ?_
      refine DeV.load rfl rfl rfl rfl rfl rfl ag22 (.app .head) rfl (by first | exact hB _ _ (.head _) | exact hB _ _ (.tail _ (.head _)) | exact hB _ _ (.tail _ (.tail _ (.head _))) | exact hB _ _ (.tail _ (.tail _ (.tail _ (.head _)))) | exact hB _ _ (List.mem_append_right _ (.head _)) | exact hB _ _ (List.mem_append_right _ (.tail _ (.head _))) | exact Nat.lt_of_lt_of_le ‹_› hbase) ?_
      refine DeV.p rfl rfl rfl rfl rfl ?_
      refine DeV.p rfl rfl rfl rfl rfl ?_
      refine DeV.calln (fun _ => True) (fun _ : Unit => .func (.func 16) ⟨[.pointer (some ⟨b14, 0, none⟩)]⟩ ⟨[]⟩) (fun _ => []) rfl rfl rfl rfl rfl rfl rfl rfl rfl (fun m hm => (reader_ok hm.lole hdx).mono fun _ _ ⟨e1_, e2_⟩ => ⟨(), trivial, e1_, e2_, News.nil _ _⟩) (fun _ _ => ?_)
      refine DeV.callc (fun _ => True) (fun _ : Unit => .agg ⟨[.int .i64 4, .string ⟨⟨[]⟩⟩, .int .i64 (Int.ofNat (n)), .int .i64 (Int.ofNat (at_))]⟩) (fun _ => [(b14, .cells [.string ⟨⟨w1 ++ 32 :: w2⟩⟩, .int .i64 (Int.ofNat (at_ + w.length)), g_.V L_.length] 36 false .plain none)]) (show Pick (g_.H 30 cs_ ++ (b14, _) :: [_, _]) [(b14, _)] (g_.H 30 cs_ ++ [_, _]) from .over .one) rfl rfl rfl (fun _ _ p_ hp_ => by rw [List.mem_singleton.1 hp_]; exact ⟨_, .head _, rfl, Gro.same _ _⟩) rfl rfl rfl rfl rfl rfl (fun m hm hk hoff _ => (num_ok hm hk hT hrs (by omega) (by omega) (by omega) hn (hlay.off (by simp) hoff).1 (hlay.off (by simp) hoff).2).mono fun _ _ ⟨e1_, e2_⟩ => ⟨(), trivial, e1_, e2_⟩) (fun _ _ => ?_)
      refine DeW.of ?_
      refine De.buildSlice rfl rfl rfl rfl rfl rfl (bs22_1 ..) (fun b37 hn37 hb37 => ?_)
      refine De.appendSl (R := RTok) (l0 := L_) (l := [(4, Int.ofNat n, Int.ofNat at_)]) (L := (L_ ++ [(4, Int.ofNat n, Int.ofNat at_)])) (g := g_) (cs := cs_) rfl (.tail (.tail (show Pick (g_.H 30 cs_ ++ [_, _]) _ _ from .here))) hF hO (Sl.single (R := RTok) (x := (4, Int.ofNat n, Int.ofNat at_)) (b := b37) (c := 1) (el := 30) (g := false) (md := .plain) (mate := none) rfl rfl) (InH.sees (by intro p_ hp_; rw [List.mem_singleton.1 hp_]; exact List.mem_cons_self)) RTok.flats (by simp; omega) rfl rfl (by kernel_rfl) (by kernel_rfl) rfl rfl rfl rfl Tryz.underlying22 Tryz.underlying22 ap30 rfl rfl (fun g1 cs1 hF1 hO1 => ?_)
      obtain ⟨a1, c1, hw1⟩ := Gro.len hO1
      refine De.as 38 (.slice a1 (L_ ++ [(4, Int.ofNat n, Int.ofNat at_)]).length c1) rfl hw1 ?_
      refine De.p rfl rfl rfl rfl rfl ?_
      refine De.fieldAddr rfl rfl rfl rfl rfl rfl fa36_1 ?_
      refine De.store rfl rfl (by kernel_rfl) (by kernel_rfl) rfl rfl rfl rfl rfl sz22 rfl (Upd.app (.tail .head)) rfl ?_
      refine De.nil ?_
      refine Ne.blk ?_
      refine Ne.blk ?_
      refine Ne.swap (h' := g1.H 30 cs1 ++ (b37, .cells [.int .i64 4, .string ⟨⟨[]⟩⟩, .int .i64 (Int.ofNat n), .int .i64 (Int.ofNat at_)] 30 false .plain none) :: [(b14, .cells [.string ⟨⟨w1 ++ 32 :: w2⟩⟩, .int .i64 (Int.ofNat (at_ + w.length)), g1.V (L_ ++ [(4, Int.ofNat n, Int.ofNat at_)]).length] 36 false .plain none), (b3, .cells [.int .i64 0, .int .i64 0] 25 false .plain none), (b2, .cells [.slice none 0 0] 22 false .plain none)]) (by rw [hw1]; exact .refl _) ?_
      exact Ne.loop (at_ + w.length, L_ ++ [(4, Int.ofNat n, Int.ofNat at_)], g1, cs1) ⟨hst2, hF1, hO1⟩ (by show w1.length + (w2.length + 1) - (at_ + w.length) < w1.length + (w2.length + 1) - at_; omega) ⟨rfl, rfl, rfl, rfl, trivial⟩ (List.Sublist.append_left (.cons _ (List.Sublist.refl _)) _)
  · have hat : (w1 ++ 32 :: w2).length ≤ at_ := by rw [Bool.not_eq_false', decide_eq_true_eq] at ht19; exact ht19
    have hLe := tok_done h2 hst (by omega)
    subst hLe
    refine Ce.exit ?_
    refine Xe.seq ?_
    refine Xe.loop ?_
    refine Xe.here ?_
    refine Ne.seq ?_
    refine Ce.seq ?_
    refine Ce.region ?_
    refine Ie.p rfl rfl rfl rfl ?_
    refine Ie.p rfl rfl rfl rfl ?_
    refine Ie.fieldAddr rfl rfl rfl rfl rfl fa36_1 ?_
    refine Ie.load rfl rfl rfl rfl rfl ag22 (by first | exact .head | exact .tail .head | exact .tail (.tail .head) | exact .tail (.tail (.tail .head)) | exact .tail (.tail (.tail (.tail .head))) | exact .app .head | exact .app (.tail .head) | exact .app (.tail (.tail .head)) | exact .app (.tail (.tail (.tail .head))) | exact .base ‹_› ‹_› (by simp)) rfl ?_
    refine Ie.p rfl rfl rfl rfl ?_
    refine Ie.len rfl rfl rfl rfl rfl (ln9 ..) ?_
    refine Ie.as 64 (.int .i64 (Int.ofNat (w1.length + (w2.length + 1)))) rfl (congrArg (Value.int .i64) (congrArg Int.ofNat hsz)) ?_
    refine Ie.p (v := .agg ⟨[.int .i64 0, .string ⟨⟨[]⟩⟩, .int .i64 0, .int .i64 (Int.ofNat (w1.length + (w2.length + 1)))]⟩) rfl rfl rfl (by kernel_rfl) ?_
    refine Ie.buildSlice rfl rfl rfl rfl rfl (bs22_1 ..) (fun b66 hb66 => ?_)
    refine Ie.appendSl (R := RTok) (l0 := [(4, Int.ofNat n1, Int.ofNat 0), (4, Int.ofNat n2, Int.ofNat (w1.length + 1))]) (l := [(0, 0, Int.ofNat (w1.length + (w2.length + 1)))]) (L := [(4, Int.ofNat n1, Int.ofNat 0), (4, Int.ofNat n2, Int.ofNat (w1.length + 1)), (0, 0, Int.ofNat (w1.length + (w2.length + 1)))]) (g := g_) (cs := cs_) rfl (.tail .here) hF hO (Sl.single (R := RTok) (x := (0, 0, Int.ofNat (w1.length + (w2.length + 1)))) (b := b66) (c := 1) (el := 30) (g := false) (md := .plain) (mate := none) rfl rfl) (InH.sees (by intro p_ hp_; rw [List.mem_singleton.1 hp_]; exact List.mem_cons_self)) RTok.flats (by simp) rfl rfl rfl rfl Tryz.underlying22 Tryz.underlying22 ap30 rfl rfl (fun g1 cs1 hF1 hO1 => ?_)
    obtain ⟨a1, c1, hw1⟩ : ∃ a1 c1, g1.V 3 = .slice a1 3 c1 := Gro.len hO1
    refine Ie.as 67 (.slice a1 3 c1) rfl hw1 ?_
    refine Ie.p (v := .agg ⟨[.int .i64 0, .int .i64 0]⟩) rfl rfl rfl (by kernel_rfl) ?_
    refine Ie.store rfl rfl rfl rfl rfl sz22 rfl (Upd.app (.tail (.tail (.tail .head)))) rfl ?_
    refine Ie.store rfl rfl rfl rfl rfl sz25 rfl (Upd.app (.tail (.tail .head))) rfl ?_
    refine Ie.nil ?_
    refine Ne.seq ?_
    refine Ce.ret ?_
    refine Re.endN rfl (.cell rfl ag22 (by first | exact .head | exact .tail .head | exact .tail (.tail .head) | exact .tail (.tail (.tail .head)) | exact .tail (.tail (.tail (.tail .head))) | exact .app .head | exact .app (.tail .head) | exact .app (.tail (.tail .head)) | exact .app (.tail (.tail (.tail .head))) | exact .base ‹_› ‹_› (by simp)) rfl (.agg rfl ag25 sz25 (by first | exact .head | exact .tail .head | exact .tail (.tail .head) | exact .tail (.tail (.tail .head)) | exact .tail (.tail (.tail (.tail .head))) | exact .app .head | exact .app (.tail .head) | exact .app (.tail (.tail .head)) | exact .app (.tail (.tail (.tail .head))) | exact .base ‹_› ‹_› (by simp)) (Nat.le_of_ble_eq_true rfl) rfl .nil)) (fun m hm => by obtain ⟨k_, m2_, v_, e1_, e2_⟩ := Fc.deferred (first := []) (cap := [.pointer (some ⟨b2, 0, none⟩), .pointer (some ⟨b3, 0, none⟩)]) Tryz.func6 rfl rfl (tok1_ok (c1 := b2) (c2 := b3) (Knows.lole' hm)); exact ⟨k_, m2_, e1_, hm.of_ext e2_⟩) ?_
    exact fun m hm => ⟨(g1, cs1), ⟨hF1, hO1⟩, congrArg (fun z => Value.tuple ⟨[z, _]⟩) hw1.symm, hm.ext, hm.news (List.sublist_append_left _ _)⟩

theorem tok3_ok {w1 w2 : List UInt8} {n1 n2 : Nat} {m : AW} (hm : m.lo ≤ m.next) (h1 : NumW w1 n1) (h2 : NumW w2 n2) (hl1 : w1.length ≤ 100) (hl2 : w2.length ≤ 100) (hlay : LaidAt lays m) : Fc Tryz.prog 4 [.string ⟨⟨w1 ++ 32 :: w2⟩⟩] m fun v m' => ∃ x : Nat × Option Nat × Hp, True ∧ v = .tuple ⟨[.slice (some ⟨x.1, 0, none⟩) 3 top, .agg ⟨[.int .i64 0, .int .i64 0]⟩]⟩ ∧ Ext m m' ∧ News m m' ((x.1, .cells [.int .i64 4, .string ⟨⟨[]⟩⟩, .int .i64 (Int.ofNat n1), .int .i64 0, .int .i64 4, .string ⟨⟨[]⟩⟩, .int .i64 (Int.ofNat n2), .int .i64 (Int.ofNat (w1.length + 1)), .int .i64 0, .string ⟨⟨[]⟩⟩, .int .i64 0, .int .i64 (Int.ofNat (w1.length + (w2.length + 1)))] 30 true .plain x.2.1) :: x.2.2) :=
  (tok_ok hm h1 h2 hl1 hl2 hlay).mono fun _ _ ⟨x, ⟨hF, hO⟩, e1, e2, e3⟩ => by
    obtain ⟨b, mate, r, hV, hH⟩ := Gro.first (el := 30) (cs := x.2) hO (by decide)
    have hc : x.2 = [.int .i64 4, .string ⟨⟨[]⟩⟩, .int .i64 (Int.ofNat n1), .int .i64 0, .int .i64 4, .string ⟨⟨[]⟩⟩, .int .i64 (Int.ofNat n2), .int .i64 (Int.ofNat (w1.length + 1)), .int .i64 0, .string ⟨⟨[]⟩⟩, .int .i64 0, .int .i64 (Int.ofNat (w1.length + (w2.length + 1)))] := by
      obtain ⟨x1, x2⟩ := x
      simp only at hF ⊢
      exact three_of hF.1 (hF.2 0 _ rfl) (hF.2 1 _ rfl) (hF.2 2 _ rfl)
    rw [hH, hc] at e3
    exact ⟨(b, mate, r), trivial, by rw [e1, hV], e2, e3⟩
theorem tok_fld (d : Nat) (n : Int) : eqA Tryz.prog (d + 1) 3 (.int .i64 n) (.int .i64 n) = some true := by
  unfold eqA
  simp only [Tryz.underlying3]
  show eqBase _ _ = _
  unfold eqBase
  simp [eqI_eq]
theorem tok_fld2 (d : Nat) (n : Int) : eqA Tryz.prog (d + 1) 2 (.int .i64 n) (.int .i64 n) = some true := by
  unfold eqA
  simp only [Tryz.underlying2]
  show eqBase _ _ = _
  unfold eqBase
  simp [eqI_eq]
theorem tok_str (d : Nat) : eqA Tryz.prog (d + 1) 9 (.string ⟨⟨[]⟩⟩) (.string ⟨⟨[]⟩⟩) = some true := by
  unfold eqA
  simp only [Tryz.underlying9]
  rfl
theorem tok_part (a b c : Int) : partA Tryz.prog 3 [.int .i64 a, .string ⟨⟨[]⟩⟩, .int .i64 b, .int .i64 c] 0 = some (.int .i64 a) ∧ partA Tryz.prog 9 [.int .i64 a, .string ⟨⟨[]⟩⟩, .int .i64 b, .int .i64 c] 1 = some (.string ⟨⟨[]⟩⟩) ∧ partA Tryz.prog 2 [.int .i64 a, .string ⟨⟨[]⟩⟩, .int .i64 b, .int .i64 c] 2 = some (.int .i64 b) ∧ partA Tryz.prog 3 [.int .i64 a, .string ⟨⟨[]⟩⟩, .int .i64 b, .int .i64 c] 3 = some (.int .i64 c) := ⟨by kernel_rfl, by kernel_rfl, by kernel_rfl, by kernel_rfl⟩
theorem tok_held : Tryz.prog.stoodInHeld 30 = false := by kernel_rfl
theorem tok_eqA (a b c : Int) : eqA Tryz.prog 10000 30 (.agg ⟨[.int .i64 a, .string ⟨⟨[]⟩⟩, .int .i64 b, .int .i64 c]⟩) (.agg ⟨[.int .i64 a, .string ⟨⟨[]⟩⟩, .int .i64 b, .int .i64 c]⟩) = some true := by
  obtain ⟨h0, h1, h2, h3⟩ := tok_part a b c
  rw [show (10000 : Nat) = 9998 + 1 + 1 from rfl]
  unfold eqA
  simp only [Tryz.underlying30, tok_held, cond_false]
  simp [eqFields, h0, h1, h2, h3, tok_fld, tok_fld2, tok_str]
theorem tok_eq (xo yo : Operand) (a b c : Int) : binS Tryz.prog .eql 30 xo yo (.agg ⟨[.int .i64 a, .string ⟨⟨[]⟩⟩, .int .i64 b, .int .i64 c]⟩) (.agg ⟨[.int .i64 a, .string ⟨⟨[]⟩⟩, .int .i64 b, .int .i64 c]⟩) = some (.bool true) := by
  have h : binA Tryz.prog .eql 30 xo yo (.agg ⟨[.int .i64 a, .string ⟨⟨[]⟩⟩, .int .i64 b, .int .i64 c]⟩) (.agg ⟨[.int .i64 a, .string ⟨⟨[]⟩⟩, .int .i64 b, .int .i64 c]⟩) = some (.bool true) := by
    unfold binA
    simp only
    unfold binEq
    have hg : (guardOk Tryz.prog 30 xo yo (.agg ⟨[.int .i64 a, .string ⟨⟨[]⟩⟩, .int .i64 b, .int .i64 c]⟩) (.agg ⟨[.int .i64 a, .string ⟨⟨[]⟩⟩, .int .i64 b, .int .i64 c]⟩) && (notSym (.agg ⟨[.int .i64 a, .string ⟨⟨[]⟩⟩, .int .i64 b, .int .i64 c]⟩) && notSym (.agg ⟨[.int .i64 a, .string ⟨⟨[]⟩⟩, .int .i64 b, .int .i64 c]⟩))) = true := by kernel_rfl
    rw [hg]
    simp only [cond_true, tok_eqA]
    rfl
  unfold binS
  rw [h]

theorem numbers_ok {n : Int} {bz zz : Nat} {m : AW} (hm : m.lo ≤ m.next) (hn : -9223372036854775808 ≤ n ∧ n ≤ 9223372036854775807) (hbz : bz < 256) (hzz : zz < 256) (hlay : LaidAt lays m) : Fc Tryz.prog 3 [.int .i64 n, .int .u8 (Int.ofNat bz), .int .u8 (Int.ofNat zz)] m fun v m' => v = .bool true ∧ Ext m m' := by
  obtain ⟨b, hbE⟩ : ∃ b, b = bz % 35 + 2 := ⟨_, rfl⟩
  obtain ⟨zk, hzE⟩ : ∃ zk, zk = zz % 21 := ⟨_, rfl⟩
  obtain ⟨N, hNE⟩ : ∃ N, N = absN n := ⟨_, rfl⟩
  have hb : 2 ≤ b := by omega
  have hb2 : b ≤ 36 := by omega
  have hzk : zk ≤ 20 := by omega
  have hN : N < 9223372036854775808 := by rw [hNE]; exact absN_lt hn.1 hn.2
  obtain ⟨-, hbl0, hbl, -⟩ := basL_ok b (by omega)
  refine Fc.body (c := _) Tryz.func3 rfl rfl rfl rfl hm ?_
  refine Ce.seq ?_
  refine Ce.region ?_
  refine Ie.p rfl rfl rfl rfl ?_
  refine Ie.nil ?_
  refine Ne.seq ?_
  refine Ce.seq ?_
  refine Ce.region ?_
  refine Ie.p rfl rfl rfl rfl ?_
  refine Ie.bin (v := .int .u8 (Int.ofNat (bz % 35))) rfl rfl rfl rfl rfl rfl (binS_rem (b := Int.ofNat (35)) (by decide)) ?_
  refine Ie.convInt rfl rfl rfl rfl Tryz.underlying5 Tryz.underlying2 rfl ?_
  refine Ie.as 21 (.int .i64 (Int.ofNat (bz % 35))) rfl (congrArg (Value.int .i64) (wri (by omega))) ?_
  refine Ie.p rfl rfl rfl rfl ?_
  refine Ie.as 22 (.int .i64 (Int.ofNat (b))) rfl (congrArg (Value.int .i64) (by rw [hbE]; exact addI (a := bz % 35) (b := 2) (by omega))) ?_
  refine Ie.p rfl rfl rfl rfl ?_
  refine Ie.bin (v := .int .u8 (Int.ofNat (zz % 21))) rfl rfl rfl rfl rfl rfl (binS_rem (b := Int.ofNat (21)) (by decide)) ?_
  refine Ie.convInt rfl rfl rfl rfl Tryz.underlying5 Tryz.underlying3 rfl ?_
  refine Ie.as 25 (.int .i64 (Int.ofNat (zk))) rfl (congrArg (Value.int .i64) (by rw [hzE]; exact wri (by omega))) ?_
  refine Ie.p rfl rfl rfl rfl ?_
  refine Ie.p rfl rfl rfl rfl ?_
  refine Ie.nil ?_
  refine Ne.seq ?_
  refine Ce.joinA (True) [(0, .int .i64 (Int.ofNat (N)))] ?_ (fun _ => ?_)
  · refine Ce.seq ?_
    refine Ce.region ?_
    refine Ie.p rfl rfl rfl rfl ?_
    refine Ie.p rfl rfl rfl rfl ?_
    refine Ie.nil ?_
    refine Ne.seq ?_
    refine Ce.cond rfl (fun ht27 => ?_) (fun ht27 => ?_)
    · (try simp only [decide_eq_true_eq, decide_eq_false_iff_not, nrm_lt, nrm_nlt, nrm_eq, nrm_neq, nrm_seq, nrm_sneq, nrm_sempty, nrm_snempty, nrm_ofNat, Bool.not_eq_true', Bool.not_eq_false'] at ht27)
      refine Ce.region ?_
      refine Ie.p rfl rfl rfl rfl ?_
      refine Ie.p rfl rfl rfl rfl ?_
      refine Ie.p rfl rfl rfl rfl ?_
      refine Ie.p rfl rfl rfl rfl ?_
      refine Ie.nil ?_
      refine Ne.as 0 (.int .i64 (Int.ofNat (N))) rfl (congrArg (Value.int .i64) (by rw [hNE]; first | (exact abs_pos (n := n) (by omega)) | (exact abs_neg (n := n) (by omega) hn.1))) ?_
      exact Ne.jnx (trivial) (by repeat (first | exact trivial | refine ⟨rfl, ?_⟩)) (List.Sublist.refl _)
    · (try simp only [decide_eq_true_eq, decide_eq_false_iff_not, nrm_lt, nrm_nlt, nrm_eq, nrm_neq, nrm_seq, nrm_sneq, nrm_sempty, nrm_snempty, nrm_ofNat, Bool.not_eq_true', Bool.not_eq_false'] at ht27)
      refine Ce.skip ?_
      refine Ne.as 0 (.int .i64 (Int.ofNat (N))) rfl (congrArg (Value.int .i64) (by rw [hNE]; first | (exact abs_pos (n := n) (by omega)) | (exact abs_neg (n := n) (by omega) hn.1))) ?_
      exact Ne.jnx (trivial) (by repeat (first | exact trivial | refine ⟨rfl, ?_⟩)) (List.Sublist.refl _)
  · refine Ce.seq ?_
    refine Ce.region ?_
    refine Ie.p rfl rfl rfl rfl ?_
    refine Ie.p rfl rfl rfl rfl ?_
    refine Ie.nil ?_
    refine Ne.seq ?_
    refine Ce.seq ?_
    refine Ce.seq ?_
    refine Ce.region ?_
    refine Ie.p rfl rfl rfl rfl ?_
    refine Ie.p rfl rfl rfl rfl ?_
    refine Ie.nil ?_
    refine Ne.seq ?_
    refine Ce.block ?_
   
    refine Ce.loop (α := Nat × List UInt8) (fun q => [(0, .int .i64 (Int.ofNat (N))), (7, .int .i64 (Int.ofNat (b))), (8, .int .i64 (Int.ofNat (zk))), (9, .string ⟨⟨q.2⟩⟩), (10, .string ⟨⟨[]⟩⟩), (11, .int .i64 (Int.ofNat (q.1)))]) (fun _ => []) (fun q => DI b q.1 q.2 N) (fun q => q.1) (N, []) DI.start ⟨rfl, rfl, rfl, rfl, rfl, rfl, trivial⟩ (List.Sublist.refl _) (fun q hi => ?_)
    obtain ⟨v, s⟩ := q
    simp only at hi
    have hvN := hi.le
    have hsl := hi.len hN
    have hmv := Nat.mod_lt v (show 0 < b by omega)
    refine Ce.seq ?_
    refine Ce.block ?_
    refine Ce.seq ?_
    refine Ce.region ?_
    refine Ie.p rfl rfl rfl rfl ?_
    refine Ie.p rfl rfl rfl rfl ?_
    refine Ie.bin (v := .int .i64 (Int.ofNat (v % b))) rfl rfl rfl rfl rfl rfl (binS_rem (b := Int.ofNat (b)) (by simp only [Int.ofNat_eq_natCast]; omega)) ?_
    refine Ie.p rfl rfl rfl rfl ?_
    refine Ie.nil ?_
    refine Ne.seq ?_
    refine Ce.joinA (True) [(9, .string ⟨⟨chrD (v % b) :: s⟩⟩)] ?_ (fun _ => ?_)
    · refine Ce.seq ?_
      refine Ce.region ?_
      refine Ie.p rfl rfl rfl rfl ?_
      refine Ie.p rfl rfl rfl rfl ?_
      refine Ie.nil ?_
      refine Ne.seq ?_
      refine Ce.cond rfl (fun ht39 => ?_) (fun ht39 => ?_)
      · (try simp only [decide_eq_true_eq, decide_eq_false_iff_not, nrm_lt, nrm_nlt, nrm_eq, nrm_neq, nrm_seq, nrm_sneq, nrm_sempty, nrm_snempty, nrm_ofNat, Bool.not_eq_true', Bool.not_eq_false'] at ht39)
        refine Ce.region ?_
        refine Ie.p rfl rfl rfl rfl ?_
        refine Ie.p rfl rfl rfl rfl ?_
        refine Ie.as 41 (.int .i64 (Int.ofNat (48 + v % b))) rfl (congrArg (Value.int .i64) (addI (a := 48) (by omega))) ?_
        refine Ie.convInt rfl rfl rfl rfl Tryz.underlying2 Tryz.underlying21 rfl ?_
        refine Ie.as 42 (.int .i32 (Int.ofNat (48 + v % b))) rfl (congrArg (Value.int .i32) (wr32 (by omega))) ?_
        refine Ie.conv rfl rfl rfl rfl rfl (by kernel_rfl) (conv_chr Tryz.underlying21 Tryz.underlying9 (by omega)) ?_
        refine Ie.p rfl rfl rfl rfl ?_
        refine Ie.bin (v := .string ⟨⟨[UInt8.ofNat (48 + v % b)] ++ s⟩⟩) rfl rfl rfl rfl rfl rfl (binS_catL (by simp only [List.length_append, List.length_cons, List.length_nil, List.length_replicate]; omega)) ?_
        refine Ie.p rfl rfl rfl rfl ?_
        refine Ie.nil ?_
        refine Ne.as 9 (.string ⟨⟨chrD (v % b) :: s⟩⟩) rfl (congrArg (fun z : List UInt8 => Value.string ⟨⟨z⟩⟩) (by first | exact congrArg (· ++ s) (chr_lo (by omega)) | exact congrArg (· ++ s) (chr_hi (by omega)))) ?_
        exact Ne.jnx (trivial) (by repeat (first | exact trivial | refine ⟨rfl, ?_⟩)) (List.Sublist.refl _)
      · (try simp only [decide_eq_true_eq, decide_eq_false_iff_not, nrm_lt, nrm_nlt, nrm_eq, nrm_neq, nrm_seq, nrm_sneq, nrm_sempty, nrm_snempty, nrm_ofNat, Bool.not_eq_true', Bool.not_eq_false'] at ht39)
        refine Ce.region ?_
        refine Ie.p rfl rfl rfl rfl ?_
        refine Ie.p rfl rfl rfl rfl ?_
        refine Ie.as 47 (.int .i64 (Int.ofNat (65 + v % b))) rfl (congrArg (Value.int .i64) (addI (a := 65) (by omega))) ?_
        refine Ie.p rfl rfl rfl rfl ?_
        refine Ie.as 48 (.int .i64 (Int.ofNat (65 + v % b - 10))) rfl (congrArg (Value.int .i64) (subI (b := 10) (by omega) (by omega))) ?_
        refine Ie.convInt rfl rfl rfl rfl Tryz.underlying2 Tryz.underlying21 rfl ?_
        refine Ie.as 49 (.int .i32 (Int.ofNat (65 + v % b - 10))) rfl (congrArg (Value.int .i32) (wr32 (by omega))) ?_
        refine Ie.conv rfl rfl rfl rfl rfl (by kernel_rfl) (conv_chr Tryz.underlying21 Tryz.underlying9 (by omega)) ?_
        refine Ie.p rfl rfl rfl rfl ?_
        refine Ie.bin (v := .string ⟨⟨[UInt8.ofNat (65 + v % b - 10)] ++ s⟩⟩) rfl rfl rfl rfl rfl rfl (binS_catL (by simp only [List.length_append, List.length_cons, List.length_nil, List.length_replicate]; omega)) ?_
        refine Ie.p rfl rfl rfl rfl ?_
        refine Ie.nil ?_
        refine Ne.as 9 (.string ⟨⟨chrD (v % b) :: s⟩⟩) rfl (congrArg (fun z : List UInt8 => Value.string ⟨⟨z⟩⟩) (by first | exact congrArg (· ++ s) (chr_lo (by omega)) | exact congrArg (· ++ s) (chr_hi (by omega)))) ?_
        exact Ne.jnx (trivial) (by repeat (first | exact trivial | refine ⟨rfl, ?_⟩)) (List.Sublist.refl _)
    · refine Ce.seq ?_
      refine Ce.region ?_
      refine Ie.p rfl rfl rfl rfl ?_
      refine Ie.p rfl rfl rfl rfl ?_
      refine Ie.p rfl rfl rfl rfl ?_
      refine Ie.nil ?_
      refine Ne.seq ?_
      refine Ce.cond rfl (fun ht55 => ?_) (fun ht55 => ?_)
      · (try simp only [decide_eq_true_eq, decide_eq_false_iff_not, nrm_lt, nrm_nlt, nrm_eq, nrm_neq, nrm_seq, nrm_sneq, nrm_sempty, nrm_snempty, nrm_ofNat, Bool.not_eq_true', Bool.not_eq_false'] at ht55)
        have hf2 := hi.done hb hb2 (by omega) hN
        refine Ce.exit ?_
        refine Xe.blk rfl ?_
        refine Xe.seq ?_
        refine Xe.loop ?_
        refine Xe.here ?_
        refine Ne.seq ?_
        refine Ce.seq ?_
        refine Ce.seq ?_
        refine Ce.region ?_
        refine Ie.p rfl rfl rfl rfl ?_
        refine Ie.p rfl rfl rfl rfl ?_
        refine Ie.nil ?_
        refine Ne.seq ?_
        refine Ce.block ?_
       
        refine Ce.loop (α := Nat × List UInt8) (fun q => [(0, .int .i64 (Int.ofNat (N))), (7, .int .i64 (Int.ofNat (b))), (8, .int .i64 (Int.ofNat (zk))), (9, .string ⟨⟨chrD (v % b) :: s⟩⟩), (10, .string ⟨⟨q.2⟩⟩), (13, .int .i64 (Int.ofNat (q.1)))]) (fun _ => []) (fun q => DI 10 q.1 q.2 N) (fun q => q.1) (N, []) DI.start ⟨rfl, rfl, rfl, rfl, rfl, rfl, trivial⟩ (List.Sublist.refl _) (fun q hi1 => ?_)
        obtain ⟨v1, s1⟩ := q
        simp only at hi1
        have hvN1 := hi1.le
        have hsl1 := hi1.len hN
        have hmv1 := Nat.mod_lt v1 (show 0 < 10 by decide)
        refine Ce.seq ?_
        refine Ce.block ?_
        refine Ce.seq ?_
        refine Ce.region ?_
        refine Ie.p rfl rfl rfl rfl ?_
        refine Ie.bin (v := .int .i64 (Int.ofNat (v1 % 10))) rfl rfl rfl rfl rfl rfl (binS_rem (b := Int.ofNat (10)) (by decide)) ?_
        refine Ie.p rfl rfl rfl rfl ?_
        refine Ie.as 61 (.int .i64 (Int.ofNat (48 + v1 % 10))) rfl (congrArg (Value.int .i64) (addI (a := 48) (by omega))) ?_
        refine Ie.convInt rfl rfl rfl rfl Tryz.underlying2 Tryz.underlying21 rfl ?_
        refine Ie.as 62 (.int .i32 (Int.ofNat (48 + v1 % 10))) rfl (congrArg (Value.int .i32) (wr32 (by omega))) ?_
        refine Ie.conv rfl rfl rfl rfl rfl (by kernel_rfl) (conv_chr Tryz.underlying21 Tryz.underlying9 (by omega)) ?_
        refine Ie.p rfl rfl rfl rfl ?_
        refine Ie.bin (v := .string ⟨⟨[UInt8.ofNat (48 + v1 % 10)] ++ s1⟩⟩) rfl rfl rfl rfl rfl rfl (binS_catL (by simp only [List.length_append, List.length_cons, List.length_nil, List.length_replicate]; omega)) ?_
        refine Ie.as 65 (.string ⟨⟨chrD (v1 % 10) :: s1⟩⟩) rfl (congrArg (fun z : List UInt8 => Value.string ⟨⟨z⟩⟩) (congrArg (· ++ s1) (chr_lo (Nat.mod_lt v1 (by decide))))) ?_
        refine Ie.p rfl rfl rfl rfl ?_
        refine Ie.nil ?_
        refine Ne.seq ?_
        refine Ce.seq ?_
        refine Ce.region ?_
        refine Ie.p rfl rfl rfl rfl ?_
        refine Ie.p rfl rfl rfl rfl ?_
        refine Ie.nil ?_
        refine Ne.seq ?_
        refine Ce.cond rfl (fun ht67 => ?_) (fun ht67 => ?_)
        · (try simp only [decide_eq_true_eq, decide_eq_false_iff_not, nrm_lt, nrm_nlt, nrm_eq, nrm_neq, nrm_seq, nrm_sneq, nrm_sempty, nrm_snempty, nrm_ofNat, Bool.not_eq_true', Bool.not_eq_false'] at ht67)
          have hf1 := hi1.done (by decide) (by decide) (by omega) hN
          refine Ce.exit ?_
          refine Xe.blk rfl ?_
          refine Xe.seq ?_
          refine Xe.loop ?_
          refine Xe.here ?_
          refine Ne.seq ?_
          refine Ce.seq ?_
          refine Ce.region ?_
          refine Ie.p rfl rfl rfl rfl ?_
          refine Ie.nil ?_
          refine Ne.seq ?_
          refine Ce.seq ?_
          refine Ce.seq ?_
          refine Ce.region ?_
          refine Ie.p rfl rfl rfl rfl ?_
          refine Ie.nil ?_
          refine Ne.seq ?_
          refine Ce.block ?_
         
          refine Ce.loop (α := Nat) (fun i => [(0, .int .i64 (Int.ofNat (N))), (7, .int .i64 (Int.ofNat (b))), (8, .int .i64 (Int.ofNat (zk))), (9, .string ⟨⟨chrD (v % b) :: s⟩⟩), (10, .string ⟨⟨chrD (v1 % 10) :: s1⟩⟩), (14, .string ⟨⟨zerL i⟩⟩), (15, .int .i64 (Int.ofNat (i)))]) (fun _ => []) (fun i => i ≤ zk) (fun i => zk - i) 0 (Nat.zero_le _) ⟨rfl, rfl, rfl, rfl, rfl, rfl, rfl, trivial⟩ (List.Sublist.refl _) (fun i hiz => ?_)
          refine Ce.seq ?_
          refine Ce.seq ?_
          refine Ce.region ?_
          refine Ie.p rfl rfl rfl rfl ?_
          refine Ie.p rfl rfl rfl rfl ?_
          refine Ie.p rfl rfl rfl rfl ?_
          refine Ie.nil ?_
          refine Ne.seq ?_
          refine Ce.cond rfl (fun ht70 => ?_) (fun ht70 => ?_)
          · (try simp only [decide_eq_true_eq, decide_eq_false_iff_not, nrm_lt, nrm_nlt, nrm_eq, nrm_neq, nrm_seq, nrm_sneq, nrm_sempty, nrm_snempty, nrm_ofNat, Bool.not_eq_true', Bool.not_eq_false'] at ht70)
            refine Ce.skip ?_
            refine Ne.seq ?_
            refine Ce.seq ?_
            refine Ce.block ?_
            refine Ce.region ?_
            refine Ie.p rfl rfl rfl rfl ?_
            refine Ie.bin (v := .string ⟨⟨zerL i ++ [48]⟩⟩) rfl rfl rfl rfl rfl rfl (binS_catL (by simp only [List.length_append, List.length_cons, List.length_nil, List.length_replicate]; omega)) ?_
            refine Ie.as 74 (.string ⟨⟨zerL (i + 1)⟩⟩) rfl (congrArg (fun z : List UInt8 => Value.string ⟨⟨z⟩⟩) ((List.replicate_succ' ..).symm)) ?_
            refine Ie.p rfl rfl rfl rfl ?_
            refine Ie.nil ?_
            refine Ne.blk ?_
            refine Ne.seq ?_
            refine Ce.region ?_
            refine Ie.p rfl rfl rfl rfl ?_
            refine Ie.p rfl rfl rfl rfl ?_
            refine Ie.as 72 (.int .i64 (Int.ofNat (i + 1))) rfl (congrArg (Value.int .i64) (wr_succ (by omega))) ?_
            refine Ie.p rfl rfl rfl rfl ?_
            refine Ie.nil ?_
            exact Ne.loop (i + 1) (by omega) (by omega) ⟨rfl, rfl, rfl, rfl, rfl, rfl, rfl, trivial⟩ (List.Sublist.refl _)
          · (try simp only [decide_eq_true_eq, decide_eq_false_iff_not, nrm_lt, nrm_nlt, nrm_eq, nrm_neq, nrm_seq, nrm_sneq, nrm_sempty, nrm_snempty, nrm_ofNat, Bool.not_eq_true', Bool.not_eq_false'] at ht70)
            have hie : zk = i := by omega
            subst hie
            refine Ce.exit ?_
            refine Xe.seq ?_
            refine Xe.loop ?_
            refine Xe.here ?_
            refine Ne.seq ?_
            refine Ce.seq ?_
            refine Ce.region ?_
            refine Ie.p rfl rfl rfl rfl ?_
            refine Ie.bin (v := .int .i64 (Int.ofNat (b % 10))) rfl rfl rfl rfl rfl rfl (binS_rem (b := Int.ofNat (10)) (by decide)) ?_
            refine Ie.p rfl rfl rfl rfl ?_
            refine Ie.as 77 (.int .i64 (Int.ofNat (48 + b % 10))) rfl (congrArg (Value.int .i64) (addI (a := 48) (by omega))) ?_
            refine Ie.convInt rfl rfl rfl rfl Tryz.underlying2 Tryz.underlying21 rfl ?_
            refine Ie.as 78 (.int .i32 (Int.ofNat (48 + b % 10))) rfl (congrArg (Value.int .i32) (wr32 (by omega))) ?_
            refine Ie.conv rfl rfl rfl rfl rfl (by kernel_rfl) (conv_chr Tryz.underlying21 Tryz.underlying9 (by omega)) ?_
            refine Ie.bin (v := .string ⟨⟨[UInt8.ofNat (48 + b % 10)] ++ [114]⟩⟩) rfl rfl rfl rfl rfl rfl (binS_catL (by simp only [List.length_append, List.length_cons, List.length_nil, List.length_replicate]; omega)) ?_
            refine Ie.p rfl rfl rfl rfl ?_
            refine Ie.nil ?_
            refine Ne.seq ?_
            refine Ce.joinA (True) [(16, .string ⟨⟨basL b ++ [114]⟩⟩)] ?_ (fun _ => ?_)
            · refine Ce.seq ?_
              refine Ce.region ?_
              refine Ie.p rfl rfl rfl rfl ?_
              refine Ie.p rfl rfl rfl rfl ?_
              refine Ie.nil ?_
              refine Ne.seq ?_
              refine Ce.cond rfl (fun ht82 => ?_) (fun ht82 => ?_)
              · (try simp only [decide_eq_true_eq, decide_eq_false_iff_not, nrm_lt, nrm_nlt, nrm_eq, nrm_neq, nrm_seq, nrm_sneq, nrm_sempty, nrm_snempty, nrm_ofNat, Bool.not_eq_true', Bool.not_eq_false'] at ht82)
                refine Ce.region ?_
                refine Ie.p rfl rfl rfl rfl ?_
                refine Ie.bin rfl rfl rfl rfl rfl rfl (binS_quo (b := Int.ofNat (10)) (by decide)) ?_
                refine Ie.as 84 (.int .i64 (Int.ofNat (b / 10))) rfl (congrArg (Value.int .i64) (wri (Nat.lt_of_le_of_lt (Nat.div_le_self _ _) (by omega)))) ?_
                refine Ie.p rfl rfl rfl rfl ?_
                refine Ie.as 85 (.int .i64 (Int.ofNat (48 + b / 10))) rfl (congrArg (Value.int .i64) (addI (a := 48) (by omega))) ?_
                refine Ie.convInt rfl rfl rfl rfl Tryz.underlying2 Tryz.underlying21 rfl ?_
                refine Ie.as 86 (.int .i32 (Int.ofNat (48 + b / 10))) rfl (congrArg (Value.int .i32) (wr32 (by omega))) ?_
                refine Ie.conv rfl rfl rfl rfl rfl (by kernel_rfl) (conv_chr Tryz.underlying21 Tryz.underlying9 (by omega)) ?_
                refine Ie.p rfl rfl rfl rfl ?_
                refine Ie.bin (v := .string ⟨⟨[UInt8.ofNat (48 + b / 10)] ++ ([UInt8.ofNat (48 + b % 10)] ++ [114])⟩⟩) rfl rfl rfl rfl rfl rfl (binS_catL (by simp only [List.length_append, List.length_cons, List.length_nil, List.length_replicate]; omega)) ?_
                refine Ie.p rfl rfl rfl rfl ?_
                refine Ie.nil ?_
                refine Ne.as 16 (.string ⟨⟨basL b ++ [114]⟩⟩) rfl (congrArg (fun z : List UInt8 => Value.string ⟨⟨z⟩⟩) (by unfold basL; first | rw [if_pos (by omega)]; rfl | rw [if_neg (by omega)])) ?_
                exact Ne.jnx (trivial) (by repeat (first | exact trivial | refine ⟨rfl, ?_⟩)) (List.Sublist.refl _)
              · (try simp only [decide_eq_true_eq, decide_eq_false_iff_not, nrm_lt, nrm_nlt, nrm_eq, nrm_neq, nrm_seq, nrm_sneq, nrm_sempty, nrm_snempty, nrm_ofNat, Bool.not_eq_true', Bool.not_eq_false'] at ht82)
                refine Ce.skip ?_
                refine Ne.as 16 (.string ⟨⟨basL b ++ [114]⟩⟩) rfl (congrArg (fun z : List UInt8 => Value.string ⟨⟨z⟩⟩) (by unfold basL; first | rw [if_pos (by omega)]; rfl | rw [if_neg (by omega)])) ?_
                exact Ne.jnx (trivial) (by repeat (first | exact trivial | refine ⟨rfl, ?_⟩)) (List.Sublist.refl _)
            · refine Ce.seq ?_
              refine Ce.region ?_
              refine Ie.p rfl rfl rfl rfl ?_
              refine Ie.p rfl rfl rfl rfl ?_
              refine Ie.bin (v := .string ⟨⟨zerL zk ++ (chrD (v1 % 10) :: s1)⟩⟩) rfl rfl rfl rfl rfl rfl (binS_catL (by simp only [List.length_append, List.length_cons, List.length_nil, List.length_replicate]; omega)) ?_
              refine Ie.bin (v := .string ⟨⟨(zerL zk ++ (chrD (v1 % 10) :: s1)) ++ [32]⟩⟩) rfl rfl rfl rfl rfl rfl (binS_catL (by simp only [List.length_append, List.length_cons, List.length_nil, List.length_replicate]; omega)) ?_
              refine Ie.p rfl rfl rfl rfl ?_
              refine Ie.bin (v := .string ⟨⟨(zerL zk ++ (chrD (v1 % 10) :: s1) ++ [32]) ++ (basL b ++ [114])⟩⟩) rfl rfl rfl rfl rfl rfl (binS_catL (by simp only [List.length_append, List.length_cons, List.length_nil, List.length_replicate]; omega)) ?_
              refine Ie.p rfl rfl rfl rfl ?_
              refine Ie.bin (v := .string ⟨⟨(zerL zk ++ (chrD (v1 % 10) :: s1) ++ [32] ++ (basL b ++ [114])) ++ zerL zk⟩⟩) rfl rfl rfl rfl rfl rfl (binS_catL (by simp only [List.length_append, List.length_cons, List.length_nil, List.length_replicate]; omega)) ?_
              refine Ie.p rfl rfl rfl rfl ?_
              refine Ie.bin (v := .string ⟨⟨(zerL zk ++ (chrD (v1 % 10) :: s1) ++ [32] ++ (basL b ++ [114]) ++ zerL zk) ++ (chrD (v % b) :: s)⟩⟩) rfl rfl rfl rfl rfl rfl (binS_catL (by simp only [List.length_append, List.length_cons, List.length_nil, List.length_replicate]; omega)) ?_
              refine Ie.as 100 (.string ⟨⟨(zerL zk ++ (chrD (v1 % 10) :: s1)) ++ 32 :: (basL b ++ 114 :: (zerL zk ++ (chrD (v % b) :: s)))⟩⟩) rfl (congrArg (fun z : List UInt8 => Value.string ⟨⟨z⟩⟩) (by simp only [List.append_assoc, List.cons_append, List.nil_append])) ?_
              refine Ie.calln _ _ _ rfl rfl rfl rfl rfl rfl (fun m hm => tok3_ok hm.lole (numW_dec hf1 hN) (numW_bas hf2 hb hb2 hN) (by simp only [List.length_append, List.length_cons, List.length_nil, List.length_replicate]; omega) (by simp only [List.length_append, List.length_cons, List.length_nil, List.length_replicate]; omega) (hlay.kr hm)) (fun x _ => ?_)
              obtain ⟨bt, mate, rt⟩ := x
              refine Ie.p rfl rfl rfl rfl ?_
              refine Ie.p rfl rfl rfl rfl ?_
              refine Ie.p rfl rfl rfl rfl ?_
              refine Ie.alloc rfl rfl rfl rfl zr25 (fun b18 hb18 => ?_)
              refine Ie.p rfl rfl rfl rfl ?_
              refine Ie.store rfl rfl rfl rfl rfl sz25 rfl (by first | exact .head | exact .tail .head | exact .tail (.tail .head) | exact .tail (.tail (.tail .head)) | exact updo) rfl ?_
              refine Ie.nil ?_
              refine Ne.seq ?_
              refine Ce.seq ?_
              refine Ce.region ?_
              refine Ie.call _ rfl rfl rfl rfl rfl rfl (fun m hm => awake_ok (hlay.kr hm)) ?_
              refine Ie.p rfl rfl rfl rfl ?_
              refine Ie.loadAgg rfl rfl rfl rfl rfl ag25 sz25 (by first | exact .head | exact .tail .head | exact .tail (.tail .head) | exact .tail (.tail (.tail .head)) | exact .tail (.tail (.tail (.tail .head))) | exact .app .head | exact .app (.tail .head) | exact .app (.tail (.tail .head)) | exact .app (.tail (.tail (.tail .head))) | exact .base ‹_› ‹_› (by simp)) (Nat.le_of_ble_eq_true rfl) rfl ?_
              refine Ie.p (v := .agg ⟨[.int .i64 0, .int .i64 0]⟩) rfl rfl rfl (by kernel_rfl) ?_
              refine Ie.bin (v := .bool true) rfl rfl rfl rfl rfl rfl (by kernel_rfl) ?_
              refine Ie.p rfl rfl rfl rfl ?_
              refine Ie.p rfl rfl rfl rfl ?_
              refine Ie.p rfl rfl rfl rfl ?_
              refine Ie.len rfl rfl rfl rfl rfl (ln22 ..) ?_
              refine Ie.p rfl rfl rfl rfl ?_
              refine Ie.as 113 (.bool true) rfl (congrArg Value.bool (rfl)) ?_
              refine Ie.p rfl rfl rfl rfl ?_
              refine Ie.p rfl rfl rfl rfl ?_
              refine Ie.p rfl rfl rfl rfl ?_
              refine Ie.indexAddr rfl rfl rfl rfl Tryz.underlying22 sz30 rfl rfl (by decide) ?_
              refine Ie.loadAgg rfl rfl rfl rfl rfl ag30 sz30 (by first | exact .head | exact .tail .head | exact .tail (.tail .head) | exact .tail (.tail (.tail .head)) | exact .tail (.tail (.tail (.tail .head))) | exact .app .head | exact .app (.tail .head) | exact .app (.tail (.tail .head)) | exact .app (.tail (.tail (.tail .head))) | exact .base ‹_› ‹_› (by simp)) (Nat.le_of_ble_eq_true rfl) rfl ?_
              refine Ie.p rfl rfl rfl rfl ?_
              refine Ie.p (v := .agg ⟨[.int .i64 4, .string ⟨⟨[]⟩⟩, .int .i64 (Int.ofNat N), .int .i64 0]⟩) rfl rfl rfl (by kernel_rfl) ?_
              refine Ie.bin (v := .bool true) rfl rfl rfl rfl rfl rfl (tok_eq ..) ?_
              refine Ie.p rfl rfl rfl rfl ?_
              refine Ie.p rfl rfl rfl rfl ?_
              refine Ie.p rfl rfl rfl rfl ?_
              refine Ie.indexAddr rfl rfl rfl rfl Tryz.underlying22 sz30 rfl rfl (by decide) ?_
              refine Ie.fieldAddr rfl rfl rfl rfl rfl fa30_0 ?_
              refine Ie.load rfl rfl rfl rfl rfl ag3 (by first | exact .head | exact .tail .head | exact .tail (.tail .head) | exact .tail (.tail (.tail .head)) | exact .tail (.tail (.tail (.tail .head))) | exact .app .head | exact .app (.tail .head) | exact .app (.tail (.tail .head)) | exact .app (.tail (.tail (.tail .head))) | exact .base ‹_› ‹_› (by simp)) rfl ?_
              refine Ie.p rfl rfl rfl rfl ?_
              refine Ie.as 128 (.bool true) rfl (congrArg Value.bool (rfl)) ?_
              refine Ie.p rfl rfl rfl rfl ?_
              refine Ie.p rfl rfl rfl rfl ?_
              refine Ie.p rfl rfl rfl rfl ?_
              refine Ie.indexAddr rfl rfl rfl rfl Tryz.underlying22 sz30 rfl rfl (by decide) ?_
              refine Ie.fieldAddr rfl rfl rfl rfl rfl fa30_2 ?_
              refine Ie.load rfl rfl rfl rfl rfl ag2 (by first | exact .head | exact .tail .head | exact .tail (.tail .head) | exact .tail (.tail (.tail .head)) | exact .tail (.tail (.tail (.tail .head))) | exact .app .head | exact .app (.tail .head) | exact .app (.tail (.tail .head)) | exact .app (.tail (.tail (.tail .head))) | exact .base ‹_› ‹_› (by simp)) rfl ?_
              refine Ie.p rfl rfl rfl rfl ?_
              refine Ie.p rfl rfl rfl rfl ?_
              refine Ie.as 136 (.bool true) rfl (congrArg Value.bool (by rw [eqI_eq]; exact decide_eq_true rfl)) ?_
              refine Ie.p rfl rfl rfl rfl ?_
              refine Ie.p rfl rfl rfl rfl ?_
              refine Ie.nil ?_
              refine Ne.seq ?_
              refine Ce.ret ?_
              exact Re.end_ rfl rfl (fun m hm => ⟨rfl, hm.ext⟩)
        · (try simp only [decide_eq_true_eq, decide_eq_false_iff_not, nrm_lt, nrm_nlt, nrm_eq, nrm_neq, nrm_seq, nrm_sneq, nrm_sempty, nrm_snempty, nrm_ofNat, Bool.not_eq_true', Bool.not_eq_false'] at ht67)
          refine Ce.skip ?_
          refine Ne.blk ?_
          refine Ne.seq ?_
          refine Ce.region ?_
          refine Ie.p rfl rfl rfl rfl ?_
          refine Ie.bin rfl rfl rfl rfl rfl rfl (binS_quo (b := Int.ofNat (10)) (by decide)) ?_
          refine Ie.as 58 (.int .i64 (Int.ofNat (v1 / 10))) rfl (congrArg (Value.int .i64) (wri (Nat.lt_of_le_of_lt (Nat.div_le_self _ _) (by omega)))) ?_
          refine Ie.p rfl rfl rfl rfl ?_
          refine Ie.nil ?_
          exact Ne.loop (v1 / 10, chrD (v1 % 10) :: s1) (hi1.step (by decide) (by decide) (by omega)) (Nat.div_lt_self (by omega) (by decide)) ⟨rfl, rfl, rfl, rfl, rfl, rfl, trivial⟩ (List.Sublist.refl _)
      · (try simp only [decide_eq_true_eq, decide_eq_false_iff_not, nrm_lt, nrm_nlt, nrm_eq, nrm_neq, nrm_seq, nrm_sneq, nrm_sempty, nrm_snempty, nrm_ofNat, Bool.not_eq_true', Bool.not_eq_false'] at ht55)
        refine Ce.skip ?_
        refine Ne.blk ?_
        refine Ne.seq ?_
        refine Ce.region ?_
        refine Ie.p rfl rfl rfl rfl ?_
        refine Ie.p rfl rfl rfl rfl ?_
        refine Ie.bin rfl rfl rfl rfl rfl rfl (binS_quo (b := Int.ofNat (b)) (by simp only [Int.ofNat_eq_natCast]; omega)) ?_
        refine Ie.as 34 (.int .i64 (Int.ofNat (v / b))) rfl (congrArg (Value.int .i64) (wri (Nat.lt_of_le_of_lt (Nat.div_le_self _ _) (by omega)))) ?_
        refine Ie.p rfl rfl rfl rfl ?_
        refine Ie.nil ?_
        exact Ne.loop (v / b, chrD (v % b) :: s) (hi.step hb hb2 (by omega)) (Nat.div_lt_self (by omega) hb) ⟨rfl, rfl, rfl, rfl, rfl, rfl, trivial⟩ (List.Sublist.refl _)

end Go.Proofs.YtpokggpohmojlaaGreatDoor
