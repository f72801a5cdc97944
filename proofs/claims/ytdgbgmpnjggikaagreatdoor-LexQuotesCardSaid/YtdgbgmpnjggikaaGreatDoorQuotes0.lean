/-
  LexQuotes: the functions that it calls, followed. Conditions: none.
-/
import Derived.Test.YtdgbgmpnjggikaaGreatDoorAwk
import Derived.Test.YtdgbgmpnjggikaaGreatDoorPla
namespace Go.Proofs.YtdgbgmpnjggikaaGreatDoor
open Go Go.Ab
set_option linter.unusedVariables false
set_option linter.unusedSimpArgs false
set_option linter.unusedSectionVars false
variable [Mx]
theorem ag26 : aggT Tryz.prog 26 = some false := by kernel_rfl
theorem ag28 : aggT Tryz.prog 28 = some true := by kernel_rfl
theorem ag3 : aggT Tryz.prog 3 = some false := by kernel_rfl
theorem ag32 : aggT Tryz.prog 32 = some true := by kernel_rfl
theorem ag34 : aggT Tryz.prog 34 = some false := by kernel_rfl
theorem ag35 : aggT Tryz.prog 35 = some false := by kernel_rfl
theorem ag46 : aggT Tryz.prog 46 = some false := by kernel_rfl
theorem ag5 : aggT Tryz.prog 5 = some false := by kernel_rfl
theorem ag9 : aggT Tryz.prog 9 = some false := by kernel_rfl
theorem ap21 : AppC Tryz.prog 21 1 = true := by kernel_rfl
theorem ap32 : AppC Tryz.prog 32 4 = true := by kernel_rfl
theorem ap5 : AppC Tryz.prog 5 1 = true := by kernel_rfl
theorem bs26_1 : ∀ (x0 x1 x2 x3 : Value), buildSliceA Tryz.prog 26 1 [(0, .agg ⟨[x0, x1, x2, x3]⟩)] = some (.cells [x0, x1, x2, x3] 32 false .plain none, sliceTo 1 1) := fun _ _ _ _ => by kernel_rfl
theorem bs35_1 : ∀ (a : Int), buildSliceA Tryz.prog 35 1 [(0, .int .u8 a)] = some (.cells [.int .u8 a] 5 false .plain none, sliceTo 1 1) := fun _ => by kernel_rfl
theorem bs35_2 : ∀ (a0 a1 : Int), buildSliceA Tryz.prog 35 2 [(0, .int .u8 a0), (1, .int .u8 a1)] = some (.cells [.int .u8 a0, .int .u8 a1] 5 false .plain none, sliceTo 2 2) := fun _ _ => by kernel_rfl
theorem bs78_1 : ∀ (a : Int), buildSliceA Tryz.prog 78 1 [(0, .int .i32 a)] = some (.cells [.int .i32 a] 21 false .plain none, sliceTo 1 1) := fun _ => by kernel_rfl
theorem ce5 : Nat.beq (Tryz.prog.cellsOf 5) 1 = true := by kernel_rfl
theorem fa37_0 : ∀ b off, fieldAddrA Tryz.prog 37 (.pointer (some ⟨b, off, none⟩)) 0 = some (.pointer (some ⟨b, off + 0, none⟩)) := fun _ _ => by kernel_rfl
theorem fa37_1 : ∀ b off, fieldAddrA Tryz.prog 37 (.pointer (some ⟨b, off, none⟩)) 1 = some (.pointer (some ⟨b, off + 1, none⟩)) := fun _ _ => by kernel_rfl
theorem fa48_0 : ∀ b off, fieldAddrA Tryz.prog 48 (.pointer (some ⟨b, off, none⟩)) 0 = some (.pointer (some ⟨b, off + 0, none⟩)) := fun _ _ => by kernel_rfl
theorem fa48_1 : ∀ b off, fieldAddrA Tryz.prog 48 (.pointer (some ⟨b, off, none⟩)) 1 = some (.pointer (some ⟨b, off + 1, none⟩)) := fun _ _ => by kernel_rfl
theorem fa50_0 : ∀ b off, fieldAddrA Tryz.prog 50 (.pointer (some ⟨b, off, none⟩)) 0 = some (.pointer (some ⟨b, off + 0, none⟩)) := fun _ _ => by kernel_rfl
theorem fa50_1 : ∀ b off, fieldAddrA Tryz.prog 50 (.pointer (some ⟨b, off, none⟩)) 1 = some (.pointer (some ⟨b, off + 2, none⟩)) := fun _ _ => by kernel_rfl
theorem lies37 : liesAt Tryz.prog Tryz.prog.depth 37 (2 / Tryz.prog.cellsOf 37) 0 37 1 = true := by kernel_rfl
theorem ln26 : ∀ a n c, lenA Tryz.prog 26 (.slice a n c) = some (.imm (.int .i64 (Int.ofNat n))) := fun _ _ _ => by kernel_rfl
theorem ln35 : ∀ a n c, lenA Tryz.prog 35 (.slice a n c) = some (.imm (.int .i64 (Int.ofNat n))) := fun _ _ _ => by kernel_rfl
theorem ln9 : ∀ s, lenA Tryz.prog 9 (.string s) = some (.imm (.int .i64 (Int.ofNat s.size))) := fun _ => by kernel_rfl
theorem pe5 : ptrElem Tryz.prog (some 59) 5 = true := by kernel_rfl
theorem sz26 : sizeT Tryz.prog 26 = some 1 := by kernel_rfl
theorem sz28 : sizeT Tryz.prog 28 = some 2 := by kernel_rfl
theorem sz3 : sizeT Tryz.prog 3 = some 1 := by kernel_rfl
theorem sz32 : sizeT Tryz.prog 32 = some 4 := by kernel_rfl
theorem sz34 : sizeT Tryz.prog 34 = some 1 := by kernel_rfl
theorem sz35 : sizeT Tryz.prog 35 = some 1 := by kernel_rfl
theorem sz37 : sizeT Tryz.prog 37 = some 2 := by kernel_rfl
theorem sz5 : sizeT Tryz.prog 5 = some 1 := by kernel_rfl
theorem zr26 : zeroT Tryz.prog 26 = some (.slice none 0 0) := by kernel_rfl
theorem zr28 : zeroT Tryz.prog 28 = some (.agg ⟨[.int .i64 0, .int .i64 0]⟩) := by kernel_rfl
theorem zr32 : zeroT Tryz.prog 32 = some (.agg ⟨[.int .i64 0, .string ⟨⟨[]⟩⟩, .int .i64 0, .int .i64 0]⟩) := by kernel_rfl
theorem zr37 : zeroT Tryz.prog 37 = some (.agg ⟨[.pointer none, .slice none 0 0]⟩) := by kernel_rfl
theorem zr51 : zeroT Tryz.prog 51 = some (.nilFunc) := by kernel_rfl
theorem letter_ok {c : Nat} {m : AW} (hm : m.lo ≤ m.next) : Fc Tryz.prog 24 [.int .u8 (Int.ofNat c)] m fun v m' => v = .bool (letB c) ∧ Ext m m' := by
  refine Fc.body (c := _) Tryz.func24 rfl rfl rfl rfl hm ?_
  refine Ce.seq ?_
  refine Ce.region ?_
  refine Ie.p rfl rfl rfl rfl ?_
  refine Ie.nil ?_
  refine Ne.seq ?_
  refine Ce.seq ?_
  refine Ce.region ?_
  refine Ie.p rfl rfl rfl rfl ?_
  refine Ie.p rfl rfl rfl rfl ?_
  refine Ie.p rfl rfl rfl rfl ?_
  refine Ie.splitB 5 rfl (fun hs0 => ?_) (fun hs0 => ?_)
  · (try simp only [decide_eq_true_eq, decide_eq_false_iff_not, nrm_lt, nrm_nlt, nrm_eq, nrm_neq, nrm_seq, nrm_sneq, nrm_sempty, nrm_snempty, nrm_ofNat, Bool.not_eq_true', Bool.not_eq_false'] at hs0)
    refine Ie.p rfl rfl rfl rfl ?_
    refine Ie.p rfl rfl rfl rfl ?_
    refine Ie.p rfl rfl rfl rfl ?_
    refine Ie.p rfl rfl rfl rfl ?_
    refine Ie.splitB 9 rfl (fun hs1 => ?_) (fun hs1 => ?_)
    · (try simp only [decide_eq_true_eq, decide_eq_false_iff_not, nrm_lt, nrm_nlt, nrm_eq, nrm_neq, nrm_seq, nrm_sneq, nrm_sempty, nrm_snempty, nrm_ofNat, Bool.not_eq_true', Bool.not_eq_false'] at hs1)
      refine Ie.off rfl rfl rfl ?_
      refine Ie.off rfl rfl rfl ?_
      refine Ie.off rfl rfl rfl ?_
      refine Ie.off rfl rfl rfl ?_
      refine Ie.off rfl rfl rfl ?_
      refine Ie.off rfl rfl rfl ?_
      refine Ie.p rfl rfl rfl rfl ?_
      refine Ie.p rfl rfl rfl rfl ?_
      refine Ie.off rfl rfl rfl ?_
      refine Ie.off rfl rfl rfl ?_
      refine Ie.p rfl rfl rfl rfl ?_
      refine Ie.p rfl rfl rfl rfl ?_
      refine Ie.nil ?_
      refine Ne.seq ?_
      refine Ce.ret ?_
      exact Re.end_ rfl rfl (fun m hm => ⟨congrArg Value.bool ((by unfold letB; rw [Bool.eq_iff_iff]; simp only [nrm_lt, nrm_nlt, nrm_eq, nrm_neq, nrm_seq, nrm_sneq, nrm_sempty, nrm_snempty, nrm_ofNat, Bool.not_eq_true', Bool.not_eq_false', decide_eq_true_eq, Bool.false_eq_true, reduceCtorEq, Classical.not_not, true_iff, false_iff, iff_true, iff_false]; omega)), hm.ext⟩)
    · (try simp only [decide_eq_true_eq, decide_eq_false_iff_not, nrm_lt, nrm_nlt, nrm_eq, nrm_neq, nrm_seq, nrm_sneq, nrm_sempty, nrm_snempty, nrm_ofNat, Bool.not_eq_true', Bool.not_eq_false'] at hs1)
      refine Ie.p rfl rfl rfl rfl ?_
      refine Ie.p rfl rfl rfl rfl ?_
      refine Ie.p rfl rfl rfl rfl ?_
      refine Ie.splitB 12 rfl (fun hs2 => ?_) (fun hs2 => ?_)
      · (try simp only [decide_eq_true_eq, decide_eq_false_iff_not, nrm_lt, nrm_nlt, nrm_eq, nrm_neq, nrm_seq, nrm_sneq, nrm_sempty, nrm_snempty, nrm_ofNat, Bool.not_eq_true', Bool.not_eq_false'] at hs2)
        refine Ie.p rfl rfl rfl rfl ?_
        refine Ie.p rfl rfl rfl rfl ?_
        refine Ie.p rfl rfl rfl rfl ?_
        refine Ie.p rfl rfl rfl rfl ?_
        refine Ie.p rfl rfl rfl rfl ?_
        refine Ie.splitB 17 rfl (fun hs3 => ?_) (fun hs3 => ?_)
        · (try simp only [decide_eq_true_eq, decide_eq_false_iff_not, nrm_lt, nrm_nlt, nrm_eq, nrm_neq, nrm_seq, nrm_sneq, nrm_sempty, nrm_snempty, nrm_ofNat, Bool.not_eq_true', Bool.not_eq_false'] at hs3)
          refine Ie.off rfl rfl rfl ?_
          refine Ie.off rfl rfl rfl ?_
          refine Ie.p rfl rfl rfl rfl ?_
          refine Ie.p rfl rfl rfl rfl ?_
          refine Ie.nil ?_
          refine Ne.seq ?_
          refine Ce.ret ?_
          exact Re.end_ rfl rfl (fun m hm => ⟨congrArg Value.bool ((by unfold letB; rw [Bool.eq_iff_iff]; simp only [nrm_lt, nrm_nlt, nrm_eq, nrm_neq, nrm_seq, nrm_sneq, nrm_sempty, nrm_snempty, nrm_ofNat, Bool.not_eq_true', Bool.not_eq_false', decide_eq_true_eq, Bool.false_eq_true, reduceCtorEq, Classical.not_not, true_iff, false_iff, iff_true, iff_false]; omega)), hm.ext⟩)
        · (try simp only [decide_eq_true_eq, decide_eq_false_iff_not, nrm_lt, nrm_nlt, nrm_eq, nrm_neq, nrm_seq, nrm_sneq, nrm_sempty, nrm_snempty, nrm_ofNat, Bool.not_eq_true', Bool.not_eq_false'] at hs3)
          refine Ie.p rfl rfl rfl rfl ?_
          refine Ie.p rfl rfl rfl rfl ?_
          refine Ie.p rfl rfl rfl rfl ?_
          refine Ie.p rfl rfl rfl rfl ?_
          refine Ie.nil ?_
          refine Ne.seq ?_
          refine Ce.ret ?_
          exact Re.end_ rfl rfl (fun m hm => ⟨congrArg Value.bool ((by unfold letB; rw [Bool.eq_iff_iff]; simp only [nrm_lt, nrm_nlt, nrm_eq, nrm_neq, nrm_seq, nrm_sneq, nrm_sempty, nrm_snempty, nrm_ofNat, Bool.not_eq_true', Bool.not_eq_false', decide_eq_true_eq, Bool.false_eq_true, reduceCtorEq, Classical.not_not, true_iff, false_iff, iff_true, iff_false]; omega)), hm.ext⟩)
      · (try simp only [decide_eq_true_eq, decide_eq_false_iff_not, nrm_lt, nrm_nlt, nrm_eq, nrm_neq, nrm_seq, nrm_sneq, nrm_sempty, nrm_snempty, nrm_ofNat, Bool.not_eq_true', Bool.not_eq_false'] at hs2)
        refine Ie.off rfl rfl rfl ?_
        refine Ie.off rfl rfl rfl ?_
        refine Ie.p rfl rfl rfl rfl ?_
        refine Ie.p rfl rfl rfl rfl ?_
        refine Ie.p rfl rfl rfl rfl ?_
        refine Ie.p rfl rfl rfl rfl ?_
        refine Ie.p rfl rfl rfl rfl ?_
        refine Ie.p rfl rfl rfl rfl ?_
        refine Ie.p rfl rfl rfl rfl ?_
        refine Ie.nil ?_
        refine Ne.seq ?_
        refine Ce.ret ?_
        exact Re.end_ rfl rfl (fun m hm => ⟨congrArg Value.bool ((by unfold letB; rw [Bool.eq_iff_iff]; simp only [nrm_lt, nrm_nlt, nrm_eq, nrm_neq, nrm_seq, nrm_sneq, nrm_sempty, nrm_snempty, nrm_ofNat, Bool.not_eq_true', Bool.not_eq_false', decide_eq_true_eq, Bool.false_eq_true, reduceCtorEq, Classical.not_not, true_iff, false_iff, iff_true, iff_false]; omega)), hm.ext⟩)
  · (try simp only [decide_eq_true_eq, decide_eq_false_iff_not, nrm_lt, nrm_nlt, nrm_eq, nrm_neq, nrm_seq, nrm_sneq, nrm_sempty, nrm_snempty, nrm_ofNat, Bool.not_eq_true', Bool.not_eq_false'] at hs0)
    refine Ie.off rfl rfl rfl ?_
    refine Ie.off rfl rfl rfl ?_
    refine Ie.p rfl rfl rfl rfl ?_
    refine Ie.p rfl rfl rfl rfl ?_
    refine Ie.p rfl rfl rfl rfl ?_
    refine Ie.p rfl rfl rfl rfl ?_
    refine Ie.p rfl rfl rfl rfl ?_
    refine Ie.splitB 12 rfl (fun hs4 => ?_) (fun hs4 => ?_)
    · (try simp only [decide_eq_true_eq, decide_eq_false_iff_not, nrm_lt, nrm_nlt, nrm_eq, nrm_neq, nrm_seq, nrm_sneq, nrm_sempty, nrm_snempty, nrm_ofNat, Bool.not_eq_true', Bool.not_eq_false'] at hs4)
      refine Ie.p rfl rfl rfl rfl ?_
      refine Ie.p rfl rfl rfl rfl ?_
      refine Ie.p rfl rfl rfl rfl ?_
      refine Ie.p rfl rfl rfl rfl ?_
      refine Ie.p rfl rfl rfl rfl ?_
      refine Ie.splitB 17 rfl (fun hs5 => ?_) (fun hs5 => ?_)
      · (try simp only [decide_eq_true_eq, decide_eq_false_iff_not, nrm_lt, nrm_nlt, nrm_eq, nrm_neq, nrm_seq, nrm_sneq, nrm_sempty, nrm_snempty, nrm_ofNat, Bool.not_eq_true', Bool.not_eq_false'] at hs5)
        refine Ie.off rfl rfl rfl ?_
        refine Ie.off rfl rfl rfl ?_
        refine Ie.p rfl rfl rfl rfl ?_
        refine Ie.p rfl rfl rfl rfl ?_
        refine Ie.nil ?_
        refine Ne.seq ?_
        refine Ce.ret ?_
        exact Re.end_ rfl rfl (fun m hm => ⟨congrArg Value.bool ((by unfold letB; rw [Bool.eq_iff_iff]; simp only [nrm_lt, nrm_nlt, nrm_eq, nrm_neq, nrm_seq, nrm_sneq, nrm_sempty, nrm_snempty, nrm_ofNat, Bool.not_eq_true', Bool.not_eq_false', decide_eq_true_eq, Bool.false_eq_true, reduceCtorEq, Classical.not_not, true_iff, false_iff, iff_true, iff_false]; omega)), hm.ext⟩)
      · (try simp only [decide_eq_true_eq, decide_eq_false_iff_not, nrm_lt, nrm_nlt, nrm_eq, nrm_neq, nrm_seq, nrm_sneq, nrm_sempty, nrm_snempty, nrm_ofNat, Bool.not_eq_true', Bool.not_eq_false'] at hs5)
        refine Ie.p rfl rfl rfl rfl ?_
        refine Ie.p rfl rfl rfl rfl ?_
        refine Ie.p rfl rfl rfl rfl ?_
        refine Ie.p rfl rfl rfl rfl ?_
        refine Ie.nil ?_
        refine Ne.seq ?_
        refine Ce.ret ?_
        exact Re.end_ rfl rfl (fun m hm => ⟨congrArg Value.bool ((by unfold letB; rw [Bool.eq_iff_iff]; simp only [nrm_lt, nrm_nlt, nrm_eq, nrm_neq, nrm_seq, nrm_sneq, nrm_sempty, nrm_snempty, nrm_ofNat, Bool.not_eq_true', Bool.not_eq_false', decide_eq_true_eq, Bool.false_eq_true, reduceCtorEq, Classical.not_not, true_iff, false_iff, iff_true, iff_false]; omega)), hm.ext⟩)
    · (try simp only [decide_eq_true_eq, decide_eq_false_iff_not, nrm_lt, nrm_nlt, nrm_eq, nrm_neq, nrm_seq, nrm_sneq, nrm_sempty, nrm_snempty, nrm_ofNat, Bool.not_eq_true', Bool.not_eq_false'] at hs4)
      refine Ie.off rfl rfl rfl ?_
      refine Ie.off rfl rfl rfl ?_
      refine Ie.p rfl rfl rfl rfl ?_
      refine Ie.p rfl rfl rfl rfl ?_
      refine Ie.p rfl rfl rfl rfl ?_
      refine Ie.p rfl rfl rfl rfl ?_
      refine Ie.p rfl rfl rfl rfl ?_
      refine Ie.p rfl rfl rfl rfl ?_
      refine Ie.p rfl rfl rfl rfl ?_
      refine Ie.nil ?_
      refine Ne.seq ?_
      refine Ce.ret ?_
      exact Re.end_ rfl rfl (fun m hm => ⟨congrArg Value.bool ((by unfold letB; rw [Bool.eq_iff_iff]; simp only [nrm_lt, nrm_nlt, nrm_eq, nrm_neq, nrm_seq, nrm_sneq, nrm_sempty, nrm_snempty, nrm_ofNat, Bool.not_eq_true', Bool.not_eq_false', decide_eq_true_eq, Bool.false_eq_true, reduceCtorEq, Classical.not_not, true_iff, false_iff, iff_true, iff_false]; omega)), hm.ext⟩)

theorem digit_ok {c : Nat} {m : AW} (hm : m.lo ≤ m.next) : Fc Tryz.prog 26 [.int .u8 (Int.ofNat c)] m fun v m' => v = .bool (digB c) ∧ Ext m m' := by
  refine Fc.body (c := _) Tryz.func26 rfl rfl rfl rfl hm ?_
  refine Ce.seq ?_
  refine Ce.region ?_
  refine Ie.p rfl rfl rfl rfl ?_
  refine Ie.nil ?_
  refine Ne.seq ?_
  refine Ce.seq ?_
  refine Ce.region ?_
  refine Ie.p rfl rfl rfl rfl ?_
  refine Ie.p rfl rfl rfl rfl ?_
  refine Ie.p rfl rfl rfl rfl ?_
  refine Ie.splitB 5 rfl (fun hs0 => ?_) (fun hs0 => ?_)
  · (try simp only [decide_eq_true_eq, decide_eq_false_iff_not, nrm_lt, nrm_nlt, nrm_eq, nrm_neq, nrm_seq, nrm_sneq, nrm_sempty, nrm_snempty, nrm_ofNat, Bool.not_eq_true', Bool.not_eq_false'] at hs0)
    refine Ie.p rfl rfl rfl rfl ?_
    refine Ie.p rfl rfl rfl rfl ?_
    refine Ie.p rfl rfl rfl rfl ?_
    refine Ie.p rfl rfl rfl rfl ?_
    refine Ie.nil ?_
    refine Ne.seq ?_
    refine Ce.ret ?_
    exact Re.end_ rfl rfl (fun m hm => ⟨congrArg Value.bool ((by unfold digB; rw [Bool.eq_iff_iff]; simp only [nrm_lt, nrm_nlt, nrm_eq, nrm_neq, nrm_seq, nrm_sneq, nrm_sempty, nrm_snempty, nrm_ofNat, Bool.not_eq_true', Bool.not_eq_false', decide_eq_true_eq, Bool.false_eq_true, reduceCtorEq, Classical.not_not, true_iff, false_iff, iff_true, iff_false]; omega)), hm.ext⟩)
  · (try simp only [decide_eq_true_eq, decide_eq_false_iff_not, nrm_lt, nrm_nlt, nrm_eq, nrm_neq, nrm_seq, nrm_sneq, nrm_sempty, nrm_snempty, nrm_ofNat, Bool.not_eq_true', Bool.not_eq_false'] at hs0)
    refine Ie.off rfl rfl rfl ?_
    refine Ie.off rfl rfl rfl ?_
    refine Ie.p rfl rfl rfl rfl ?_
    refine Ie.p rfl rfl rfl rfl ?_
    refine Ie.nil ?_
    refine Ne.seq ?_
    refine Ce.ret ?_
    exact Re.end_ rfl rfl (fun m hm => ⟨congrArg Value.bool ((by unfold digB; rw [Bool.eq_iff_iff]; simp only [nrm_lt, nrm_nlt, nrm_eq, nrm_neq, nrm_seq, nrm_sneq, nrm_sempty, nrm_snempty, nrm_ofNat, Bool.not_eq_true', Bool.not_eq_false', decide_eq_true_eq, Bool.false_eq_true, reduceCtorEq, Classical.not_not, true_iff, false_iff, iff_true, iff_false]; omega)), hm.ext⟩)

theorem done_ok {T : List UInt8} {wx at_ : Nat} {gv : Value} {m : AW} (hm : m.lo ≤ m.next) (hx : Mem m wx (.cells [.string ⟨⟨T⟩⟩, .int .i64 (Int.ofNat (at_)), gv] 50 false .plain none)) : Fc Tryz.prog 15 [.pointer (some ⟨wx, 0, none⟩)] m fun v m' => v = .bool (decide (T.length ≤ at_)) ∧ Ext m m' := by
  have hsz : (⟨⟨T⟩⟩ : ByteArray).size = T.length := rfl
  refine Fc.body (c := _) Tryz.func15 rfl rfl rfl rfl hm ?_
  refine Ce.seq ?_
  refine Ce.region ?_
  refine Ie.p rfl rfl rfl rfl ?_
  refine Ie.nil ?_
  refine Ne.seq ?_
  refine Ce.seq ?_
  refine Ce.draw [⟨0, .p, true, true, 0⟩, ⟨1, .p, true, true, 1⟩, ⟨2, .p, true, true, 3⟩, ⟨3, .l, true, true, 7⟩, ⟨4, .p, true, true, 0⟩, ⟨5, .p, true, true, 16⟩, ⟨6, .p, true, true, 48⟩, ⟨7, .l, true, true, 112⟩, ⟨8, .l, true, true, 240⟩, ⟨9, .p, true, true, 511⟩, ⟨10, .p, true, true, 1023⟩] (by kernel_rfl) (by kernel_rfl) (fun base hbase hB => ?_)
  refine De.p rfl rfl rfl rfl rfl ?_
  refine De.p rfl rfl rfl rfl rfl ?_
  refine De.fieldAddr rfl rfl rfl rfl rfl rfl fa48_1 ?_
  refine De.load rfl rfl rfl rfl rfl rfl rfl rfl ag3 (.base hx.2 hx.1 (by simp)) rfl ?_
  refine De.p rfl rfl rfl rfl rfl ?_
  refine De.p rfl rfl rfl rfl rfl ?_
  refine De.fieldAddr rfl rfl rfl rfl rfl rfl fa48_0 ?_
  refine De.load rfl rfl rfl rfl rfl rfl rfl rfl ag9 (.base hx.2 hx.1 (by simp)) rfl ?_
  refine De.len rfl rfl rfl rfl rfl rfl (ln9 ..) ?_
  refine De.p rfl rfl rfl rfl rfl ?_
  refine De.p rfl rfl rfl rfl rfl ?_
  refine De.nil ?_
  refine Ne.seq ?_
  refine Ce.ret ?_
  exact Re.end_ rfl rfl (fun m hm => ⟨congrArg Value.bool (by rw [Bool.eq_iff_iff]; simp only [nrm_lt, nrm_nlt, nrm_eq, nrm_neq, nrm_seq, nrm_sneq, nrm_sempty, nrm_snempty, nrm_ofNat, Bool.not_eq_true', Bool.not_eq_false', decide_eq_true_eq, Bool.false_eq_true, reduceCtorEq, Classical.not_not, true_iff, false_iff, iff_true, iff_false]; omega), hm.ext⟩)

theorem rest_ok {T : List UInt8} {wx at_ : Nat} {gv : Value} {m : AW} (hm : m.lo ≤ m.next) (hx : Mem m wx (.cells [.string ⟨⟨T⟩⟩, .int .i64 (Int.ofNat (at_)), gv] 50 false .plain none)) (ha : at_ ≤ T.length) : Fc Tryz.prog 21 [.pointer (some ⟨wx, 0, none⟩)] m fun v m' => v = .string ⟨⟨T.drop at_⟩⟩ ∧ Ext m m' := by
  refine Fc.body (c := _) Tryz.func21 rfl rfl rfl rfl hm ?_
  refine Ce.seq ?_
  refine Ce.region ?_
  refine Ie.p rfl rfl rfl rfl ?_
  refine Ie.nil ?_
  refine Ne.seq ?_
  refine Ce.seq ?_
  refine Ce.draw [⟨0, .p, true, true, 0⟩, ⟨1, .p, true, true, 1⟩, ⟨2, .p, true, true, 3⟩, ⟨3, .l, true, true, 7⟩, ⟨4, .p, true, true, 0⟩, ⟨5, .p, true, true, 16⟩, ⟨6, .p, true, true, 48⟩, ⟨7, .l, true, true, 112⟩, ⟨8, .p, true, true, 255⟩, ⟨9, .p, true, true, 511⟩] (by kernel_rfl) (by kernel_rfl) (fun base hbase hB => ?_)
  refine De.p rfl rfl rfl rfl rfl ?_
  refine De.p rfl rfl rfl rfl rfl ?_
  refine De.fieldAddr rfl rfl rfl rfl rfl rfl fa48_0 ?_
  refine De.load rfl rfl rfl rfl rfl rfl rfl rfl ag9 (.base hx.2 hx.1 (by simp)) rfl ?_
  refine De.p rfl rfl rfl rfl rfl ?_
  refine De.p rfl rfl rfl rfl rfl ?_
  refine De.fieldAddr rfl rfl rfl rfl rfl rfl fa48_1 ?_
  refine De.load rfl rfl rfl rfl rfl rfl rfl rfl ag3 (.base hx.2 hx.1 (by simp)) rfl ?_
  refine De.p (v := .string ⟨⟨(T).drop at_⟩⟩) rfl rfl rfl rfl (strFrom_E rfl rfl Tryz.underlying9 (ha)) ?_
  refine De.p rfl rfl rfl rfl rfl ?_
  refine De.nil ?_
  refine Ne.seq ?_
  refine Ce.ret ?_
  exact Re.end_ rfl rfl (fun m hm => ⟨rfl, hm.ext⟩)

theorem char_ok {T q : List UInt8} {wx at_ c : Nat} {gv : Value} {m : AW} (hm : m.lo ≤ m.next) (hx : Mem m wx (.cells [.string ⟨⟨T⟩⟩, .int .i64 (Int.ofNat (at_)), gv] 50 false .plain none)) (ha : at_ ≤ T.length) (hT : T.drop at_ = encN c ++ q) (hc : okR c) (hlay : LaidAt lays m) : Fc Tryz.prog 46 [.pointer (some ⟨wx, 0, none⟩)] m fun v m' => v = tupN (c, (encN c).length) ∧ Ext m m' := by
  refine Fc.body (c := _) Tryz.func46 rfl rfl rfl rfl hm ?_
  refine Ce.seq ?_
  refine Ce.region ?_
  refine Ie.p rfl rfl rfl rfl ?_
  refine Ie.p rfl rfl rfl rfl ?_
  refine Ie.nil ?_
  refine Ne.seq ?_
  refine Ce.seq ?_
  refine Ce.region ?_
  refine Ie.p rfl rfl rfl rfl ?_
  refine Ie.call _ rfl rfl rfl rfl rfl rfl (fun m hm => rest_ok hm.lole (Mem.kr hm _ _ hx) ha) ?_
  refine Ie.as 8 (.string ⟨⟨encN c ++ q⟩⟩) rfl (congrArg (fun z : List UInt8 => Value.string ⟨⟨z⟩⟩) (hT)) ?_
  refine Ie.call _ rfl rfl rfl rfl rfl rfl (fun m hm => dec_ok (hlay.kr hm)) ?_
  refine Ie.as 9 (tupN (c, (encN c).length)) rfl (congrArg tupN (dec_go hc q)) ?_
  refine Ie.p rfl rfl rfl rfl ?_
  refine Ie.p rfl rfl rfl rfl ?_
  refine Ie.p rfl rfl rfl rfl ?_
  refine Ie.p rfl rfl rfl rfl ?_
  refine Ie.p rfl rfl rfl rfl ?_
  refine Ie.nil ?_
  refine Ne.seq ?_
  refine Ce.seq ?_
  refine Ce.seq ?_
  refine Ce.region ?_
  refine Ie.p rfl rfl rfl rfl ?_
  refine Ie.p rfl rfl rfl rfl ?_
  refine Ie.p rfl rfl rfl rfl ?_
  refine Ie.splitB 14 rfl (fun hs0 => ?_) (fun hs0 => ?_)
  · (try simp only [decide_eq_true_eq, decide_eq_false_iff_not, nrm_lt, nrm_nlt, nrm_eq, nrm_neq, nrm_seq, nrm_sneq, nrm_sempty, nrm_snempty, nrm_ofNat, Bool.not_eq_true', Bool.not_eq_false'] at hs0)
    refine Ie.p rfl rfl rfl rfl ?_
    refine Ie.p rfl rfl rfl rfl ?_
    refine Ie.as 16 (.bool false) rfl (congrArg Value.bool (by rw [ltI_eq]; exact decide_eq_false (by have h_ := enc_fffd hs0; simp only [Int.ofNat_eq_natCast]; omega))) ?_
    refine Ie.p rfl rfl rfl rfl ?_
    refine Ie.nil ?_
    refine Ne.seq ?_
    refine Ce.cond_false rfl ?_
    refine Ce.skip ?_
    refine Ne.seq ?_
    refine Ce.seq ?_
    refine Ce.region ?_
    refine Ie.p rfl rfl rfl rfl ?_
    refine Ie.p rfl rfl rfl rfl ?_
    refine Ie.p rfl rfl rfl rfl ?_
    refine Ie.p rfl rfl rfl rfl ?_
    refine Ie.nil ?_
    refine Ne.seq ?_
    refine Ce.ret ?_
    exact Re.end_ rfl rfl (fun m hm => ⟨rfl, hm.ext⟩)
  · (try simp only [decide_eq_true_eq, decide_eq_false_iff_not, nrm_lt, nrm_nlt, nrm_eq, nrm_neq, nrm_seq, nrm_sneq, nrm_sempty, nrm_snempty, nrm_ofNat, Bool.not_eq_true', Bool.not_eq_false'] at hs0)
    refine Ie.off rfl rfl rfl ?_
    refine Ie.off rfl rfl rfl ?_
    refine Ie.p rfl rfl rfl rfl ?_
    refine Ie.nil ?_
    refine Ne.seq ?_
    refine Ce.cond_false rfl ?_
    refine Ce.skip ?_
    refine Ne.seq ?_
    refine Ce.seq ?_
    refine Ce.region ?_
    refine Ie.p rfl rfl rfl rfl ?_
    refine Ie.p rfl rfl rfl rfl ?_
    refine Ie.p rfl rfl rfl rfl ?_
    refine Ie.p rfl rfl rfl rfl ?_
    refine Ie.nil ?_
    refine Ne.seq ?_
    refine Ce.ret ?_
    exact Re.end_ rfl rfl (fun m hm => ⟨rfl, hm.ext⟩)

theorem ixb_ok {x i : Nat} {m : AW} (h : (x, i) ∈ [(110, 0), (116, 1), (114, 2), (48, 3), (92, 4), (34, 6)]) : Fc Tryz.prog 63 [.string ⟨⟨[110, 116, 114, 48, 92, 39, 34]⟩⟩, .int .u8 (Int.ofNat x)] m fun v m' => v = .int .i64 (Int.ofNat i) ∧ Ext m m' := by
  simp only [List.mem_cons, Prod.mk.injEq, List.not_mem_nil, or_false] at h
  rcases h with ⟨rfl, rfl⟩ | ⟨rfl, rfl⟩ | ⟨rfl, rfl⟩ | ⟨rfl, rfl⟩ | ⟨rfl, rfl⟩ | ⟨rfl, rfl⟩ <;> exact ⟨100, _, m, by kernel_rfl, rfl, .refl _⟩
theorem ixb_no {m : AW} : Fc Tryz.prog 63 [.string ⟨⟨[110, 116, 114, 48, 92, 39, 34]⟩⟩, .int .u8 (Int.ofNat 117)] m fun v m' => v = .int .i64 (-1) ∧ Ext m m' := ⟨100, _, m, by kernel_rfl, rfl, .refl _⟩

theorem lower_ok {c : Nat} {m : AW} (hm : m.lo ≤ m.next) (hc : 97 ≤ c ∧ c ≤ 102) : Fc Tryz.prog 92 [.int .u8 (Int.ofNat c)] m fun v m' => v = .int .u8 (Int.ofNat c) ∧ Ext m m' := by
  refine Fc.body (c := _) Tryz.func92 rfl rfl rfl rfl hm ?_
  refine Ce.seq ?_
  refine Ce.region ?_
  refine Ie.p rfl rfl rfl rfl ?_
  refine Ie.nil ?_
  refine Ne.seq ?_
  refine Ce.seq ?_
  refine Ce.region ?_
  refine Ie.p rfl rfl rfl rfl ?_
  refine Ie.p rfl rfl rfl rfl ?_
  refine Ie.as 4 (.int .u8 (Int.ofNat (c))) rfl (congrArg (Value.int .u8) (low_or hc.1 hc.2)) ?_
  refine Ie.p rfl rfl rfl rfl ?_
  refine Ie.nil ?_
  refine Ne.seq ?_
  refine Ce.ret ?_
  exact Re.end_ rfl rfl (fun m hm => ⟨rfl, hm.ext⟩)

theorem pu_ok {l : List UInt8} {m : AW} (hm : m.lo ≤ m.next) (h0 : 0 < l.length) (hl : l.length ≤ 100) (hx : ∀ c ∈ l, hexB c) (hM : valL 16 0 l ≤ 4294967295) : Fc Tryz.prog 73 [.string ⟨⟨l⟩⟩, .int .i64 16, .int .i64 32] m fun v m' => v = .tuple ⟨[.int .u64 (Int.ofNat (valL 16 0 l)), .nilIface]⟩ ∧ Ext m m' := by
  have hsz : (⟨⟨l⟩⟩ : ByteArray).size = l.length := rfl
  refine Fc.body (c := _) Tryz.func73 rfl rfl rfl rfl hm ?_
  refine Ce.seq ?_
  refine Ce.region ?_
  refine Ie.p rfl rfl rfl rfl ?_
  refine Ie.p rfl rfl rfl rfl ?_
  refine Ie.nil ?_
  refine Ne.seq ?_
  refine Ce.seq ?_
  refine Ce.seq ?_
  refine Ce.region ?_
  refine Ie.p rfl rfl rfl rfl ?_
  refine Ie.p rfl rfl rfl rfl ?_
  refine Ie.as 19 (.bool false) rfl (congrArg Value.bool (str_ne h0)) ?_
  refine Ie.nil ?_
  refine Ne.seq ?_
  refine Ce.cond_false rfl ?_
  refine Ce.skip ?_
  refine Ne.seq ?_
  refine Ce.seq ?_
  refine Ce.region ?_
  refine Ie.p rfl rfl rfl rfl ?_
  refine Ie.p rfl rfl rfl rfl ?_
  refine Ie.as 22 (.bool false) rfl (congrArg Value.bool (rfl)) ?_
  refine Ie.p rfl rfl rfl rfl ?_
  refine Ie.nil ?_
  refine Ne.seq ?_
  refine Ce.seq ?_
  refine Ce.region ?_
  refine Ie.p rfl rfl rfl rfl ?_
  refine Ie.p rfl rfl rfl rfl ?_
  refine Ie.nil ?_
  refine Ne.seq ?_
  refine Ce.seq ?_
  refine Ce.block ?_
  refine Ce.seq ?_
  refine Ce.region ?_
  refine Ie.p rfl rfl rfl rfl ?_
  refine Ie.p rfl rfl rfl rfl ?_
  refine Ie.as 27 (.bool true) rfl (congrArg Value.bool (rfl)) ?_
  refine Ie.p rfl rfl rfl rfl ?_
  refine Ie.p rfl rfl rfl rfl ?_
  refine Ie.p rfl rfl rfl rfl ?_
  refine Ie.as 30 (.bool true) rfl (congrArg Value.bool (rfl)) ?_
  refine Ie.p rfl rfl rfl rfl ?_
  refine Ie.p rfl rfl rfl rfl ?_
  refine Ie.nil ?_
  refine Ne.seq ?_
  refine Ce.cond_true rfl ?_
  refine Ce.skip ?_
  refine Ne.blk ?_
  refine Ne.seq ?_
  refine Ce.seq ?_
  refine Ce.seq ?_
  refine Ce.region ?_
  refine Ie.p rfl rfl rfl rfl ?_
  refine Ie.p rfl rfl rfl rfl ?_
  refine Ie.as 77 (.bool false) rfl (congrArg Value.bool (rfl)) ?_
  refine Ie.nil ?_
  refine Ne.seq ?_
  refine Ce.cond_false rfl ?_
  refine Ce.seq ?_
  refine Ce.region ?_
  refine Ie.p rfl rfl rfl rfl ?_
  refine Ie.p rfl rfl rfl rfl ?_
  refine Ie.as 79 (.bool false) rfl (congrArg Value.bool (rfl)) ?_
  refine Ie.p rfl rfl rfl rfl ?_
  refine Ie.p rfl rfl rfl rfl ?_
  refine Ie.p rfl rfl rfl rfl ?_
  refine Ie.as 82 (.bool false) rfl (congrArg Value.bool (rfl)) ?_
  refine Ie.p rfl rfl rfl rfl ?_
  refine Ie.nil ?_
  refine Ne.seq ?_
  refine Ce.cond_false rfl ?_
  refine Ce.skip ?_
  refine Ne.seq ?_
  refine Ce.seq ?_
  refine Ce.region ?_
  refine Ie.p rfl rfl rfl rfl ?_
  refine Ie.nil ?_
  refine Ne.seq ?_
  refine Ce.seq ?_
  refine Ce.seq ?_
  refine Ce.region ?_
  refine Ie.p rfl rfl rfl rfl ?_
  refine Ie.nil ?_
  refine Ne.seq ?_
  refine Ce.block ?_
  refine Ce.seq ?_
  refine Ce.region ?_
  refine Ie.p rfl rfl rfl rfl ?_
  refine Ie.as 91 (.bool false) rfl (congrArg Value.bool (rfl)) ?_
  refine Ie.p rfl rfl rfl rfl ?_
  refine Ie.nil ?_
  refine Ne.seq ?_
  refine Ce.cond_false rfl ?_
  refine Ce.seq ?_
  refine Ce.region ?_
  refine Ie.p rfl rfl rfl rfl ?_
  refine Ie.as 93 (.bool true) rfl (congrArg Value.bool (rfl)) ?_
  refine Ie.p rfl rfl rfl rfl ?_
  refine Ie.nil ?_
  refine Ne.seq ?_
  refine Ce.cond_true rfl ?_
  refine Ce.region ?_
  refine Ie.p rfl rfl rfl rfl ?_
  refine Ie.nil ?_
  refine Ne.blk ?_
  refine Ne.seq ?_
  refine Ce.seq ?_
  refine Ce.region ?_
  refine Ie.p rfl rfl rfl rfl ?_
  refine Ie.convInt rfl rfl rfl rfl Tryz.underlying3 Tryz.underlying58 rfl ?_
  refine Ie.p (v := .int .u64 4294967296) rfl rfl rfl (by kernel_rfl) ?_
  refine Ie.p (v := .int .u64 4294967295) rfl rfl rfl (by kernel_rfl) ?_
  refine Ie.p rfl rfl rfl rfl ?_
  refine Ie.nil ?_
  refine Ne.seq ?_
  refine Ce.seq ?_
  refine Ce.region ?_
  refine Ie.p rfl rfl rfl rfl ?_
  refine Ie.nil ?_
  refine Ne.seq ?_
  refine Ce.seq ?_
  refine Ce.region ?_
  refine Ie.p rfl rfl rfl rfl ?_
  refine Ie.nil ?_
  refine Ne.seq ?_
  refine Ce.seq ?_
  refine Ce.seq ?_
  refine Ce.region ?_
  refine Ie.p rfl rfl rfl rfl ?_
  refine Ie.toBytes (by omega) rfl rfl rfl rfl (by kernel_rfl) Tryz.underlying9 Tryz.underlying35 Tryz.underlying5 sz5 rfl (fun b99 hb99 => ?_)
  refine Ie.len rfl rfl rfl rfl rfl (ln35 ..) ?_
  refine Ie.p rfl rfl rfl rfl ?_
  refine Ie.nil ?_
  refine Ne.seq ?_
  refine Ce.block ?_
 
  refine Ce.loop (α := Nat) (fun i => [(0, .string ⟨⟨l⟩⟩), (1, .int .i64 16), (8, .bool false), (10, .int .u64 1152921504606846976), (11, .int .u64 4294967295), (12, .bool false), (13, .int .u64 (Int.ofNat (valL 16 0 (l.take i)))), (99, .slice (some ⟨b99, 0, none⟩) l.length top), (100, .int .i64 (Int.ofNat (l.length))), (101, .int .i64 (Int.ofNat (i)))]) (fun i => [(b99, .cells (l.map fun b => .int .u8 (Int.ofNat b.toNat)) 5 true .strish none)]) (fun i => i ≤ l.length) (fun i => l.length - i) 0 (Nat.zero_le _) ⟨rfl, rfl, rfl, rfl, rfl, rfl, rfl, rfl, rfl, rfl, trivial⟩ (.cons_cons _ (List.nil_sublist _)) (fun i hi => ?_)
  refine Ce.seq ?_
  refine Ce.region ?_
  refine Ie.p rfl rfl rfl rfl ?_
  refine Ie.nil ?_
  refine Ne.seq ?_
  refine Ce.seq ?_
  refine Ce.cond rfl (fun ht102 => ?_) (fun ht102 => ?_)
  · (try simp only [decide_eq_true_eq, decide_eq_false_iff_not, nrm_lt, nrm_nlt, nrm_eq, nrm_neq, nrm_seq, nrm_sneq, nrm_sempty, nrm_snempty, nrm_ofNat, Bool.not_eq_true', Bool.not_eq_false'] at ht102)
    obtain ⟨x, hxi⟩ := at_len (l := l) (i := i) (by omega)
    have hb := hx x (List.mem_of_getElem? hxi)
    have hv16 := hexB_val hb
    have hN := valL_snoc 16 0 (l.take i) x
    rw [← take_succ' hxi] at hN
    have hle : valL 16 0 (l.take (i + 1)) ≤ 4294967295 := Nat.le_trans (valL_take (by omega)) hM
    unfold hexB at hb
    refine Ce.skip ?_
    refine Ne.seq ?_
    refine Ce.seq ?_
    refine Ce.block ?_
    refine Ce.seq ?_
    refine Ce.region ?_
    refine Ie.indexAddr rfl rfl rfl rfl Tryz.underlying35 sz5 rfl rfl (by omega) ?_
    refine Ie.load rfl rfl rfl rfl rfl ag5 (by first | exact .head | exact .tail .head | exact .tail (.tail .head) | exact .tail (.tail (.tail .head)) | exact .tail (.tail (.tail (.tail .head))) | exact .app .head | exact .app (.tail .head) | exact .app (.tail (.tail .head)) | exact .app (.tail (.tail (.tail .head))) | exact .base ‹_› ‹_› (by simp)) (map_cell hxi) ?_
    refine Ie.p rfl rfl rfl rfl ?_
    refine Ie.nil ?_
    refine Ne.seq ?_
    refine Ce.seq ?_
    refine Ce.region ?_
    refine Ie.p rfl rfl rfl rfl ?_
    refine Ie.nil ?_
    refine Ne.seq ?_
    refine Ce.joinA (True) [(16, .int .u8 (Int.ofNat (valN x.toNat)))] ?_ (fun _ => ?_)
    · refine Ce.block ?_
      refine Ce.seq ?_
      refine Ce.region ?_
      refine Ie.p rfl rfl rfl rfl ?_
      refine Ie.p rfl rfl rfl rfl ?_
      refine Ie.as 108 (.bool false) rfl (congrArg Value.bool (by rw [eqI_eq]; exact decide_eq_false (fun h => by simp only [Int.ofNat_eq_natCast] at h; omega))) ?_
      refine Ie.p rfl rfl rfl rfl ?_
      refine Ie.off rfl rfl rfl ?_
      refine Ie.p rfl rfl rfl rfl ?_
      refine Ie.p rfl rfl rfl rfl ?_
      refine Ie.nil ?_
      refine Ne.seq ?_
      refine Ce.cond_false rfl ?_
      refine Ce.seq ?_
      refine Ce.region ?_
      refine Ie.p rfl rfl rfl rfl ?_
      refine Ie.p rfl rfl rfl rfl ?_
      refine Ie.p rfl rfl rfl rfl ?_
      refine Ie.splitB 115 rfl (fun hs_115 => ?_) (fun hs_115 => ?_)
      · (try simp only [decide_eq_true_eq, decide_eq_false_iff_not, nrm_lt, nrm_nlt, nrm_eq, nrm_neq, nrm_seq, nrm_sneq, nrm_sempty, nrm_snempty, nrm_ofNat, Bool.not_eq_true', Bool.not_eq_false'] at hs_115)
        refine Ie.p rfl rfl rfl rfl ?_
        refine Ie.p rfl rfl rfl rfl ?_
        refine Ie.p rfl rfl rfl rfl ?_
        refine Ie.p rfl rfl rfl rfl ?_
        refine Ie.nil ?_
        refine Ne.seq ?_
        refine Ce.cond rfl (fun ht112 => ?_) (fun ht112 => ?_)
        · (try simp only [decide_eq_true_eq, decide_eq_false_iff_not, nrm_lt, nrm_nlt, nrm_eq, nrm_neq, nrm_seq, nrm_sneq, nrm_sempty, nrm_snempty, nrm_ofNat, Bool.not_eq_true', Bool.not_eq_false'] at ht112)
          have hvx : valN x.toNat = x.toNat - 48 := by unfold valN; rw [if_pos (by omega)]
          refine Ce.region ?_
          refine Ie.p rfl rfl rfl rfl ?_
          refine Ie.p rfl rfl rfl rfl ?_
          refine Ie.as 120 (.int .u8 (Int.ofNat (x.toNat - 48))) rfl (congrArg (Value.int .u8) (by rw [show (48 : Int) = Int.ofNat 48 from rfl, subN (by omega), wr8 (by omega)])) ?_
          refine Ie.p rfl rfl rfl rfl ?_
          refine Ie.nil ?_
          refine Ne.blk ?_
          refine Ne.as 16 (.int .u8 (Int.ofNat (valN x.toNat))) rfl (congrArg (Value.int .u8) (by rw [hvx])) ?_
          exact Ne.jnx (trivial) (by repeat (first | exact trivial | refine ⟨rfl, ?_⟩)) (List.Sublist.refl _)
        · (try simp only [decide_eq_true_eq, decide_eq_false_iff_not, nrm_lt, nrm_nlt, nrm_eq, nrm_neq, nrm_seq, nrm_sneq, nrm_sempty, nrm_snempty, nrm_ofNat, Bool.not_eq_true', Bool.not_eq_false'] at ht112)
          have hvx : valN x.toNat = x.toNat - 87 := by unfold valN; rw [if_neg (by omega), if_pos (by omega)]
          refine Ce.seq ?_
          refine Ce.region ?_
          refine Ie.p rfl rfl rfl rfl ?_
          refine Ie.call _ rfl rfl rfl rfl rfl rfl (fun m hm => lower_ok hm.lole (by omega)) ?_
          refine Ie.p rfl rfl rfl rfl ?_
          refine Ie.p rfl rfl rfl rfl ?_
          refine Ie.splitB 125 rfl (fun hs_125 => ?_) (fun hs_125 => ?_)
          · (try simp only [decide_eq_true_eq, decide_eq_false_iff_not, nrm_lt, nrm_nlt, nrm_eq, nrm_neq, nrm_seq, nrm_sneq, nrm_sempty, nrm_snempty, nrm_ofNat, Bool.not_eq_true', Bool.not_eq_false'] at hs_125)
            refine Ie.p rfl rfl rfl rfl ?_
            refine Ie.call _ rfl rfl rfl rfl rfl rfl (fun m hm => lower_ok hm.lole (by omega)) ?_
            refine Ie.p rfl rfl rfl rfl ?_
            refine Ie.p rfl rfl rfl rfl ?_
            refine Ie.p rfl rfl rfl rfl ?_
            refine Ie.nil ?_
            refine Ne.seq ?_
            refine Ce.cond rfl (fun ht121 => ?_) (fun ht121 => ?_)
            · (try simp only [decide_eq_true_eq, decide_eq_false_iff_not, nrm_lt, nrm_nlt, nrm_eq, nrm_neq, nrm_seq, nrm_sneq, nrm_sempty, nrm_snempty, nrm_ofNat, Bool.not_eq_true', Bool.not_eq_false'] at ht121)
              refine Ce.region ?_
              refine Ie.p rfl rfl rfl rfl ?_
              refine Ie.call _ rfl rfl rfl rfl rfl rfl (fun m hm => lower_ok hm.lole (by omega)) ?_
              refine Ie.p rfl rfl rfl rfl ?_
              refine Ie.as 132 (.int .u8 (Int.ofNat (x.toNat - 97))) rfl (congrArg (Value.int .u8) (by rw [show (97 : Int) = Int.ofNat 97 from rfl, subN (by omega), wr8 (by omega)])) ?_
              refine Ie.p rfl rfl rfl rfl ?_
              refine Ie.as 133 (.int .u8 (Int.ofNat (x.toNat - 87))) rfl (congrArg (Value.int .u8) (by rw [show Int.ofNat (x.toNat - 97) + 10 = Int.ofNat (x.toNat - 87) by simp only [Int.ofNat_eq_natCast]; omega, wr8 (by omega)])) ?_
              refine Ie.p rfl rfl rfl rfl ?_
              refine Ie.nil ?_
              refine Ne.blk ?_
              refine Ne.as 16 (.int .u8 (Int.ofNat (valN x.toNat))) rfl (congrArg (Value.int .u8) (by rw [hvx])) ?_
              exact Ne.jnx (trivial) (by repeat (first | exact trivial | refine ⟨rfl, ?_⟩)) (List.Sublist.refl _)
            · (try simp only [decide_eq_true_eq, decide_eq_false_iff_not, nrm_lt, nrm_nlt, nrm_eq, nrm_neq, nrm_seq, nrm_sneq, nrm_sempty, nrm_snempty, nrm_ofNat, Bool.not_eq_true', Bool.not_eq_false'] at ht121)
              exfalso; omega
          · (try simp only [decide_eq_true_eq, decide_eq_false_iff_not, nrm_lt, nrm_nlt, nrm_eq, nrm_neq, nrm_seq, nrm_sneq, nrm_sempty, nrm_snempty, nrm_ofNat, Bool.not_eq_true', Bool.not_eq_false'] at hs_125)
            exfalso; omega
      · (try simp only [decide_eq_true_eq, decide_eq_false_iff_not, nrm_lt, nrm_nlt, nrm_eq, nrm_neq, nrm_seq, nrm_sneq, nrm_sempty, nrm_snempty, nrm_ofNat, Bool.not_eq_true', Bool.not_eq_false'] at hs_115)
        exfalso; omega
    · refine Ce.seq ?_
      refine Ce.seq ?_
      refine Ce.region ?_
      refine Ie.p rfl rfl rfl rfl ?_
      refine Ie.p rfl rfl rfl rfl ?_
      refine Ie.convInt rfl rfl rfl rfl Tryz.underlying3 Tryz.underlying5 rfl ?_
      refine Ie.as 136 (.int .u8 (Int.ofNat (16))) rfl (congrArg (Value.int .u8) (rfl)) ?_
      refine Ie.bin (v := .bool false) rfl rfl rfl rfl rfl rfl (binS_ngeq (by simp only [Int.ofNat_eq_natCast]; omega)) ?_
      refine Ie.nil ?_
      refine Ne.seq ?_
      refine Ce.cond_false rfl ?_
      refine Ce.skip ?_
      refine Ne.seq ?_
      refine Ce.seq ?_
      refine Ce.seq ?_
      refine Ce.region ?_
      refine Ie.p rfl rfl rfl rfl ?_
      refine Ie.p rfl rfl rfl rfl ?_
      refine Ie.bin (v := .bool false) rfl rfl rfl rfl rfl rfl (binS_ngeq (by simp only [Int.ofNat_eq_natCast]; omega)) ?_
      refine Ie.nil ?_
      refine Ne.seq ?_
      refine Ce.cond_false rfl ?_
      refine Ce.skip ?_
      refine Ne.seq ?_
      refine Ce.seq ?_
      refine Ce.region ?_
      refine Ie.p rfl rfl rfl rfl ?_
      refine Ie.p rfl rfl rfl rfl ?_
      refine Ie.convInt rfl rfl rfl rfl Tryz.underlying3 Tryz.underlying65 rfl ?_
      refine Ie.p rfl rfl rfl rfl ?_
      refine Ie.as 147 (.int .u64 (Int.ofNat (valL 16 0 (l.take i) * 16))) rfl (congrArg (Value.int .u64) (mulN (b := 16) (by omega))) ?_
      refine Ie.p rfl rfl rfl rfl ?_
      refine Ie.nil ?_
      refine Ne.seq ?_
      refine Ce.seq ?_
      refine Ce.region ?_
      refine Ie.p rfl rfl rfl rfl ?_
      refine Ie.p rfl rfl rfl rfl ?_
      refine Ie.convInt rfl rfl rfl rfl Tryz.underlying5 Tryz.underlying65 rfl ?_
      refine Ie.as 150 (.int .u64 (Int.ofNat (valN x.toNat))) rfl (congrArg (Value.int .u64) (wr64 (by omega))) ?_
      refine Ie.p rfl rfl rfl rfl ?_
      refine Ie.as 151 (.int .u64 (Int.ofNat (valL 16 0 (l.take (i + 1))))) rfl (congrArg (Value.int .u64) (by rw [hN]; exact addN (by omega))) ?_
      refine Ie.p rfl rfl rfl rfl ?_
      refine Ie.nil ?_
      refine Ne.seq ?_
      refine Ce.seq ?_
      refine Ce.seq ?_
      refine Ce.region ?_
      refine Ie.p rfl rfl rfl rfl ?_
      refine Ie.p rfl rfl rfl rfl ?_
      refine Ie.p rfl rfl rfl rfl ?_
      refine Ie.as 154 (.bool false) rfl (congrArg Value.bool (by rw [ltI_eq]; exact decide_eq_false (by simp only [Int.ofNat_eq_natCast]; omega))) ?_
      refine Ie.p rfl rfl rfl rfl ?_
      refine Ie.p rfl rfl rfl rfl ?_
      refine Ie.p rfl rfl rfl rfl ?_
      refine Ie.p rfl rfl rfl rfl ?_
      refine Ie.as 158 (.bool false) rfl (congrArg Value.bool (by rw [ltI_eq]; exact decide_eq_false (by simp only [Int.ofNat_eq_natCast]; omega))) ?_
      refine Ie.p rfl rfl rfl rfl ?_
      refine Ie.nil ?_
      refine Ne.seq ?_
      refine Ce.cond_false rfl ?_
      refine Ce.skip ?_
      refine Ne.seq ?_
      refine Ce.region ?_
      refine Ie.p rfl rfl rfl rfl ?_
      refine Ie.p rfl rfl rfl rfl ?_
      refine Ie.nil ?_
      refine Ne.blk ?_
      refine Ne.seq ?_
      refine Ce.region ?_
      refine Ie.p rfl rfl rfl rfl ?_
      refine Ie.as 163 (.int .i64 (Int.ofNat (i + 1))) rfl (congrArg (Value.int .i64) (wr_succ (by omega))) ?_
      refine Ie.p rfl rfl rfl rfl ?_
      refine Ie.nil ?_
      exact Ne.loop (i + 1) (by omega) (by omega) ⟨rfl, rfl, rfl, rfl, rfl, rfl, rfl, rfl, rfl, rfl, trivial⟩ (List.Sublist.refl _)
  · (try simp only [decide_eq_true_eq, decide_eq_false_iff_not, nrm_lt, nrm_nlt, nrm_eq, nrm_neq, nrm_seq, nrm_sneq, nrm_sempty, nrm_snempty, nrm_ofNat, Bool.not_eq_true', Bool.not_eq_false'] at ht102)
    have hie : i = l.length := by omega
    subst hie
    refine Ce.exit ?_
    refine Xe.seq ?_
    refine Xe.loop ?_
    refine Xe.here ?_
    refine Ne.seq ?_
    refine Ce.seq ?_
    refine Ce.seq ?_
    refine Ce.region ?_
    refine Ie.p rfl rfl rfl rfl ?_
    refine Ie.p rfl rfl rfl rfl ?_
    refine Ie.off rfl rfl rfl ?_
    refine Ie.off rfl rfl rfl ?_
    refine Ie.off rfl rfl rfl ?_
    refine Ie.p rfl rfl rfl rfl ?_
    refine Ie.nil ?_
    refine Ne.seq ?_
    refine Ce.cond_false rfl ?_
    refine Ce.skip ?_
    refine Ne.seq ?_
    refine Ce.seq ?_
    refine Ce.region ?_
    refine Ie.p rfl rfl rfl rfl ?_
    refine Ie.p rfl rfl rfl rfl ?_
    refine Ie.p rfl rfl rfl rfl ?_
    refine Ie.nil ?_
    refine Ne.seq ?_
    refine Ce.ret ?_
    exact Re.end_ rfl rfl (fun m hm => ⟨by show Value.tuple ⟨[.int .u64 (Int.ofNat (valL 16 0 (l.take l.length))), .nilIface]⟩ = _; rw [List.take_length], hm.ext⟩)

theorem ppu_ok {l : List UInt8} {m : AW} (hm : m.lo ≤ m.next) (h0 : 0 < l.length) (hl : l.length ≤ 100) (hx : ∀ c ∈ l, hexB c) (hM : valL 16 0 l ≤ 4294967295) : Fc Tryz.prog 64 [.string ⟨⟨l⟩⟩, .int .i64 16, .int .i64 32] m fun v m' => v = .tuple ⟨[.int .u64 (Int.ofNat (valL 16 0 l)), .nilIface]⟩ ∧ Ext m m' := by
  refine Fc.body (c := _) Tryz.func64 rfl rfl rfl rfl hm ?_
  refine Ce.seq ?_
  refine Ce.region ?_
  refine Ie.p rfl rfl rfl rfl ?_
  refine Ie.p rfl rfl rfl rfl ?_
  refine Ie.nil ?_
  refine Ne.seq ?_
  refine Ce.seq ?_
  refine Ce.region ?_
  refine Ie.p rfl rfl rfl rfl ?_
  refine Ie.p rfl rfl rfl rfl ?_
  refine Ie.p rfl rfl rfl rfl ?_
  refine Ie.call _ rfl rfl rfl rfl rfl rfl (fun m hm => pu_ok hm.lole h0 hl hx hM) ?_
  refine Ie.p rfl rfl rfl rfl ?_
  refine Ie.p rfl rfl rfl rfl ?_
  refine Ie.p rfl rfl rfl rfl ?_
  refine Ie.p rfl rfl rfl rfl ?_
  refine Ie.p rfl rfl rfl rfl ?_
  refine Ie.nil ?_
  refine Ne.seq ?_
  refine Ce.seq ?_
  refine Ce.seq ?_
  refine Ce.region ?_
  refine Ie.p rfl rfl rfl rfl ?_
  refine Ie.bin (v := .bool false) rfl rfl rfl rfl rfl rfl (by kernel_rfl) ?_
  refine Ie.nil ?_
  refine Ne.seq ?_
  refine Ce.cond_false rfl ?_
  refine Ce.skip ?_
  refine Ne.seq ?_
  refine Ce.seq ?_
  refine Ce.region ?_
  refine Ie.p rfl rfl rfl rfl ?_
  refine Ie.p rfl rfl rfl rfl ?_
  refine Ie.p rfl rfl rfl rfl ?_
  refine Ie.nil ?_
  refine Ne.seq ?_
  refine Ce.ret ?_
  exact Re.end_ rfl rfl (fun m hm => ⟨rfl, hm.ext⟩)

theorem esc1_ok {K : List Nat} {T q : List UInt8} {wx at_ x i : Nat} {r8 : UInt8} {gv : Value} {m : AW} (hm : m.lo ≤ m.next) (hk : Knows K m m [(wx, .cells [.string ⟨⟨T⟩⟩, .int .i64 (Int.ofNat (at_)), gv] 50 false .plain none)]) (ha : at_ ≤ T.length) (hTl : T.length ≤ 4000) (hT : T.drop at_ = 92 :: UInt8.ofNat x :: q) (hix : (x, i) ∈ [(110, 0), (116, 1), (114, 2), (48, 3), (92, 4), (34, 6)]) (hr : ([10, 9, 13, 0, 92, 39, 34] : List UInt8)[i]? = some r8) : Fc Tryz.prog 54 [.pointer (some ⟨wx, 0, none⟩)] m fun v m' => v = .int .i32 (Int.ofNat r8.toNat) ∧ Knows K m m' [(wx, .cells [.string ⟨⟨T⟩⟩, .int .i64 (Int.ofNat (at_ + 2)), gv] 50 false .plain none)] := by
  have hlT : at_ + 2 ≤ T.length := by have h_ := congrArg List.length hT; rw [List.length_drop] at h_; simp only [List.length_cons] at h_; omega
  have hx8 : (UInt8.ofNat x).toNat = x := u8n (by simp only [List.mem_cons, Prod.mk.injEq, List.not_mem_nil, or_false] at hix; omega)
  refine Fc.bodyS (S := K) (c := _) Tryz.func54 rfl rfl rfl rfl hk ?_
  refine Ce.seq ?_
  refine Ce.region ?_
  refine Ie.p rfl rfl rfl rfl ?_
  refine Ie.nil ?_
  refine Ne.seq ?_
  refine Ce.seq ?_
  refine Ce.region ?_
  refine Ie.p rfl rfl rfl rfl ?_
  refine Ie.p rfl rfl rfl rfl ?_
  refine Ie.fieldAddr rfl rfl rfl rfl rfl fa50_0 ?_
  refine Ie.call _ rfl rfl rfl rfl rfl rfl (fun m hm => rest_ok hm.lole (⟨(hm.has wx _ (.head _)).2, (hm.has wx _ (.head _)).1⟩ : Mem m wx _) ha) ?_
  refine Ie.as 10 (.string ⟨⟨92 :: UInt8.ofNat x :: q⟩⟩) rfl (congrArg (fun z : List UInt8 => Value.string ⟨⟨z⟩⟩) (hT)) ?_
  refine Ie.p (v := .string ⟨⟨(92 :: UInt8.ofNat x :: q).drop 1⟩⟩) rfl rfl rfl (strFrom_E rfl rfl Tryz.underlying9 (Nat.succ_le_succ (Nat.zero_le _))) ?_
  refine Ie.as 11 (.string ⟨⟨UInt8.ofNat x :: q⟩⟩) rfl (congrArg (fun z : List UInt8 => Value.string ⟨⟨z⟩⟩) (rfl)) ?_
  refine Ie.p rfl rfl rfl rfl ?_
  refine Ie.nil ?_
  refine Ne.seq ?_
  refine Ce.seq ?_
  refine Ce.seq ?_
  refine Ce.region ?_
  refine Ie.p rfl rfl rfl rfl ?_
  refine Ie.p rfl rfl rfl rfl ?_
  refine Ie.as 13 (.bool false) rfl (congrArg Value.bool (str_ne (Nat.succ_pos _))) ?_
  refine Ie.nil ?_
  refine Ne.seq ?_
  refine Ce.cond_false rfl ?_
  refine Ce.skip ?_
  refine Ne.seq ?_
  refine Ce.seq ?_
  refine Ce.seq ?_
  refine Ce.region ?_
  refine Ie.p rfl rfl rfl rfl ?_
  refine Ie.indexStr rfl rfl rfl rfl Tryz.underlying9 rfl rfl (rfl) ?_
  refine Ie.as 21 (.int .u8 (Int.ofNat (x))) rfl (congrArg (Value.int .u8) (congrArg Int.ofNat hx8)) ?_
  refine Ie.call _ rfl rfl rfl rfl rfl rfl (fun m hm => ixb_ok hix) ?_
  refine Ie.p rfl rfl rfl rfl ?_
  refine Ie.nil ?_
  refine Ne.seq ?_
  refine Ce.seq ?_
  refine Ce.region ?_
  refine Ie.p rfl rfl rfl rfl ?_
  refine Ie.bin (v := .bool true) rfl rfl rfl rfl rfl rfl (binS_geq (by simp only [Int.ofNat_eq_natCast]; omega)) ?_
  refine Ie.nil ?_
  refine Ne.seq ?_
  refine Ce.cond_true rfl ?_
  refine Ce.seq ?_
  refine Ce.region ?_
  refine Ie.p rfl rfl rfl rfl ?_
  refine Ie.p rfl rfl rfl rfl ?_
  refine Ie.fieldAddr rfl rfl rfl rfl rfl fa50_0 ?_
  refine Ie.fieldAddr rfl rfl rfl rfl rfl fa48_1 ?_
  refine Ie.load rfl rfl rfl rfl rfl ag3 (by first | exact .head | exact .tail .head | exact .tail (.tail .head) | exact .tail (.tail (.tail .head)) | exact .tail (.tail (.tail (.tail .head))) | exact .app .head | exact .app (.tail .head) | exact .app (.tail (.tail .head)) | exact .app (.tail (.tail (.tail .head))) | exact .base ‹_› ‹_› (by simp)) rfl ?_
  refine Ie.p rfl rfl rfl rfl ?_
  refine Ie.as 30 (.int .i64 (Int.ofNat (at_ + 2))) rfl (congrArg (Value.int .i64) (addI (a := at_) (b := 2) (by omega))) ?_
  refine Ie.p rfl rfl rfl rfl ?_
  refine Ie.fieldAddr rfl rfl rfl rfl rfl fa50_0 ?_
  refine Ie.fieldAddr rfl rfl rfl rfl rfl fa48_1 ?_
  refine Ie.store rfl rfl rfl rfl rfl sz3 rfl (by first | exact .head | exact .tail .head | exact .tail (.tail .head) | exact .tail (.tail (.tail .head)) | exact updo) rfl ?_
  refine Ie.nil ?_
  refine Ne.seq ?_
  refine Ce.seq ?_
  refine Ce.region ?_
  refine Ie.p rfl rfl rfl rfl ?_
  refine Ie.indexStr rfl rfl rfl rfl Tryz.underlying9 rfl rfl (hr) ?_
  refine Ie.convInt rfl rfl rfl rfl Tryz.underlying5 Tryz.underlying21 rfl ?_
  refine Ie.as 36 (.int .i32 (Int.ofNat (r8.toNat))) rfl (congrArg (Value.int .i32) (wr32 (by have h_ := UInt8.toNat_lt r8; omega))) ?_
  refine Ie.p rfl rfl rfl rfl ?_
  refine Ie.nil ?_
  refine Ne.seq ?_
  refine Ce.ret ?_
  refine Re.seq ?_
  exact Re.end_ rfl rfl (fun m hm => ⟨rfl, hm⟩)

theorem esc2_ok {K : List Nat} {T q : List UInt8} {wx at_ : Nat} {h1 h2 : UInt8} {gv : Value} {m : AW} (hm : m.lo ≤ m.next) (hk : Knows K m m [(wx, .cells [.string ⟨⟨T⟩⟩, .int .i64 (Int.ofNat (at_)), gv] 50 false .plain none)]) (ha : at_ ≤ T.length) (hTl : T.length ≤ 4000) (hT : T.drop at_ = 92 :: 117 :: 48 :: 48 :: h1 :: h2 :: q) (hh1 : hexB h1) (hh2 : hexB h2) (hn1 : h1 ≠ 95) (hn2 : h2 ≠ 95) (hlay : LaidAt lays m) (hK : ∀ p ∈ lays, p.1 ∉ K) : Fc Tryz.prog 54 [.pointer (some ⟨wx, 0, none⟩)] m fun v m' => v = .int .i32 (Int.ofNat (valN h1.toNat * 16 + valN h2.toNat)) ∧ Knows K m m' [(wx, .cells [.string ⟨⟨T⟩⟩, .int .i64 (Int.ofNat (at_ + 6)), gv] 50 false .plain none)] := by
  have hlT : at_ + 6 ≤ T.length := by have h_ := congrArg List.length hT; rw [List.length_drop] at h_; simp only [List.length_cons] at h_; omega
  have hv1 := hexB_val hh1
  have hv2 := hexB_val hh2
  have hval : valL 16 0 [48, 48, h1, h2] = valN h1.toNat * 16 + valN h2.toNat := by show ((((0 * 16 + 0) * 16 + 0) * 16 + valN h1.toNat) * 16 + valN h2.toNat) = _; omega
  have hx4 : ∀ c ∈ [48, 48, h1, h2], hexB c := fun c hc => by simp only [List.mem_cons, List.not_mem_nil, or_false] at hc; rcases hc with rfl | rfl | rfl | rfl; (exact .inl (by decide)); (exact .inl (by decide)); (exact hh1); exact hh2
  have hu4 : ∀ c ∈ [48, 48, h1, h2], c ≠ 95 := fun c hc => by simp only [List.mem_cons, List.not_mem_nil, or_false] at hc; rcases hc with rfl | rfl | rfl | rfl; (decide); (decide); (exact hn1); exact hn2
  refine Fc.bodyS (S := K) (c := _) Tryz.func54 rfl rfl rfl rfl hk ?_
  refine Ce.seq ?_
  refine Ce.region ?_
  refine Ie.p rfl rfl rfl rfl ?_
  refine Ie.nil ?_
  refine Ne.seq ?_
  refine Ce.seq ?_
  refine Ce.region ?_
  refine Ie.p rfl rfl rfl rfl ?_
  refine Ie.p rfl rfl rfl rfl ?_
  refine Ie.fieldAddr rfl rfl rfl rfl rfl fa50_0 ?_
  refine Ie.call _ rfl rfl rfl rfl rfl rfl (fun m hm => rest_ok hm.lole (⟨(hm.has wx _ (.head _)).2, (hm.has wx _ (.head _)).1⟩ : Mem m wx _) ha) ?_
  refine Ie.as 10 (.string ⟨⟨92 :: 117 :: 48 :: 48 :: h1 :: h2 :: q⟩⟩) rfl (congrArg (fun z : List UInt8 => Value.string ⟨⟨z⟩⟩) (hT)) ?_
  refine Ie.p (v := .string ⟨⟨(92 :: 117 :: 48 :: 48 :: h1 :: h2 :: q).drop 1⟩⟩) rfl rfl rfl (strFrom_E rfl rfl Tryz.underlying9 (Nat.succ_le_succ (Nat.zero_le _))) ?_
  refine Ie.as 11 (.string ⟨⟨117 :: 48 :: 48 :: h1 :: h2 :: q⟩⟩) rfl (congrArg (fun z : List UInt8 => Value.string ⟨⟨z⟩⟩) (rfl)) ?_
  refine Ie.p rfl rfl rfl rfl ?_
  refine Ie.nil ?_
  refine Ne.seq ?_
  refine Ce.seq ?_
  refine Ce.seq ?_
  refine Ce.region ?_
  refine Ie.p rfl rfl rfl rfl ?_
  refine Ie.p rfl rfl rfl rfl ?_
  refine Ie.as 13 (.bool false) rfl (congrArg Value.bool (str_ne (Nat.succ_pos _))) ?_
  refine Ie.nil ?_
  refine Ne.seq ?_
  refine Ce.cond_false rfl ?_
  refine Ce.skip ?_
  refine Ne.seq ?_
  refine Ce.seq ?_
  refine Ce.seq ?_
  refine Ce.region ?_
  refine Ie.p rfl rfl rfl rfl ?_
  refine Ie.indexStr rfl rfl rfl rfl Tryz.underlying9 rfl rfl (rfl) ?_
  refine Ie.call _ rfl rfl rfl rfl rfl rfl (fun m hm => ixb_no) ?_
  refine Ie.p rfl rfl rfl rfl ?_
  refine Ie.nil ?_
  refine Ne.seq ?_
  refine Ce.seq ?_
  refine Ce.region ?_
  refine Ie.p rfl rfl rfl rfl ?_
  refine Ie.p rfl rfl rfl rfl ?_
  refine Ie.as 24 (.bool false) rfl (congrArg Value.bool (rfl)) ?_
  refine Ie.nil ?_
  refine Ne.seq ?_
  refine Ce.cond_false rfl ?_
  refine Ce.skip ?_
  refine Ne.seq ?_
  refine Ce.seq ?_
  refine Ce.seq ?_
  refine Ce.region ?_
  refine Ie.p rfl rfl rfl rfl ?_
  refine Ie.indexStr rfl rfl rfl rfl Tryz.underlying9 rfl rfl (rfl) ?_
  refine Ie.p rfl rfl rfl rfl ?_
  refine Ie.as 39 (.bool false) rfl (congrArg Value.bool (rfl)) ?_
  refine Ie.p rfl rfl rfl rfl ?_
  refine Ie.p rfl rfl rfl rfl ?_
  refine Ie.len rfl rfl rfl rfl rfl (ln9 ..) ?_
  refine Ie.p rfl rfl rfl rfl ?_
  refine Ie.as 43 (.bool false) rfl (congrArg Value.bool (by rw [ltI_eq]; exact decide_eq_false (by show ¬ Int.ofNat (q.length + 5) < 5; simp only [Int.ofNat_eq_natCast]; omega))) ?_
  refine Ie.p rfl rfl rfl rfl ?_
  refine Ie.p rfl rfl rfl rfl ?_
  refine Ie.p rfl rfl rfl rfl ?_
  refine Ie.p (v := .string ⟨⟨[48, 48, h1, h2]⟩⟩) rfl rfl rfl (strMid_E (l := 117 :: 48 :: 48 :: h1 :: h2 :: q) (a := 1) (b := 5) rfl rfl rfl Tryz.underlying9 (by decide) (by show 5 ≤ q.length + 5; omega)) ?_
  refine Ie.call _ rfl rfl rfl rfl rfl rfl (fun m hm => contains_ok (k := ⟨⟨[48, 48, h1, h2]⟩⟩) (by show 4 < 4294967281; decide) (hlay.krS hK hm)) ?_
  refine Ie.as 48 (.bool false) rfl (congrArg Value.bool (no_under hu4)) ?_
  refine Ie.p rfl rfl rfl rfl ?_
  refine Ie.nil ?_
  refine Ne.seq ?_
  refine Ce.cond_false rfl ?_
  refine Ce.skip ?_
  refine Ne.seq ?_
  refine Ce.seq ?_
  refine Ce.region ?_
  refine Ie.p rfl rfl rfl rfl ?_
  refine Ie.p (v := .string ⟨⟨[48, 48, h1, h2]⟩⟩) rfl rfl rfl (strMid_E (l := 117 :: 48 :: 48 :: h1 :: h2 :: q) (a := 1) (b := 5) rfl rfl rfl Tryz.underlying9 (by decide) (by show 5 ≤ q.length + 5; omega)) ?_
  refine Ie.call _ rfl rfl rfl rfl rfl rfl (fun m hm => ppu_ok hm.lole (l := [48, 48, h1, h2]) (Nat.succ_pos _) (by show 4 ≤ 100; decide) hx4 (by omega)) ?_
  refine Ie.p rfl rfl rfl rfl ?_
  refine Ie.p rfl rfl rfl rfl ?_
  refine Ie.as 60 (.int .u64 (Int.ofNat (valN h1.toNat * 16 + valN h2.toNat))) rfl (congrArg (Value.int .u64) (congrArg Int.ofNat hval)) ?_
  refine Ie.p rfl rfl rfl rfl ?_
  refine Ie.p rfl rfl rfl rfl ?_
  refine Ie.p rfl rfl rfl rfl ?_
  refine Ie.nil ?_
  refine Ne.seq ?_
  refine Ce.seq ?_
  refine Ce.seq ?_
  refine Ce.region ?_
  refine Ie.p rfl rfl rfl rfl ?_
  refine Ie.bin (v := .bool false) rfl rfl rfl rfl rfl rfl (by kernel_rfl) ?_
  refine Ie.nil ?_
  refine Ne.seq ?_
  refine Ce.cond_false rfl ?_
  refine Ce.skip ?_
  refine Ne.seq ?_
  refine Ce.seq ?_
  refine Ce.seq ?_
  refine Ce.region ?_
  refine Ie.p rfl rfl rfl rfl ?_
  refine Ie.bin (v := .bool false) rfl rfl rfl rfl rfl rfl (binS_ngeq (by simp only [Int.ofNat_eq_natCast]; omega)) ?_
  refine Ie.p rfl rfl rfl rfl ?_
  refine Ie.off rfl rfl rfl ?_
  refine Ie.off rfl rfl rfl ?_
  refine Ie.p rfl rfl rfl rfl ?_
  refine Ie.nil ?_
  refine Ne.seq ?_
  refine Ce.cond_false rfl ?_
  refine Ce.skip ?_
  refine Ne.seq ?_
  refine Ce.seq ?_
  refine Ce.region ?_
  refine Ie.p rfl rfl rfl rfl ?_
  refine Ie.p rfl rfl rfl rfl ?_
  refine Ie.fieldAddr rfl rfl rfl rfl rfl fa50_0 ?_
  refine Ie.fieldAddr rfl rfl rfl rfl rfl fa48_1 ?_
  refine Ie.load rfl rfl rfl rfl rfl ag3 (by first | exact .head | exact .tail .head | exact .tail (.tail .head) | exact .tail (.tail (.tail .head)) | exact .tail (.tail (.tail (.tail .head))) | exact .app .head | exact .app (.tail .head) | exact .app (.tail (.tail .head)) | exact .app (.tail (.tail (.tail .head))) | exact .base ‹_› ‹_› (by simp)) rfl ?_
  refine Ie.p rfl rfl rfl rfl ?_
  refine Ie.as 87 (.int .i64 (Int.ofNat (at_ + 6))) rfl (congrArg (Value.int .i64) (addI (a := at_) (b := 6) (by omega))) ?_
  refine Ie.p rfl rfl rfl rfl ?_
  refine Ie.fieldAddr rfl rfl rfl rfl rfl fa50_0 ?_
  refine Ie.fieldAddr rfl rfl rfl rfl rfl fa48_1 ?_
  refine Ie.store rfl rfl rfl rfl rfl sz3 rfl (by first | exact .head | exact .tail .head | exact .tail (.tail .head) | exact .tail (.tail (.tail .head)) | exact updo) rfl ?_
  refine Ie.nil ?_
  refine Ne.seq ?_
  refine Ce.seq ?_
  refine Ce.region ?_
  refine Ie.p rfl rfl rfl rfl ?_
  refine Ie.convInt rfl rfl rfl rfl Tryz.underlying65 Tryz.underlying21 rfl ?_
  refine Ie.as 92 (.int .i32 (Int.ofNat (valN h1.toNat * 16 + valN h2.toNat))) rfl (congrArg (Value.int .i32) (wr32 (by omega))) ?_
  refine Ie.p rfl rfl rfl rfl ?_
  refine Ie.nil ?_
  refine Ne.seq ?_
  refine Ce.ret ?_
  exact Re.end_ rfl rfl (fun m hm => ⟨rfl, hm⟩)

theorem esc_ok {K : List Nat} {T q : List UInt8} {wx at_ r : Nat} {gv : Value} {m : AW} (hm : m.lo ≤ m.next) (hk : Knows K m m [(wx, .cells [.string ⟨⟨T⟩⟩, .int .i64 (Int.ofNat (at_)), gv] 50 false .plain none)]) (ha : at_ ≤ T.length) (hTl : T.length ≤ 4000) (hr : escd r) (hT : T.drop at_ = escN r ++ q) (hlay : LaidAt lays m) (hK : ∀ p ∈ lays, p.1 ∉ K) : Fc Tryz.prog 54 [.pointer (some ⟨wx, 0, none⟩)] m fun v m' => v = .int .i32 (Int.ofNat r) ∧ Knows K m m' [(wx, .cells [.string ⟨⟨T⟩⟩, .int .i64 (Int.ofNat (at_ + (escN r).length)), gv] 50 false .plain none)] := by
  by_cases h1 : r = 34
  · subst h1
    exact esc1_ok (x := 34) (i := 6) (r8 := 34) hm hk ha hTl hT (by decide) rfl
  by_cases h2 : r = 92
  · subst h2
    exact esc1_ok (x := 92) (i := 4) (r8 := 92) hm hk ha hTl hT (by decide) rfl
  by_cases h3 : r = 10
  · subst h3
    exact esc1_ok (x := 110) (i := 0) (r8 := 10) hm hk ha hTl hT (by decide) rfl
  by_cases h4 : r = 9
  · subst h4
    exact esc1_ok (x := 116) (i := 1) (r8 := 9) hm hk ha hTl hT (by decide) rfl
  by_cases h5 : r = 13
  · subst h5
    exact esc1_ok (x := 114) (i := 2) (r8 := 13) hm hk ha hTl hT (by decide) rfl
  by_cases h6 : r = 0
  · subst h6
    exact esc1_ok (x := 48) (i := 3) (r8 := 0) hm hk ha hTl hT (by decide) rfl
  have hrr : r < 32 ∨ r = 127 := by
    unfold escd at hr
    omega
  have he : escN r = [92, 117, 48, 48, hexC (r / 16), hexC (r % 16)] := by
    unfold escN
    rw [if_neg (by omega), if_neg h3, if_neg h4, if_neg h5, if_neg h6, if_pos hrr]
  rw [he] at hT ⊢
  obtain ⟨a1, a2, a3⟩ := hexC_ok (r / 16) (by omega)
  obtain ⟨b1, b2, b3⟩ := hexC_ok (r % 16) (by omega)
  have hf := esc2_ok (K := K) (h1 := hexC (r / 16)) (h2 := hexC (r % 16)) hm hk ha hTl hT a1 b1 a3 b3 hlay hK
  rw [a2, b2, show r / 16 * 16 + r % 16 = r by omega] at hf
  exact hf

theorem lit_ok {K R : List Nat} {T rest : List UInt8} {wx at_ : Nat} {gv : Value} {m : AW} (hm : m.lo ≤ m.next) (hk : Knows K m m [(wx, .cells [.string ⟨⟨T⟩⟩, .int .i64 (Int.ofNat (at_)), gv] 50 false .plain none)]) (ha : at_ ≤ T.length) (hTl : T.length ≤ 4000) (hT : T.drop at_ = 34 :: (escL R ++ 34 :: rest)) (hR : ∀ r ∈ R, okR r) (hlay : LaidAt lays m) (hK : ∀ p ∈ lays, p.1 ∉ K) : Fc Tryz.prog 45 [.pointer (some ⟨wx, 0, none⟩), .int .i32 34] m fun v m' => ∃ x : Gro × List Value, (Flat 1 RRune R x.2 ∧ x.1.Ok R.length) ∧ v = x.1.V R.length ∧ Knows K m m' (x.1.H 21 x.2 ++ [(wx, .cells [.string ⟨⟨T⟩⟩, .int .i64 (Int.ofNat (litP at_ R (R.length) + 1)), gv] 50 false .plain none)]) := by
  have hwK : wx ∈ K := by rcases (hk.has wx _ (.head _)).2.2 with h | h; (exact absurd (hk.has wx _ (.head _)).2.1 (by omega)); exact h
  have hKw : ∀ p ∈ lays, p.1 ∉ [wx] := fun p hp h => by rw [List.mem_singleton] at h; exact hK p hp (h ▸ hwK)
  have hTlen := congrArg List.length hT
  rw [List.length_drop, List.length_cons, List.length_append, List.length_cons] at hTlen
  have hRle := escL_le R
  refine Fc.bodyS (S := K) (c := _) Tryz.func45 rfl rfl rfl rfl hk ?_
  refine Ce.seq ?_
  refine Ce.region ?_
  refine Ie.p rfl rfl rfl rfl ?_
  refine Ie.nil ?_
  refine Ne.seq ?_
  refine Ce.seq ?_
  refine Ce.region ?_
  refine Ie.p rfl rfl rfl rfl ?_
  refine Ie.p rfl rfl rfl rfl ?_
  refine Ie.fieldAddr rfl rfl rfl rfl rfl fa50_0 ?_
  refine Ie.fieldAddr rfl rfl rfl rfl rfl fa48_1 ?_
  refine Ie.load rfl rfl rfl rfl rfl ag3 (by first | exact .head | exact .tail .head | exact .tail (.tail .head) | exact .tail (.tail (.tail .head)) | exact .tail (.tail (.tail (.tail .head))) | exact .app .head | exact .app (.tail .head) | exact .app (.tail (.tail .head)) | exact .app (.tail (.tail (.tail .head))) | exact .base ‹_› ‹_› (by simp)) rfl ?_
  refine Ie.p rfl rfl rfl rfl ?_
  refine Ie.nil ?_
  refine Ne.seq ?_
  refine Ce.seq ?_
  refine Ce.region ?_
  refine Ie.p rfl rfl rfl rfl ?_
  refine Ie.p rfl rfl rfl rfl ?_
  refine Ie.fieldAddr rfl rfl rfl rfl rfl fa50_0 ?_
  refine Ie.fieldAddr rfl rfl rfl rfl rfl fa48_1 ?_
  refine Ie.load rfl rfl rfl rfl rfl ag3 (by first | exact .head | exact .tail .head | exact .tail (.tail .head) | exact .tail (.tail (.tail .head)) | exact .tail (.tail (.tail (.tail .head))) | exact .app .head | exact .app (.tail .head) | exact .app (.tail (.tail .head)) | exact .app (.tail (.tail (.tail .head))) | exact .base ‹_› ‹_› (by simp)) rfl ?_
  refine Ie.p rfl rfl rfl rfl ?_
  refine Ie.as 19 (.int .i64 (Int.ofNat (at_ + 1))) rfl (congrArg (Value.int .i64) (addI (a := at_) (b := 1) (by omega))) ?_
  refine Ie.p rfl rfl rfl rfl ?_
  refine Ie.fieldAddr rfl rfl rfl rfl rfl fa50_0 ?_
  refine Ie.fieldAddr rfl rfl rfl rfl rfl fa48_1 ?_
  refine Ie.store rfl rfl rfl rfl rfl sz3 rfl .head rfl ?_
  refine Ie.nil ?_
  refine Ne.seq ?_
  refine Ce.seq ?_
  refine Ce.region ?_
  refine Ie.p rfl rfl rfl rfl ?_
  refine Ie.nil ?_
  refine Ne.seq ?_
  refine Ce.seq ?_
  refine Ce.block ?_
 
  refine Ce.loop (α := Nat × Gro × List Value) (fun q => [(0, .pointer (some ⟨wx, 0, none⟩)), (1, .int .i32 34), (5, .int .i64 (Int.ofNat (at_))), (6, q.2.1.V q.1)]) (fun q => q.2.1.H 21 q.2.2 ++ [(wx, .cells [.string ⟨⟨T⟩⟩, .int .i64 (Int.ofNat (litP at_ R (q.1))), gv] 50 false .plain none)]) (fun q => q.1 ≤ R.length ∧ Flat 1 RRune (R.take q.1) q.2.2 ∧ q.2.1.Ok q.1) (fun q => R.length - q.1) (0, .no, []) ⟨Nat.zero_le _, Flat.nil, rfl⟩ ⟨rfl, rfl, rfl, rfl, trivial⟩ (List.Sublist.refl _) (fun q hq0 => ?_)
  obtain ⟨i, g_, cs_⟩ := q
  obtain ⟨hi, hF, hO⟩ := hq0
  simp only at hi hF hO
  have hti : (R.take i).length = i := by rw [List.length_take]; omega
  obtain ⟨c, q, hc, hq, hcase⟩ := lit_case hR hi rest
  have hdr := lit_drop (i := i) hT
  have hPl : T.length - litP at_ R (i) = (escL (R.drop i) ++ 34 :: rest).length := by rw [← List.length_drop, hdr]
  have hPl2 := hPl
  rw [hq, List.length_append] at hPl2
  have hep := encN_pos c
  rw [List.length_append, List.length_cons] at hPl
  refine Ce.seq ?_
  refine Ce.seq ?_
  refine Ce.region ?_
  refine Ie.p rfl rfl rfl rfl ?_
  refine Ie.p rfl rfl rfl rfl ?_
  refine Ie.fieldAddr rfl rfl rfl rfl rfl fa50_0 ?_
  refine Ie.call _ rfl rfl rfl rfl rfl rfl (fun m hm => done_ok hm.lole (⟨(hm.has wx _ (List.mem_append_right _ (.head _))).2, (hm.has wx _ (List.mem_append_right _ (.head _))).1⟩ : Mem m wx _)) ?_
  refine Ie.as 26 (.bool false) rfl (congrArg Value.bool (decide_eq_false (show ¬ T.length ≤ litP at_ R i by omega))) ?_
  refine Ie.p rfl rfl rfl rfl ?_
  refine Ie.nil ?_
  refine Ne.seq ?_
  refine Ce.cond_true (rfl) ?_
  refine Ce.skip ?_
  refine Ne.seq ?_
  refine Ce.block ?_
  refine Ce.seq ?_
  refine Ce.region ?_
  refine Ie.p rfl rfl rfl rfl ?_
  refine Ie.p rfl rfl rfl rfl ?_
  refine Ie.fieldAddr rfl rfl rfl rfl rfl fa50_0 ?_
  refine Ie.call _ rfl rfl rfl rfl rfl rfl (fun m hm => char_ok hm.lole (⟨(hm.has wx _ (List.mem_append_right _ (.head _))).2, (hm.has wx _ (List.mem_append_right _ (.head _))).1⟩ : Mem m wx _) (show litP at_ R i ≤ T.length by omega) (hdr.trans hq) hc (hlay.krS hK hm)) ?_
  refine Ie.p rfl rfl rfl rfl ?_
  refine Ie.p rfl rfl rfl rfl ?_
  refine Ie.p rfl rfl rfl rfl ?_
  refine Ie.p rfl rfl rfl rfl ?_
  refine Ie.p rfl rfl rfl rfl ?_
  refine Ie.nil ?_
  refine Ne.seq ?_
  refine Ce.seq ?_
  refine Ce.block ?_
  refine Ce.seq ?_
  refine Ce.region ?_
  refine Ie.p rfl rfl rfl rfl ?_
  refine Ie.p rfl rfl rfl rfl ?_
  refine Ie.p rfl rfl rfl rfl ?_
  refine Ie.p rfl rfl rfl rfl ?_
  refine Ie.nil ?_
  refine Ne.seq ?_
  refine Ce.cond rfl (fun ht35 => ?_) (fun ht35 => ?_)
  · (try simp only [decide_eq_true_eq, decide_eq_false_iff_not, nrm_lt, nrm_nlt, nrm_eq, nrm_neq, nrm_seq, nrm_sneq, nrm_sempty, nrm_snempty, nrm_ofNat, Bool.not_eq_true', Bool.not_eq_false'] at ht35)
    have hiR : i = R.length := by rcases hcase with ⟨_, h⟩ | ⟨h, _⟩ | ⟨h, h2, _⟩; (exact h); (omega); exact absurd (.inl (by omega)) h2
    subst hiR
    rw [List.take_length] at hF
    refine Ce.seq ?_
    refine Ce.region ?_
    refine Ie.p rfl rfl rfl rfl ?_
    refine Ie.p rfl rfl rfl rfl ?_
    refine Ie.fieldAddr rfl rfl rfl rfl rfl fa50_0 ?_
    refine Ie.fieldAddr rfl rfl rfl rfl rfl fa48_1 ?_
    refine Ie.load rfl rfl rfl rfl rfl ag3 (by first | exact .head | exact .tail .head | exact .tail (.tail .head) | exact .tail (.tail (.tail .head)) | exact .tail (.tail (.tail (.tail .head))) | exact .app .head | exact .app (.tail .head) | exact .app (.tail (.tail .head)) | exact .app (.tail (.tail (.tail .head))) | exact .base ‹_› ‹_› (by simp)) rfl ?_
    refine Ie.p rfl rfl rfl rfl ?_
    refine Ie.as 44 (.int .i64 (Int.ofNat (litP at_ R (R.length) + 1))) rfl (congrArg (Value.int .i64) (addI (a := litP at_ R (R.length)) (b := 1) (by omega))) ?_
    refine Ie.p rfl rfl rfl rfl ?_
    refine Ie.fieldAddr rfl rfl rfl rfl rfl fa50_0 ?_
    refine Ie.fieldAddr rfl rfl rfl rfl rfl fa48_1 ?_
    refine Ie.store rfl rfl rfl rfl rfl sz3 rfl (Upd.app .head) rfl ?_
    refine Ie.nil ?_
    refine Ne.seq ?_
    refine Ce.seq ?_
    refine Ce.region ?_
    refine Ie.p rfl rfl rfl rfl ?_
    refine Ie.p rfl rfl rfl rfl ?_
    refine Ie.nil ?_
    refine Ne.seq ?_
    refine Ce.ret ?_
    refine Re.blk ?_
    refine Re.seq ?_
    refine Re.blk ?_
    refine Re.loop ?_
    refine Re.blk ?_
    refine Re.seq ?_
    exact Re.end_ rfl rfl (fun m hm => ⟨(g_, cs_), ⟨hF, hO⟩, rfl, hm⟩)
  · (try simp only [decide_eq_true_eq, decide_eq_false_iff_not, nrm_lt, nrm_nlt, nrm_eq, nrm_neq, nrm_seq, nrm_sneq, nrm_sempty, nrm_snempty, nrm_ofNat, Bool.not_eq_true', Bool.not_eq_false'] at ht35)
    refine Ce.seq ?_
    refine Ce.region ?_
    refine Ie.p rfl rfl rfl rfl ?_
    refine Ie.p rfl rfl rfl rfl ?_
    refine Ie.p rfl rfl rfl rfl ?_
    refine Ie.nil ?_
    refine Ne.seq ?_
    refine Ce.cond rfl (fun ht49 => ?_) (fun ht49 => ?_)
    · (try simp only [decide_eq_true_eq, decide_eq_false_iff_not, nrm_lt, nrm_nlt, nrm_eq, nrm_neq, nrm_seq, nrm_sneq, nrm_sempty, nrm_snempty, nrm_ofNat, Bool.not_eq_true', Bool.not_eq_false'] at ht49)
      obtain ⟨r, hri, hrd, hre⟩ : ∃ r, R[i]? = some r ∧ escd r ∧ escL (R.drop i) ++ 34 :: rest = escN r ++ (escL (R.drop (i + 1)) ++ 34 :: rest) := by rcases hcase with ⟨h, _⟩ | ⟨_, h⟩ | ⟨h, h2, _⟩; (omega); (exact h); exact absurd (.inr (.inl (by omega))) h2
      have hilt := (List.getElem?_eq_some_iff.1 hri).1
      refine Ce.seq ?_
      refine Ce.region ?_
      refine Ie.p rfl rfl rfl rfl ?_
      refine Ie.as 52 (g_.V (R.take i).length) rfl (by rw [hti]) ?_
      refine Ie.p rfl rfl rfl rfl ?_
      refine Ie.callc (fun _ => True) (fun _ : Unit => .int .i32 (Int.ofNat (r))) (fun _ => [(wx, .cells [.string ⟨⟨T⟩⟩, .int .i64 (Int.ofNat (litP at_ R (i) + (escN r).length)), gv] 50 false .plain none)]) (.over .one) rfl rfl rfl rfl rfl rfl (fun m2 k1_ g2_ => (esc_ok k1_.lole' g2_ (show litP at_ R i ≤ T.length by omega) hTl hrd (hdr.trans hre) (hlay.krS hK k1_.kr) hKw).mono fun _ _ ⟨e1_, e2_⟩ => ⟨(), trivial, e1_, e2_⟩) (fun _ _ => ?_)
      refine Ie.buildSlice rfl rfl rfl rfl rfl (bs78_1 ..) (fun b55 hb55 => ?_)
      refine Ie.appendSl (R := RRune) (l0 := (R.take i)) (l := [r]) (L := (R.take (i + 1))) (g := g_) (cs := cs_) (take_succ' hri).symm (.tail (.tail (show Pick (g_.H 21 cs_ ++ []) _ _ from .here))) hF (by rw [hti]; exact hO) (Sl.single (R := RRune) (x := r) (b := b55) (c := 1) (el := 21) (g := false) (md := .plain) (mate := none) rfl rfl) (InH.sees (by intro p_ hp_; rw [List.mem_singleton.1 hp_]; exact List.mem_cons_self)) RRune.flats ((by rw [hti, List.length_singleton]; omega)) rfl rfl rfl rfl Tryz.underlying78 Tryz.underlying78 ap21 rfl rfl (fun g1 cs1 hF1 hO1 => ?_)
      refine Ie.as 56 (g1.V (i + 1)) rfl (by rw [List.length_take, show min (i + 1) R.length = i + 1 by omega]) ?_
      refine Ie.p rfl rfl rfl rfl ?_
      refine Ie.nil ?_
      refine Ne.seq ?_
      refine Ce.exit ?_
      refine Xe.blk rfl ?_
      refine Xe.seq ?_
      refine Xe.here ?_
      exact Ne.loop (i + 1, g1, cs1) ⟨by show i + 1 ≤ R.length; omega, hF1, by show g1.Ok (i + 1); rw [show i + 1 = (R.take (i + 1)).length by rw [List.length_take]; omega]; exact hO1⟩ (by show R.length - (i + 1) < R.length - i; omega) ⟨rfl, rfl, rfl, rfl, trivial⟩ (by rw [litP_step hri]; exact List.Sublist.append_left (.cons _ (List.Sublist.refl _)) _)
    · (try simp only [decide_eq_true_eq, decide_eq_false_iff_not, nrm_lt, nrm_nlt, nrm_eq, nrm_neq, nrm_seq, nrm_sneq, nrm_sempty, nrm_snempty, nrm_ofNat, Bool.not_eq_true', Bool.not_eq_false'] at ht49)
      obtain ⟨hri, hne, hce⟩ : R[i]? = some c ∧ ¬ escd c ∧ escN c = encN c := by rcases hcase with ⟨h, _⟩ | ⟨h, _⟩ | h; (omega); (omega); exact h
      have hilt := (List.getElem?_eq_some_iff.1 hri).1
      have hne1 : ¬ c < 32 := fun h => hne (.inr (.inr (.inl h)))
      have hne2 : c ≠ 127 := fun h => hne (.inr (.inr (.inr h)))
      refine Ce.seq ?_
      refine Ce.region ?_
      refine Ie.p rfl rfl rfl rfl ?_
      refine Ie.p rfl rfl rfl rfl ?_
      refine Ie.as 59 (.bool false) rfl (congrArg Value.bool (by rw [eqI_eq]; exact decide_eq_false (fun h => by simp only [Int.ofNat_eq_natCast] at h; omega))) ?_
      refine Ie.p rfl rfl rfl rfl ?_
      refine Ie.nil ?_
      refine Ne.seq ?_
      refine Ce.cond_false rfl ?_
      refine Ce.seq ?_
      refine Ce.region ?_
      refine Ie.p rfl rfl rfl rfl ?_
      refine Ie.p rfl rfl rfl rfl ?_
      refine Ie.as 64 (.bool false) rfl (congrArg Value.bool (by rw [ltI_eq]; exact decide_eq_false (by simp only [Int.ofNat_eq_natCast]; omega))) ?_
      refine Ie.p rfl rfl rfl rfl ?_
      refine Ie.p rfl rfl rfl rfl ?_
      refine Ie.p rfl rfl rfl rfl ?_
      refine Ie.as 67 (.bool false) rfl (congrArg Value.bool (by rw [eqI_eq]; exact decide_eq_false (fun h => by simp only [Int.ofNat_eq_natCast] at h; omega))) ?_
      refine Ie.p rfl rfl rfl rfl ?_
      refine Ie.p rfl rfl rfl rfl ?_
      refine Ie.nil ?_
      refine Ne.seq ?_
      refine Ce.cond_false rfl ?_
      refine Ce.skip ?_
      refine Ne.blk ?_
      refine Ne.seq ?_
      refine Ce.seq ?_
      refine Ce.region ?_
      refine Ie.p rfl rfl rfl rfl ?_
      refine Ie.as 75 (g_.V (R.take i).length) rfl (by rw [hti]) ?_
      refine Ie.p rfl rfl rfl rfl ?_
      refine Ie.buildSlice rfl rfl rfl rfl rfl (bs78_1 ..) (fun b77 hb77 => ?_)
      refine Ie.appendSl (R := RRune) (l0 := (R.take i)) (l := [c]) (L := (R.take (i + 1))) (g := g_) (cs := cs_) (take_succ' hri).symm (.tail .here) hF (by rw [hti]; exact hO) (Sl.single (R := RRune) (x := c) (b := b77) (c := 1) (el := 21) (g := false) (md := .plain) (mate := none) rfl rfl) (InH.sees (by intro p_ hp_; rw [List.mem_singleton.1 hp_]; exact List.mem_cons_self)) RRune.flats ((by rw [hti, List.length_singleton]; omega)) rfl rfl rfl rfl Tryz.underlying78 Tryz.underlying78 ap21 rfl rfl (fun g1 cs1 hF1 hO1 => ?_)
      refine Ie.as 78 (g1.V (i + 1)) rfl (by rw [List.length_take, show min (i + 1) R.length = i + 1 by omega]) ?_
      refine Ie.p rfl rfl rfl rfl ?_
      refine Ie.nil ?_
      refine Ne.seq ?_
      refine Ce.region ?_
      refine Ie.p rfl rfl rfl rfl ?_
      refine Ie.p rfl rfl rfl rfl ?_
      refine Ie.fieldAddr rfl rfl rfl rfl rfl fa50_0 ?_
      refine Ie.fieldAddr rfl rfl rfl rfl rfl fa48_1 ?_
      refine Ie.load rfl rfl rfl rfl rfl ag3 (by first | exact .head | exact .tail .head | exact .tail (.tail .head) | exact .tail (.tail (.tail .head)) | exact .tail (.tail (.tail (.tail .head))) | exact .app .head | exact .app (.tail .head) | exact .app (.tail (.tail .head)) | exact .app (.tail (.tail (.tail .head))) | exact .base ‹_› ‹_› (by simp)) rfl ?_
      refine Ie.p rfl rfl rfl rfl ?_
      refine Ie.p rfl rfl rfl rfl ?_
      refine Ie.as 85 (.int .i64 (Int.ofNat (litP at_ R (i) + (escN c).length))) rfl (congrArg (Value.int .i64) (by rw [hce]; exact addI (a := litP at_ R (i)) (b := (encN c).length) (by omega))) ?_
      refine Ie.p rfl rfl rfl rfl ?_
      refine Ie.fieldAddr rfl rfl rfl rfl rfl fa50_0 ?_
      refine Ie.fieldAddr rfl rfl rfl rfl rfl fa48_1 ?_
      refine Ie.store rfl rfl rfl rfl rfl sz3 rfl (Upd.app (.tail .head)) rfl ?_
      refine Ie.nil ?_
      refine Ne.blk ?_
      exact Ne.loop (i + 1, g1, cs1) ⟨by show i + 1 ≤ R.length; omega, hF1, by show g1.Ok (i + 1); rw [show i + 1 = (R.take (i + 1)).length by rw [List.length_take]; omega]; exact hO1⟩ (by show R.length - (i + 1) < R.length - i; omega) ⟨rfl, rfl, rfl, rfl, trivial⟩ (by rw [litP_step hri]; exact List.Sublist.append_left (.cons _ (List.Sublist.refl _)) _)

theorem text_ok {K R : List Nat} {T rest : List UInt8} {wx at_ : Nat} {gv : Value} {m : AW} (hm : m.lo ≤ m.next) (hk : Knows K m m [(wx, .cells [.string ⟨⟨T⟩⟩, .int .i64 (Int.ofNat (at_)), gv] 50 false .plain none)]) (ha : at_ ≤ T.length) (hTl : T.length ≤ 4000) (hT : T.drop at_ = 34 :: (escL R ++ 34 :: rest)) (hR : ∀ r ∈ R, okR r) (hlay : LaidAt lays m) (hK : ∀ p ∈ lays, p.1 ∉ K) : Fc Tryz.prog 29 [.pointer (some ⟨wx, 0, none⟩)] m fun v m' => v = .agg ⟨[.int .i64 6, .string ⟨⟨encL R⟩⟩, .int .i64 0, .int .i64 (Int.ofNat at_)]⟩ ∧ Knows K m m' [(wx, .cells [.string ⟨⟨T⟩⟩, .int .i64 (Int.ofNat (litP at_ R (R.length) + 1)), gv] 50 false .plain none)] := by
  have hwK : wx ∈ K := by rcases (hk.has wx _ (.head _)).2.2 with h | h; (exact absurd (hk.has wx _ (.head _)).2.1 (by omega)); exact h
  have hKw : ∀ p ∈ lays, p.1 ∉ [wx] := fun p hp h => by rw [List.mem_singleton] at h; exact hK p hp (h ▸ hwK)
  refine Fc.bodyS (S := K) (c := _) Tryz.func29 rfl rfl rfl rfl hk ?_
  refine Ce.seq ?_
  refine Ce.region ?_
  refine Ie.alloc rfl rfl rfl rfl zr32 (fun b2 hb2 => ?_)
  refine Ie.nil ?_
  refine Ne.seq ?_
  refine Ce.seq ?_
  refine Ce.region ?_
  refine Ie.p rfl rfl rfl rfl ?_
  refine Ie.p rfl rfl rfl rfl ?_
  refine Ie.fieldAddr rfl rfl rfl rfl rfl fa50_0 ?_
  refine Ie.fieldAddr rfl rfl rfl rfl rfl fa48_1 ?_
  refine Ie.load rfl rfl rfl rfl rfl ag3 (by first | exact .head | exact .tail .head | exact .tail (.tail .head) | exact .tail (.tail (.tail .head)) | exact .tail (.tail (.tail (.tail .head))) | exact .app .head | exact .app (.tail .head) | exact .app (.tail (.tail .head)) | exact .app (.tail (.tail (.tail .head))) | exact .base ‹_› ‹_› (by simp)) rfl ?_
  refine Ie.p rfl rfl rfl rfl ?_
  refine Ie.nil ?_
  refine Ne.seq ?_
  refine Ce.seq ?_
  refine Ce.region ?_
  refine Ie.p rfl rfl rfl rfl ?_
  refine Ie.callc (fun x : Gro × List Value => Flat 1 RRune R x.2 ∧ x.1.Ok R.length) (fun x : Gro × List Value => x.1.V R.length) (fun x : Gro × List Value => x.1.H 21 x.2 ++ [(wx, AObj.cells [.string ⟨⟨T⟩⟩, .int .i64 (Int.ofNat (litP at_ R (R.length) + 1)), gv] 50 false .plain none)]) (.tail .one) rfl rfl rfl rfl rfl rfl (fun m2 k1_ g2_ => lit_ok k1_.lole' g2_ ha hTl hT hR (hlay.krS hK k1_.kr) hKw) (fun x hx => ?_)
  obtain ⟨hF, hO⟩ := hx
  have hcs := flat_runes hF
  refine Ie.runesGro (l := encL R) (by rw [hcs]; exact runes_bytes hR) (by rw [hcs, List.length_map]) hO (fun p hp => List.mem_append_left _ (List.mem_append_left _ hp)) rfl rfl rfl rfl (by kernel_rfl) Tryz.underlying78 Tryz.underlying9 Tryz.underlying21 rfl ?_
  refine Ie.p rfl rfl rfl rfl ?_
  refine Ie.p (v := .agg ⟨[.int .i64 6, .string ⟨⟨encL R⟩⟩, .int .i64 0, .int .i64 (Int.ofNat at_)]⟩) rfl rfl rfl (by kernel_rfl) ?_
  refine Ie.store rfl rfl rfl rfl rfl sz32 rfl (Upd.app .head) rfl ?_
  refine Ie.nil ?_
  refine Ne.seq ?_
  refine Ce.ret ?_
  refine Re.endH rfl (.agg rfl ag32 sz32 (by first | exact .head | exact .tail .head | exact .tail (.tail .head) | exact .tail (.tail (.tail .head)) | exact .tail (.tail (.tail (.tail .head))) | exact .app .head | exact .app (.tail .head) | exact .app (.tail (.tail .head)) | exact .app (.tail (.tail (.tail .head))) | exact .base ‹_› ‹_› (by simp)) (Nat.le_of_ble_eq_true rfl) rfl .nil) ?_
  exact fun m hm => ⟨rfl, hm.sub ((List.sublist_append_right _ _).trans (List.sublist_append_left _ _))⟩

theorem rd1_ok {K R : List Nat} {T rest : List UInt8} {wx at_ : Nat} {gv : Value} {bc : Nat} {m : AW} (hm : m.lo ≤ m.next) (hbc : Off K m bc (.cells [.pointer (some ⟨wx, 0, none⟩)] 46 false .plain none)) (hk : Knows K m m [(wx, .cells [.string ⟨⟨T⟩⟩, .int .i64 (Int.ofNat (at_)), gv] 50 false .plain none)]) (ha : at_ ≤ T.length) (hTl : T.length ≤ 4000) (hT : T.drop at_ = 34 :: (escL R ++ 34 :: rest)) (hR : ∀ r ∈ R, okR r) (hlay : LaidAt lays m) (hK : ∀ p ∈ lays, p.1 ∉ K) : Fc Tryz.prog 28 [.pointer (some ⟨bc, 0, none⟩)] m fun v m' => v = .agg ⟨[.int .i64 6, .string ⟨⟨encL R⟩⟩, .int .i64 0, .int .i64 (Int.ofNat at_)]⟩ ∧ Knows K m m' [(wx, .cells [.string ⟨⟨T⟩⟩, .int .i64 (Int.ofNat (litP at_ R (R.length) + 1)), gv] 50 false .plain none)] := by
  have hwK : wx ∈ K := by rcases (hk.has wx _ (.head _)).2.2 with h | h; (exact absurd (hk.has wx _ (.head _)).2.1 (by omega)); exact h
  have hKw : ∀ p ∈ lays, p.1 ∉ [wx] := fun p hp h => by rw [List.mem_singleton] at h; exact hK p hp (h ▸ hwK)
  refine Fc.bodyS (S := K) (c := _) Tryz.func28 rfl rfl rfl rfl hk ?_
  refine Ce.seq ?_
  refine Ce.region ?_
  refine Ie.alloc rfl rfl rfl rfl zr32 (fun b1 hb1 => ?_)
  refine Ie.nil ?_
  refine Ne.seq ?_
  refine Ce.seq ?_
  refine Ce.region ?_
  refine Ie.load rfl rfl rfl rfl rfl ag46 (Off.sees rfl rfl _ _ hbc) rfl ?_
  refine Ie.callc (fun _ => True) (fun _ : Unit => .agg ⟨[.int .i64 6, .string ⟨⟨encL R⟩⟩, .int .i64 0, .int .i64 (Int.ofNat at_)]⟩) (fun _ => [(wx, .cells [.string ⟨⟨T⟩⟩, .int .i64 (Int.ofNat (litP at_ R (R.length) + 1)), gv] 50 false .plain none)]) (.tail .one) rfl rfl rfl rfl rfl rfl (fun m2 k1_ g2_ => (text_ok k1_.lole' g2_ ha hTl hT hR (hlay.krS hK k1_.kr) hKw).mono fun _ _ ⟨e1_, e2_⟩ => ⟨(), trivial, e1_, e2_⟩) (fun _ _ => ?_)
  refine Ie.store rfl rfl rfl rfl rfl sz32 rfl (.tail .head) rfl ?_
  refine Ie.nil ?_
  refine Ne.seq ?_
  refine Ce.ret ?_
  refine Re.endH rfl (.agg rfl ag32 sz32 (by first | exact .head | exact .tail .head | exact .tail (.tail .head) | exact .tail (.tail (.tail .head)) | exact .tail (.tail (.tail (.tail .head))) | exact .app .head | exact .app (.tail .head) | exact .app (.tail (.tail .head)) | exact .app (.tail (.tail (.tail .head))) | exact .base ‹_› ‹_› (by simp)) (Nat.le_of_ble_eq_true rfl) rfl .nil) ?_
  exact fun m hm => ⟨rfl, hm.sub (.cons_cons _ (List.nil_sublist _))⟩

theorem reader_ok {wx : Nat} {m : AW} (hm : m.lo ≤ m.next) : Fc Tryz.prog 17 [.pointer (some ⟨wx, 0, none⟩), .int .u8 34] m fun v m' => ∃ b : Nat, True ∧ v = .func (.func 28) ⟨[]⟩ ⟨[.pointer (some ⟨b, 0, none⟩)]⟩ ∧ Ext m m' ∧ News m m' [(b, .cells [.pointer (some ⟨wx, 0, none⟩)] 46 false .plain none)] := by
  refine Fc.body (c := _) Tryz.func17 rfl rfl rfl rfl hm ?_
  refine Ce.seq ?_
  refine Ce.region ?_
  refine Ie.box rfl rfl rfl rfl rfl (fun b2 hb2 => ?_)
  refine Ie.p rfl rfl rfl rfl ?_
  refine Ie.nil ?_
  refine Ne.seq ?_
  refine Ce.seq ?_
  refine Ce.block ?_
  refine Ce.seq ?_
  refine Ce.region ?_
  refine Ie.p rfl rfl rfl rfl ?_
  refine Ie.call _ rfl rfl rfl rfl rfl rfl (fun m hm => letter_ok (c := 34) hm.lole) ?_
  refine Ie.as 9 (.bool false) rfl (rfl) ?_
  refine Ie.p rfl rfl rfl rfl ?_
  refine Ie.nil ?_
  refine Ne.seq ?_
  refine Ce.cond_false (rfl) ?_
  refine Ce.seq ?_
  refine Ce.region ?_
  refine Ie.p rfl rfl rfl rfl ?_
  refine Ie.call _ rfl rfl rfl rfl rfl rfl (fun m hm => digit_ok (c := 34) hm.lole) ?_
  refine Ie.as 14 (.bool false) rfl (rfl) ?_
  refine Ie.p rfl rfl rfl rfl ?_
  refine Ie.nil ?_
  refine Ne.seq ?_
  refine Ce.cond_false (rfl) ?_
  refine Ce.skip ?_
  refine Ne.blk ?_
  refine Ne.seq ?_
  refine Ce.seq ?_
  refine Ce.region ?_
  refine Ie.makeMap rfl rfl rfl rfl (fun b17 hb17 => ?_)
  refine Ie.p rfl rfl rfl rfl ?_
  refine Ie.insert (κ := Int) (K := Value.int .u8) (es := []) (c := 0) (l := []) (kv := 34) .one trivial (KeyOk.int Tryz.underlying5) rfl rfl rfl Tryz.underlying64 rfl rfl rfl (fun es1 c1 hP1 => ?_)
  refine Ie.p rfl rfl rfl rfl ?_
  refine Ie.insert (κ := Int) (K := Value.int .u8) (es := es1) (c := c1) (l := [(34, .func (.func 28) ⟨[]⟩ ⟨[.pointer (some ⟨b2, 0, none⟩)]⟩)]) (kv := 39) .one hP1 (KeyOk.int Tryz.underlying5) rfl rfl rfl Tryz.underlying64 rfl rfl rfl (fun es2 c2 hP2 => ?_)
  refine Ie.p rfl rfl rfl rfl ?_
  refine Ie.p rfl rfl rfl rfl ?_
  refine Ie.nil ?_
  refine Ne.seq ?_
  refine Ce.seq ?_
  refine Ce.seq ?_
  refine Ce.region ?_
  refine Ie.p rfl rfl rfl rfl ?_
  refine Ie.p rfl rfl rfl rfl ?_
  refine Ie.lookup (κ := Int) (K := Value.int .u8) (es := es2) (c := c2) (l := [(34, .func (.func 28) ⟨[]⟩ ⟨[.pointer (some ⟨b2, 0, none⟩)]⟩), (39, .func (.func 30) ⟨[]⟩ ⟨[.pointer (some ⟨b2, 0, none⟩)]⟩)]) (kv := 34) (v := .func (.func 28) ⟨[]⟩ ⟨[.pointer (some ⟨b2, 0, none⟩)]⟩) .one hP2 (KeyOk.int Tryz.underlying5) rfl rfl rfl rfl Tryz.underlying64 zr51 rfl rfl rfl ?_
  refine Ie.p rfl rfl rfl rfl ?_
  refine Ie.nil ?_
  refine Ne.seq ?_
  refine Ce.seq ?_
  refine Ce.region ?_
  refine Ie.p rfl rfl rfl rfl ?_
  refine Ie.bin (v := .bool true) rfl rfl rfl rfl rfl rfl (by kernel_rfl) ?_
  refine Ie.nil ?_
  refine Ne.seq ?_
  refine Ce.cond_true rfl ?_
  refine Ce.seq ?_
  refine Ce.region ?_
  refine Ie.p rfl rfl rfl rfl ?_
  refine Ie.p rfl rfl rfl rfl ?_
  refine Ie.nil ?_
  refine Ne.seq ?_
  refine Ce.ret ?_
  refine Re.seq ?_
  exact Re.end_ rfl rfl (fun m hm => ⟨b2, trivial, rfl, hm.ext, hm.news (.cons _ (List.Sublist.refl _))⟩)

theorem tok1_ok {c1 c2 : Nat} {m : AW} (hm : m.lo ≤ m.next) : Fc Tryz.prog 14 [.pointer (some ⟨c1, 0, none⟩), .pointer (some ⟨c2, 0, none⟩)] m fun v m' => Ext m m' := by
  refine Fc.body (c := _) Tryz.func14 rfl rfl rfl rfl hm ?_
  refine Ce.seq ?_
  refine Ce.region ?_
  refine Ie.recover rfl rfl rfl rfl rfl ?_
  refine Ie.p rfl rfl rfl rfl ?_
  refine Ie.nil ?_
  refine Ne.seq ?_
  refine Ce.seq ?_
  refine Ce.region ?_
  refine Ie.p rfl rfl rfl rfl ?_
  refine Ie.bin (v := .bool false) rfl rfl rfl rfl rfl rfl (by kernel_rfl) ?_
  refine Ie.nil ?_
  refine Ne.seq ?_
  refine Ce.cond_false rfl ?_
  refine Ce.skip ?_
  exact Ne.end_ rfl rfl (fun m hm => hm.ext)

theorem tok_ok {R : List Nat} {m : AW} (hm : m.lo ≤ m.next) (hR : ∀ r ∈ R, okR r) (hTl : (litT R).length ≤ 4000) (hlay : LaidAt lays m) : Fc Tryz.prog 7 [.string ⟨⟨litT R⟩⟩] m fun v m' => ∃ x : Gro × List Value, (Flat 4 RTk [(6, encL R, 0, Int.ofNat 0), (0, [], 0, Int.ofNat (litT R).length)] x.2 ∧ x.1.Ok 2) ∧ v = .tuple ⟨[x.1.V 2, .agg ⟨[.int .i64 0, .int .i64 0]⟩]⟩ ∧ Ext m m' ∧ News m m' (x.1.H 32 x.2) := by
  have hsz : (⟨⟨litT R⟩⟩ : ByteArray).size = (litT R).length := rfl
  refine Fc.bodyD (S := []) (c := _) Tryz.func7 rfl rfl rfl rfl (Knows.start hm) ?_
  refine Ce.seq ?_
  refine Ce.region ?_
  refine Ie.alloc rfl rfl rfl rfl zr26 (fun b2 hb2 => ?_)
  refine Ie.alloc rfl rfl rfl rfl zr28 (fun b3 hb3 => ?_)
  refine Ie.nil ?_
  refine Ne.seq ?_
  refine Ce.seq ?_
  refine Ce.seq ?_
  refine Ce.region ?_
  refine Ie.p rfl rfl rfl rfl ?_
  refine Ie.len rfl rfl rfl rfl rfl (ln9 ..) ?_
  refine Ie.p rfl rfl rfl rfl ?_
  refine Ie.as 8 (.bool false) rfl (congrArg Value.bool (by rw [ltI_eq]; exact decide_eq_false (by simp only [Int.ofNat_eq_natCast]; omega))) ?_
  refine Ie.nil ?_
  refine Ne.seq ?_
  refine Ce.cond_false rfl ?_
  refine Ce.skip ?_
  refine Ne.seq ?_
  refine Ce.dfr rfl rfl (by kernel_rfl) rfl rfl rfl rfl rfl rfl rfl rfl ?_
  refine Ce.seq ?_
  refine Ce.region ?_
  refine Ie.p rfl rfl rfl rfl ?_
  refine Ie.p (v := .agg ⟨[.string ⟨⟨litT R⟩⟩, .int .i64 (Int.ofNat 0)]⟩) rfl rfl rfl (by kernel_rfl) ?_
  refine Ie.p (v := .agg ⟨[.string ⟨⟨litT R⟩⟩, .int .i64 (Int.ofNat 0), .slice none 0 0]⟩) rfl rfl rfl (by kernel_rfl) ?_
  refine Ie.box rfl rfl rfl rfl rfl (fun b14 hb14 => ?_)
  refine Ie.p rfl rfl rfl rfl ?_
  refine Ie.nil ?_
  refine Ne.seq ?_
  refine Ce.seq ?_
  refine Ce.block ?_
 
  refine Ce.loop (α := Bool × Gro × List Value) (fun q => [(0, .string ⟨⟨litT R⟩⟩), (2, .pointer (some ⟨b2, 0, none⟩)), (3, .pointer (some ⟨b3, 0, none⟩)), (4, .pointer (some ⟨b14, 0, none⟩))]) (fun q => q.2.1.H 32 q.2.2 ++ [(b14, .cells [.string ⟨⟨litT R⟩⟩, .int .i64 (Int.ofNat (atQ R q.1)), q.2.1.V (tkQ R q.1).length] 50 false .plain none), (b3, .cells [.int .i64 0, .int .i64 0] 28 false .plain none), (b2, .cells [.slice none 0 0] 26 false .plain none)]) (fun q => Flat 4 RTk (tkQ R q.1) q.2.2 ∧ q.2.1.Ok (tkQ R q.1).length) (fun q => bif q.1 then 0 else 1) (false, .no, []) ⟨Flat.nil, rfl⟩ ⟨rfl, rfl, rfl, rfl, trivial⟩ (List.Sublist.refl _) (fun q hq => ?_)
  obtain ⟨bb, g_, cs_⟩ := q
  obtain ⟨hF, hO⟩ := hq
  simp only at hF hO
  refine Ce.seq ?_
  refine Ce.seq ?_
  refine Ce.region ?_
  refine Ie.p rfl rfl rfl rfl ?_
  refine Ie.p rfl rfl rfl rfl ?_
  refine Ie.fieldAddr rfl rfl rfl rfl rfl fa50_0 ?_
  refine Ie.call _ rfl rfl rfl rfl rfl rfl (fun m hm => done_ok (T := litT R) hm.lole (⟨(hm.has b14 _ (List.mem_append_right _ (.head _))).2, (hm.has b14 _ (List.mem_append_right _ (.head _))).1⟩ : Mem m b14 _)) ?_
  refine Ie.p rfl rfl rfl rfl ?_
  refine Ie.nil ?_
  refine Ne.seq ?_
  refine Ce.cond rfl (fun ht19 => ?_) (fun ht19 => ?_)
  · have hbb : bb = false := atQ_f (by rw [Bool.not_eq_true', decide_eq_false_iff_not] at ht19; exact ht19)
    subst hbb
    refine Ce.skip ?_
    refine Ne.seq ?_
    refine Ce.block ?_
    refine Ce.seq ?_
    refine Ce.region ?_
    refine Ie.p rfl rfl rfl rfl ?_
    refine Ie.p rfl rfl rfl rfl ?_
    refine Ie.p rfl rfl rfl rfl ?_
    refine Ie.fieldAddr rfl rfl rfl rfl rfl fa50_0 ?_
    refine Ie.fieldAddr rfl rfl rfl rfl rfl fa48_1 ?_
    refine Ie.load rfl rfl rfl rfl rfl ag3 (by first | exact .head | exact .tail .head | exact .tail (.tail .head) | exact .tail (.tail (.tail .head)) | exact .tail (.tail (.tail (.tail .head))) | exact .app .head | exact .app (.tail .head) | exact .app (.tail (.tail .head)) | exact .app (.tail (.tail (.tail .head))) | exact .base ‹_› ‹_› (by simp)) rfl ?_
    refine Ie.indexStr rfl rfl rfl rfl Tryz.underlying9 rfl rfl ((rfl : (litT R)[0]? = some 34)) ?_
    refine Ie.p rfl rfl rfl rfl ?_
    refine Ie.nil ?_
    refine Ne.seq ?_
    refine Ce.seq ?_
    refine Ce.region ?_
    refine Ie.p rfl rfl rfl rfl ?_
    refine Ie.nil ?_
    refine Ne.seq ?_
    refine Ce.block ?_
    refine Ce.seq ?_
    refine Ce.seq ?_
    refine Ce.region ?_
    refine Ie.p rfl rfl rfl rfl ?_
    refine Ie.as 42 (.bool false) rfl (congrArg Value.bool (rfl)) ?_
    refine Ie.p rfl rfl rfl rfl ?_
    refine Ie.nil ?_
    refine Ne.seq ?_
    refine Ce.cond_false rfl ?_
    refine Ce.seq ?_
    refine Ce.region ?_
    refine Ie.p rfl rfl rfl rfl ?_
    refine Ie.as 43 (.bool false) rfl (congrArg Value.bool (rfl)) ?_
    refine Ie.p rfl rfl rfl rfl ?_
    refine Ie.nil ?_
    refine Ne.seq ?_
    refine Ce.cond_false rfl ?_
    refine Ce.seq ?_
    refine Ce.region ?_
    refine Ie.p rfl rfl rfl rfl ?_
    refine Ie.as 44 (.bool false) rfl (congrArg Value.bool (rfl)) ?_
    refine Ie.p rfl rfl rfl rfl ?_
    refine Ie.nil ?_
    refine Ne.seq ?_
    refine Ce.cond_false rfl ?_
    refine Ce.region ?_
    refine Ie.p rfl rfl rfl rfl ?_
    refine Ie.as 45 (.bool false) rfl (congrArg Value.bool (rfl)) ?_
    refine Ie.p rfl rfl rfl rfl ?_
    refine Ie.nil ?_
    refine Ne.seq ?_
    refine Ce.cond_false rfl ?_
    refine Ce.seq ?_
    refine Ce.region ?_
    refine Ie.p rfl rfl rfl rfl ?_
    refine Ie.as 56 (.bool false) rfl (congrArg Value.bool (rfl)) ?_
    refine Ie.p rfl rfl rfl rfl ?_
    refine Ie.nil ?_
    refine Ne.seq ?_
    refine Ce.cond_false rfl ?_
    refine Ce.draw [⟨0, .p, false, true, 0⟩, ⟨1, .p, false, true, 0⟩, ⟨2, .p, false, true, 2⟩, ⟨3, .p, false, true, 6⟩, ⟨4, .l, false, true, 14⟩, ⟨5, .p, true, true, 0⟩, ⟨6, .p, true, true, 0⟩, ⟨7, .h, true, true, 96⟩, ⟨8, .h, true, true, 224⟩, ⟨9, .a, true, true, 480⟩, ⟨10, .h, true, true, 1022⟩, ⟨11, .p, true, true, 2047⟩, ⟨12, .p, true, true, 4095⟩, ⟨13, .h, true, true, 8191⟩] (by kernel_rfl) (by kernel_rfl) (fun base hbase hB => ?_)
    refine DeV.start ?_
    refine DeV.p rfl rfl rfl rfl rfl ?_
    refine DeV.p rfl rfl rfl rfl rfl ?_
    refine DeV.p rfl rfl rfl rfl rfl ?_
    refine DeV.fieldAddr rfl rfl rfl rfl rfl rfl fa50_1 ?_
    refine DeV.load rfl rfl rfl rfl rfl rfl ag26 (.app .head) rfl (by first | exact hB _ _ (.head _) | exact hB _ _ (.tail _ (.head _)) | exact hB _ _ (.tail _ (.tail _ (.head _))) | exact hB _ _ (.tail _ (.tail _ (.tail _ (.head _)))) | exact hB _ _ (List.mem_append_right _ (.head _)) | exact hB _ _ (List.mem_append_right _ (.tail _ (.head _))) | exact Nat.lt_of_lt_of_le ‹_› hbase) ?_
    refine DeV.p rfl rfl rfl rfl rfl ?_
    refine DeV.p rfl rfl rfl rfl rfl ?_
    refine DeV.calln (fun _ => True) (fun b : Nat => .func (.func 28) ⟨[]⟩ ⟨[.pointer (some ⟨b, 0, none⟩)]⟩) (fun b : Nat => [(b, AObj.cells [.pointer (some ⟨b14, 0, none⟩)] 46 false .plain none)]) rfl rfl rfl rfl rfl rfl rfl rfl rfl (fun m hm => reader_ok hm.lole) (fun bq _ => ?_)
    refine DeV.callc (fun _ => True) (fun _ : Unit => .agg ⟨[.int .i64 6, .string ⟨⟨encL R⟩⟩, .int .i64 0, .int .i64 (Int.ofNat 0)]⟩) (fun _ => [(b14, .cells [.string ⟨⟨litT R⟩⟩, .int .i64 (Int.ofNat ((litT R).length)), g_.V 0] 50 false .plain none)]) (.tail (show Pick (g_.H 32 cs_ ++ (b14, _) :: [_, _]) [(b14, _)] (g_.H 32 cs_ ++ [_, _]) from .over .one)) rfl rfl rfl (fun _ _ p_ hp_ => by rw [List.mem_singleton.1 hp_]; exact ⟨_, .head _, rfl, Gro.same _ _⟩) rfl rfl rfl rfl rfl rfl (fun m hm hk hoff hr => (rd1_ok (T := litT R) (at_ := 0) (rest := []) (R := R) hm (hr bq _ (.head _)) hk (Nat.zero_le _) hTl rfl hR (hlay.off (by simp) hoff).1 (hlay.off (by simp) hoff).2).mono fun _ _ ⟨e1_, e2_⟩ => ⟨(), trivial, e1_, by rw [litP_end] at e2_; exact e2_⟩) (fun _ _ => ?_)
    refine DeW.of ?_
    refine De.buildSlice rfl rfl rfl rfl rfl rfl (bs26_1 ..) (fun b37 hn37 hb37 => ?_)
    refine De.appendSl (R := RTk) (l0 := []) (l := [(6, encL R, 0, Int.ofNat 0)]) (L := [(6, encL R, 0, Int.ofNat 0)]) (g := g_) (cs := cs_) rfl (.tail (.tail (.tail (show Pick (g_.H 32 cs_ ++ [_, _]) _ _ from .here)))) hF hO (Sl.single (R := RTk) (x := (6, encL R, 0, Int.ofNat 0)) (b := b37) (c := 1) (el := 32) (g := false) (md := .plain) (mate := none) rfl rfl) (InH.sees (by intro p_ hp_; rw [List.mem_singleton.1 hp_]; exact List.mem_cons_self)) RTk.flats (by show 0 + 1 ≤ 4294967296; decide) rfl rfl (by kernel_rfl) (by kernel_rfl) rfl rfl rfl rfl Tryz.underlying26 Tryz.underlying26 ap32 rfl rfl (fun g1 cs1 hF1 hO1 => ?_)
    obtain ⟨a1, c1, hw1⟩ : ∃ a1 c1, g1.V 1 = .slice a1 1 c1 := Gro.len hO1
    refine De.as 38 (.slice a1 1 c1) rfl hw1 ?_
    refine De.p rfl rfl rfl rfl rfl ?_
    refine De.fieldAddr rfl rfl rfl rfl rfl rfl fa50_1 ?_
    refine De.store rfl rfl (by kernel_rfl) (by kernel_rfl) rfl rfl rfl rfl rfl sz26 rfl (Upd.app (.tail .head)) rfl ?_
    refine De.nil ?_
    refine Ne.blk ?_
    refine Ne.blk ?_
    refine Ne.swap (h' := g1.H 32 cs1 ++ (b37, .cells [.int .i64 6, .string ⟨⟨encL R⟩⟩, .int .i64 0, .int .i64 (Int.ofNat 0)] 32 false .plain none) :: (b14, .cells [.string ⟨⟨litT R⟩⟩, .int .i64 (Int.ofNat ((litT R).length)), g1.V 1] 50 false .plain none) :: (bq, .cells [.pointer (some ⟨b14, 0, none⟩)] 46 false .plain none) :: [(b3, .cells [.int .i64 0, .int .i64 0] 28 false .plain none), (b2, .cells [.slice none 0 0] 26 false .plain none)]) (by rw [hw1]; exact .refl _) ?_
    exact Ne.loop (true, g1, cs1) ⟨hF1, hO1⟩ (by show 0 < 1; decide) ⟨rfl, rfl, rfl, rfl, trivial⟩ (List.Sublist.append_left (.cons _ (.cons_cons _ (.cons _ (List.Sublist.refl _)))) _)
  · have hbb : bb = true := atQ_t (by rw [Bool.not_eq_false', decide_eq_true_eq] at ht19; exact ht19)
    subst hbb
    refine Ce.exit ?_
    refine Xe.seq ?_
    refine Xe.loop ?_
    refine Xe.here ?_
    refine Ne.seq ?_
    refine Ce.seq ?_
    refine Ce.region ?_
    refine Ie.p rfl rfl rfl rfl ?_
    refine Ie.p rfl rfl rfl rfl ?_
    refine Ie.fieldAddr rfl rfl rfl rfl rfl fa50_1 ?_
    refine Ie.load rfl rfl rfl rfl rfl ag26 (by first | exact .head | exact .tail .head | exact .tail (.tail .head) | exact .tail (.tail (.tail .head)) | exact .tail (.tail (.tail (.tail .head))) | exact .app .head | exact .app (.tail .head) | exact .app (.tail (.tail .head)) | exact .app (.tail (.tail (.tail .head))) | exact .base ‹_› ‹_› (by simp)) rfl ?_
    refine Ie.p rfl rfl rfl rfl ?_
    refine Ie.len rfl rfl rfl rfl rfl (ln9 ..) ?_
    refine Ie.p (v := .agg ⟨[.int .i64 0, .string ⟨⟨[]⟩⟩, .int .i64 0, .int .i64 (Int.ofNat (litT R).length)]⟩) rfl rfl rfl (by kernel_rfl) ?_
    refine Ie.buildSlice rfl rfl rfl rfl rfl (bs26_1 ..) (fun b66 hb66 => ?_)
    refine Ie.appendSl (R := RTk) (l0 := [(6, encL R, 0, Int.ofNat 0)]) (l := [(0, [], 0, Int.ofNat (litT R).length)]) (L := [(6, encL R, 0, Int.ofNat 0), (0, [], 0, Int.ofNat (litT R).length)]) (g := g_) (cs := cs_) rfl (.tail .here) hF hO (Sl.single (R := RTk) (x := (0, [], 0, Int.ofNat (litT R).length)) (b := b66) (c := 1) (el := 32) (g := false) (md := .plain) (mate := none) rfl rfl) (InH.sees (by intro p_ hp_; rw [List.mem_singleton.1 hp_]; exact List.mem_cons_self)) RTk.flats (by show 1 + 1 ≤ 4294967296; decide) rfl rfl rfl rfl Tryz.underlying26 Tryz.underlying26 ap32 rfl rfl (fun g1 cs1 hF1 hO1 => ?_)
    obtain ⟨a1, c1, hw1⟩ : ∃ a1 c1, g1.V 2 = .slice a1 2 c1 := Gro.len hO1
    refine Ie.as 67 (.slice a1 2 c1) rfl hw1 ?_
    refine Ie.p (v := .agg ⟨[.int .i64 0, .int .i64 0]⟩) rfl rfl rfl (by kernel_rfl) ?_
    refine Ie.store rfl rfl rfl rfl rfl sz26 rfl (Upd.app (.tail (.tail (.tail .head)))) rfl ?_
    refine Ie.store rfl rfl rfl rfl rfl sz28 rfl (Upd.app (.tail (.tail .head))) rfl ?_
    refine Ie.nil ?_
    refine Ne.seq ?_
    refine Ce.ret ?_
    refine Re.endN rfl (.cell rfl ag26 (by first | exact .head | exact .tail .head | exact .tail (.tail .head) | exact .tail (.tail (.tail .head)) | exact .tail (.tail (.tail (.tail .head))) | exact .app .head | exact .app (.tail .head) | exact .app (.tail (.tail .head)) | exact .app (.tail (.tail (.tail .head))) | exact .base ‹_› ‹_› (by simp)) rfl (.agg rfl ag28 sz28 (by first | exact .head | exact .tail .head | exact .tail (.tail .head) | exact .tail (.tail (.tail .head)) | exact .tail (.tail (.tail (.tail .head))) | exact .app .head | exact .app (.tail .head) | exact .app (.tail (.tail .head)) | exact .app (.tail (.tail (.tail .head))) | exact .base ‹_› ‹_› (by simp)) (Nat.le_of_ble_eq_true rfl) rfl .nil)) (fun m hm => by obtain ⟨k_, m2_, v_, e1_, e2_⟩ := Fc.deferred (first := []) (cap := [.pointer (some ⟨b2, 0, none⟩), .pointer (some ⟨b3, 0, none⟩)]) Tryz.func14 rfl rfl (tok1_ok (c1 := b2) (c2 := b3) (Knows.lole' hm)); exact ⟨k_, m2_, e1_, hm.of_ext e2_⟩) ?_
    exact fun m hm => ⟨(g1, cs1), ⟨hF1, hO1⟩, congrArg (fun z => Value.tuple ⟨[z, _]⟩) hw1.symm, hm.ext, hm.news (List.sublist_append_left _ _)⟩

theorem escaped_ok {c : Nat} {m : AW} (hm : m.lo ≤ m.next) (hc : okR c) : Fc Tryz.prog 11 [.int .i32 (Int.ofNat (c)), .int .i32 34] m fun v m' => v = .string ⟨⟨escN c⟩⟩ ∧ Ext m m' := by
  have hel := encN_le c
  refine Fc.body (c := _) Tryz.func11 rfl rfl rfl rfl hm ?_
  refine Ce.seq ?_
  refine Ce.region ?_
  refine Ie.p rfl rfl rfl rfl ?_
  refine Ie.nil ?_
  refine Ne.seq ?_
  refine Ce.seq ?_
  refine Ce.seq ?_
  refine Ce.region ?_
  refine Ie.p rfl rfl rfl rfl ?_
  refine Ie.nil ?_
  refine Ne.seq ?_
  refine Ce.block ?_
  refine Ce.seq ?_
  refine Ce.seq ?_
  refine Ce.region ?_
  refine Ie.p rfl rfl rfl rfl ?_
  refine Ie.p rfl rfl rfl rfl ?_
  refine Ie.p rfl rfl rfl rfl ?_
  refine Ie.nil ?_
  refine Ne.seq ?_
  refine Ce.cond rfl (fun hc0 => ?_) (fun hc0 => ?_)
  · refine Ce.as 6 (.bool true) rfl (congrArg Value.bool hc0) ?_
    (try simp only [decide_eq_true_eq, decide_eq_false_iff_not, nrm_lt, nrm_nlt, nrm_eq, nrm_neq, nrm_seq, nrm_sneq, nrm_sempty, nrm_snempty, nrm_ofNat, Bool.not_eq_true', Bool.not_eq_false'] at hc0)
    refine Ce.skip ?_
    refine Ne.seq ?_
    refine Ce.cond_true rfl ?_
    refine Ce.seq ?_
    refine Ce.region ?_
    refine Ie.p rfl rfl rfl rfl ?_
    refine Ie.conv rfl rfl rfl rfl rfl (by kernel_rfl) (conv_run Tryz.underlying21 Tryz.underlying9 hc) ?_
    refine Ie.bin (v := .string ⟨⟨[92] ++ encN c⟩⟩) rfl rfl rfl rfl rfl rfl (binS_catL (by rw [List.length_singleton]; omega)) ?_
    refine Ie.p rfl rfl rfl rfl ?_
    refine Ie.nil ?_
    refine Ne.seq ?_
    refine Ce.ret ?_
    refine Re.blk ?_
    refine Re.seq ?_
    exact Re.end_ rfl rfl (fun m hm => ⟨congrArg (fun z : List UInt8 => Value.string ⟨⟨z⟩⟩) (by first | exact esc_q (by omega) | exact esc_c (by omega) | exact esc_t (by omega) | exact esc_r (by omega) | exact esc_0 (by omega) | exact esc_h (by omega) (by omega) (by omega) (by omega) (by omega) | exact esc_o (by omega) (by omega) (by omega)), hm.ext⟩)
  · refine Ce.as 6 (.bool false) rfl (congrArg Value.bool hc0) ?_
    (try simp only [decide_eq_true_eq, decide_eq_false_iff_not, nrm_lt, nrm_nlt, nrm_eq, nrm_neq, nrm_seq, nrm_sneq, nrm_sempty, nrm_snempty, nrm_ofNat, Bool.not_eq_true', Bool.not_eq_false'] at hc0)
    refine Ce.region ?_
    refine Ie.p rfl rfl rfl rfl ?_
    refine Ie.p rfl rfl rfl rfl ?_
    refine Ie.nil ?_
    refine Ne.seq ?_
    refine Ce.cond rfl (fun hc1 => ?_) (fun hc1 => ?_)
    · refine Ce.as 6 (.bool true) rfl (congrArg Value.bool hc1) ?_
      (try simp only [decide_eq_true_eq, decide_eq_false_iff_not, nrm_lt, nrm_nlt, nrm_eq, nrm_neq, nrm_seq, nrm_sneq, nrm_sempty, nrm_snempty, nrm_ofNat, Bool.not_eq_true', Bool.not_eq_false'] at hc1)
      refine Ce.seq ?_
      refine Ce.region ?_
      refine Ie.p rfl rfl rfl rfl ?_
      refine Ie.conv rfl rfl rfl rfl rfl (by kernel_rfl) (conv_run Tryz.underlying21 Tryz.underlying9 hc) ?_
      refine Ie.bin (v := .string ⟨⟨[92] ++ encN c⟩⟩) rfl rfl rfl rfl rfl rfl (binS_catL (by rw [List.length_singleton]; omega)) ?_
      refine Ie.p rfl rfl rfl rfl ?_
      refine Ie.nil ?_
      refine Ne.seq ?_
      refine Ce.ret ?_
      refine Re.blk ?_
      refine Re.seq ?_
      exact Re.end_ rfl rfl (fun m hm => ⟨congrArg (fun z : List UInt8 => Value.string ⟨⟨z⟩⟩) (by first | exact esc_q (by omega) | exact esc_c (by omega) | exact esc_t (by omega) | exact esc_r (by omega) | exact esc_0 (by omega) | exact esc_h (by omega) (by omega) (by omega) (by omega) (by omega) | exact esc_o (by omega) (by omega) (by omega)), hm.ext⟩)
    · refine Ce.as 6 (.bool false) rfl (congrArg Value.bool hc1) ?_
      (try simp only [decide_eq_true_eq, decide_eq_false_iff_not, nrm_lt, nrm_nlt, nrm_eq, nrm_neq, nrm_seq, nrm_sneq, nrm_sempty, nrm_snempty, nrm_ofNat, Bool.not_eq_true', Bool.not_eq_false'] at hc1)
      refine Ce.seq ?_
      refine Ce.region ?_
      refine Ie.p rfl rfl rfl rfl ?_
      refine Ie.p rfl rfl rfl rfl ?_
      refine Ie.nil ?_
      refine Ne.seq ?_
      refine Ce.cond rfl (fun hc2 => ?_) (fun hc2 => ?_)
      · (try simp only [decide_eq_true_eq, decide_eq_false_iff_not, nrm_lt, nrm_nlt, nrm_eq, nrm_neq, nrm_seq, nrm_sneq, nrm_sempty, nrm_snempty, nrm_ofNat, Bool.not_eq_true', Bool.not_eq_false'] at hc2)
        refine Ce.seq ?_
        refine Ce.region ?_
        refine Ie.p rfl rfl rfl rfl ?_
        refine Ie.nil ?_
        refine Ne.seq ?_
        refine Ce.ret ?_
        refine Re.blk ?_
        refine Re.seq ?_
        exact Re.end_ rfl rfl (fun m hm => ⟨congrArg (fun z : List UInt8 => Value.string ⟨⟨z⟩⟩) (by first | exact esc_q (by omega) | exact esc_c (by omega) | exact esc_t (by omega) | exact esc_r (by omega) | exact esc_0 (by omega) | exact esc_h (by omega) (by omega) (by omega) (by omega) (by omega) | exact esc_o (by omega) (by omega) (by omega)), hm.ext⟩)
      · (try simp only [decide_eq_true_eq, decide_eq_false_iff_not, nrm_lt, nrm_nlt, nrm_eq, nrm_neq, nrm_seq, nrm_sneq, nrm_sempty, nrm_snempty, nrm_ofNat, Bool.not_eq_true', Bool.not_eq_false'] at hc2)
        refine Ce.seq ?_
        refine Ce.region ?_
        refine Ie.p rfl rfl rfl rfl ?_
        refine Ie.p rfl rfl rfl rfl ?_
        refine Ie.nil ?_
        refine Ne.seq ?_
        refine Ce.cond rfl (fun hc3 => ?_) (fun hc3 => ?_)
        · (try simp only [decide_eq_true_eq, decide_eq_false_iff_not, nrm_lt, nrm_nlt, nrm_eq, nrm_neq, nrm_seq, nrm_sneq, nrm_sempty, nrm_snempty, nrm_ofNat, Bool.not_eq_true', Bool.not_eq_false'] at hc3)
          refine Ce.seq ?_
          refine Ce.region ?_
          refine Ie.p rfl rfl rfl rfl ?_
          refine Ie.nil ?_
          refine Ne.seq ?_
          refine Ce.ret ?_
          refine Re.blk ?_
          refine Re.seq ?_
          exact Re.end_ rfl rfl (fun m hm => ⟨congrArg (fun z : List UInt8 => Value.string ⟨⟨z⟩⟩) (by first | exact esc_q (by omega) | exact esc_c (by omega) | exact esc_t (by omega) | exact esc_r (by omega) | exact esc_0 (by omega) | exact esc_h (by omega) (by omega) (by omega) (by omega) (by omega) | exact esc_o (by omega) (by omega) (by omega)), hm.ext⟩)
        · (try simp only [decide_eq_true_eq, decide_eq_false_iff_not, nrm_lt, nrm_nlt, nrm_eq, nrm_neq, nrm_seq, nrm_sneq, nrm_sempty, nrm_snempty, nrm_ofNat, Bool.not_eq_true', Bool.not_eq_false'] at hc3)
          refine Ce.seq ?_
          refine Ce.region ?_
          refine Ie.p rfl rfl rfl rfl ?_
          refine Ie.p rfl rfl rfl rfl ?_
          refine Ie.nil ?_
          refine Ne.seq ?_
          refine Ce.cond rfl (fun hc4 => ?_) (fun hc4 => ?_)
          · (try simp only [decide_eq_true_eq, decide_eq_false_iff_not, nrm_lt, nrm_nlt, nrm_eq, nrm_neq, nrm_seq, nrm_sneq, nrm_sempty, nrm_snempty, nrm_ofNat, Bool.not_eq_true', Bool.not_eq_false'] at hc4)
            refine Ce.seq ?_
            refine Ce.region ?_
            refine Ie.p rfl rfl rfl rfl ?_
            refine Ie.nil ?_
            refine Ne.seq ?_
            refine Ce.ret ?_
            refine Re.blk ?_
            refine Re.seq ?_
            exact Re.end_ rfl rfl (fun m hm => ⟨congrArg (fun z : List UInt8 => Value.string ⟨⟨z⟩⟩) (by first | exact esc_q (by omega) | exact esc_c (by omega) | exact esc_t (by omega) | exact esc_r (by omega) | exact esc_0 (by omega) | exact esc_h (by omega) (by omega) (by omega) (by omega) (by omega) | exact esc_o (by omega) (by omega) (by omega)), hm.ext⟩)
          · (try simp only [decide_eq_true_eq, decide_eq_false_iff_not, nrm_lt, nrm_nlt, nrm_eq, nrm_neq, nrm_seq, nrm_sneq, nrm_sempty, nrm_snempty, nrm_ofNat, Bool.not_eq_true', Bool.not_eq_false'] at hc4)
            refine Ce.seq ?_
            refine Ce.region ?_
            refine Ie.p rfl rfl rfl rfl ?_
            refine Ie.p rfl rfl rfl rfl ?_
            refine Ie.nil ?_
            refine Ne.seq ?_
            refine Ce.cond rfl (fun hc5 => ?_) (fun hc5 => ?_)
            · (try simp only [decide_eq_true_eq, decide_eq_false_iff_not, nrm_lt, nrm_nlt, nrm_eq, nrm_neq, nrm_seq, nrm_sneq, nrm_sempty, nrm_snempty, nrm_ofNat, Bool.not_eq_true', Bool.not_eq_false'] at hc5)
              refine Ce.seq ?_
              refine Ce.region ?_
              refine Ie.p rfl rfl rfl rfl ?_
              refine Ie.nil ?_
              refine Ne.seq ?_
              refine Ce.ret ?_
              refine Re.blk ?_
              refine Re.seq ?_
              exact Re.end_ rfl rfl (fun m hm => ⟨congrArg (fun z : List UInt8 => Value.string ⟨⟨z⟩⟩) (by first | exact esc_q (by omega) | exact esc_c (by omega) | exact esc_t (by omega) | exact esc_r (by omega) | exact esc_0 (by omega) | exact esc_h (by omega) (by omega) (by omega) (by omega) (by omega) | exact esc_o (by omega) (by omega) (by omega)), hm.ext⟩)
            · (try simp only [decide_eq_true_eq, decide_eq_false_iff_not, nrm_lt, nrm_nlt, nrm_eq, nrm_neq, nrm_seq, nrm_sneq, nrm_sempty, nrm_snempty, nrm_ofNat, Bool.not_eq_true', Bool.not_eq_false'] at hc5)
              refine Ce.skip ?_
              refine Ne.blk ?_
              refine Ne.seq ?_
              refine Ce.seq ?_
              refine Ce.seq ?_
              refine Ce.region ?_
              refine Ie.p rfl rfl rfl rfl ?_
              refine Ie.p rfl rfl rfl rfl ?_
              refine Ie.p rfl rfl rfl rfl ?_
              refine Ie.splitB 23 rfl (fun hs0 => ?_) (fun hs0 => ?_)
              · (try simp only [decide_eq_true_eq, decide_eq_false_iff_not, nrm_lt, nrm_nlt, nrm_eq, nrm_neq, nrm_seq, nrm_sneq, nrm_sempty, nrm_snempty, nrm_ofNat, Bool.not_eq_true', Bool.not_eq_false'] at hs0)
                refine Ie.off rfl rfl rfl ?_
                refine Ie.off rfl rfl rfl ?_
                refine Ie.p rfl rfl rfl rfl ?_
                refine Ie.nil ?_
                refine Ne.seq ?_
                refine Ce.cond_true rfl ?_
                refine Ce.seq ?_
                refine Ce.draw [⟨0, .p, true, true, 0⟩, ⟨1, .p, true, true, 1⟩, ⟨2, .p, true, true, 3⟩, ⟨3, .p, true, true, 7⟩, ⟨4, .p, true, true, 0⟩, ⟨5, .p, true, true, 16⟩, ⟨6, .p, true, true, 48⟩, ⟨7, .a, true, true, 127⟩, ⟨8, .l, true, true, 255⟩, ⟨9, .p, true, true, 511⟩, ⟨10, .p, true, true, 1023⟩] (by kernel_rfl) (by kernel_rfl) (fun base hbase hB => ?_)
                refine De.p rfl rfl rfl rfl rfl ?_
                refine De.p rfl rfl rfl rfl rfl ?_
                refine De.as 28 (.int .i32 (Int.ofNat (c / 16))) rfl (congrArg (Value.int .i32) (shr4 (by omega))) ?_
                refine De.p rfl rfl rfl rfl rfl ?_
                refine De.as 29 (.int .i32 (Int.ofNat (c / 16))) rfl (congrArg (Value.int .i32) ((and15 (by omega)).trans (congrArg Int.ofNat (by omega)))) ?_
                refine De.p (v := .int .u8 (Int.ofNat (hexC (c / 16)).toNat)) rfl rfl rfl rfl (by simp only [opE, evE, look]; exact indexA_str Tryz.underlying9 (hex_at _ (by omega))) ?_
                refine De.p rfl rfl rfl rfl rfl ?_
                refine De.p rfl rfl rfl rfl rfl ?_
                refine De.as 32 (.int .i32 (Int.ofNat (c % 16))) rfl (congrArg (Value.int .i32) (and15 (by omega))) ?_
                refine De.p (v := .int .u8 (Int.ofNat (hexC (c % 16)).toNat)) rfl rfl rfl rfl (by simp only [opE, evE, look]; exact indexA_str Tryz.underlying9 (hex_at _ (by omega))) ?_
                refine De.buildSlice rfl rfl rfl rfl rfl rfl (bs35_2 ..) (fun b34 hn34 hb34 => ?_)
                refine De.strOf (l := [hexC (c / 16), hexC (c % 16)]) rfl rfl (by kernel_rfl) rfl rfl rfl rfl Tryz.underlying35 Tryz.underlying9 Tryz.underlying5 rfl .head (by show 2 ≤ 2; decide) (by show some [UInt8.ofNat (hexC (c / 16)).toNat, UInt8.ofNat (hexC (c % 16)).toNat] = _; simp) ?_
                refine De.bin (v := .string ⟨⟨[92, 117, 48, 48] ++ [hexC (c / 16), hexC (c % 16)]⟩⟩) rfl rfl rfl rfl rfl rfl rfl (binS_catL (by show 4 + 2 ≤ 4294967296; decide)) ?_
                refine De.p rfl rfl rfl rfl rfl ?_
                refine De.nil ?_
                refine Ne.seq ?_
                refine Ce.ret ?_
                refine Re.seq ?_
                exact Re.end_ rfl rfl (fun m hm => ⟨congrArg (fun z : List UInt8 => Value.string ⟨⟨z⟩⟩) (by first | exact esc_q (by omega) | exact esc_c (by omega) | exact esc_t (by omega) | exact esc_r (by omega) | exact esc_0 (by omega) | exact esc_h (by omega) (by omega) (by omega) (by omega) (by omega) | exact esc_o (by omega) (by omega) (by omega)), hm.ext⟩)
              · (try simp only [decide_eq_true_eq, decide_eq_false_iff_not, nrm_lt, nrm_nlt, nrm_eq, nrm_neq, nrm_seq, nrm_sneq, nrm_sempty, nrm_snempty, nrm_ofNat, Bool.not_eq_true', Bool.not_eq_false'] at hs0)
                refine Ie.p rfl rfl rfl rfl ?_
                refine Ie.p rfl rfl rfl rfl ?_
                refine Ie.p rfl rfl rfl rfl ?_
                refine Ie.nil ?_
                refine Ne.seq ?_
                refine Ce.cond rfl (fun ht26 => ?_) (fun ht26 => ?_)
                · (try simp only [decide_eq_true_eq, decide_eq_false_iff_not, nrm_lt, nrm_nlt, nrm_eq, nrm_neq, nrm_seq, nrm_sneq, nrm_sempty, nrm_snempty, nrm_ofNat, Bool.not_eq_true', Bool.not_eq_false'] at ht26)
                  have hcc : c < 32 ∨ c = 127 := by omega
                  have hc128 : c < 128 := by omega
                  refine Ce.seq ?_
                  refine Ce.draw [⟨0, .p, true, true, 0⟩, ⟨1, .p, true, true, 1⟩, ⟨2, .p, true, true, 3⟩, ⟨3, .p, true, true, 7⟩, ⟨4, .p, true, true, 0⟩, ⟨5, .p, true, true, 16⟩, ⟨6, .p, true, true, 48⟩, ⟨7, .a, true, true, 127⟩, ⟨8, .l, true, true, 255⟩, ⟨9, .p, true, true, 511⟩, ⟨10, .p, true, true, 1023⟩] (by kernel_rfl) (by kernel_rfl) (fun base hbase hB => ?_)
                  refine De.p rfl rfl rfl rfl rfl ?_
                  refine De.p rfl rfl rfl rfl rfl ?_
                  refine De.as 28 (.int .i32 (Int.ofNat (c / 16))) rfl (congrArg (Value.int .i32) (shr4 (by omega))) ?_
                  refine De.p rfl rfl rfl rfl rfl ?_
                  refine De.as 29 (.int .i32 (Int.ofNat (c / 16))) rfl (congrArg (Value.int .i32) ((and15 (by omega)).trans (congrArg Int.ofNat (by omega)))) ?_
                  refine De.p (v := .int .u8 (Int.ofNat (hexC (c / 16)).toNat)) rfl rfl rfl rfl (by simp only [opE, evE, look]; exact indexA_str Tryz.underlying9 (hex_at _ (by omega))) ?_
                  refine De.p rfl rfl rfl rfl rfl ?_
                  refine De.p rfl rfl rfl rfl rfl ?_
                  refine De.as 32 (.int .i32 (Int.ofNat (c % 16))) rfl (congrArg (Value.int .i32) (and15 (by omega))) ?_
                  refine De.p (v := .int .u8 (Int.ofNat (hexC (c % 16)).toNat)) rfl rfl rfl rfl (by simp only [opE, evE, look]; exact indexA_str Tryz.underlying9 (hex_at _ (by omega))) ?_
                  refine De.buildSlice rfl rfl rfl rfl rfl rfl (bs35_2 ..) (fun b34 hn34 hb34 => ?_)
                  refine De.strOf (l := [hexC (c / 16), hexC (c % 16)]) rfl rfl (by kernel_rfl) rfl rfl rfl rfl Tryz.underlying35 Tryz.underlying9 Tryz.underlying5 rfl .head (by show 2 ≤ 2; decide) (by show some [UInt8.ofNat (hexC (c / 16)).toNat, UInt8.ofNat (hexC (c % 16)).toNat] = _; simp) ?_
                  refine De.bin (v := .string ⟨⟨[92, 117, 48, 48] ++ [hexC (c / 16), hexC (c % 16)]⟩⟩) rfl rfl rfl rfl rfl rfl rfl (binS_catL (by show 4 + 2 ≤ 4294967296; decide)) ?_
                  refine De.p rfl rfl rfl rfl rfl ?_
                  refine De.nil ?_
                  refine Ne.seq ?_
                  refine Ce.ret ?_
                  refine Re.seq ?_
                  exact Re.end_ rfl rfl (fun m hm => ⟨congrArg (fun z : List UInt8 => Value.string ⟨⟨z⟩⟩) (by first | exact esc_q (by omega) | exact esc_c (by omega) | exact esc_t (by omega) | exact esc_r (by omega) | exact esc_0 (by omega) | exact esc_h (by omega) (by omega) (by omega) (by omega) (by omega) | exact esc_o (by omega) (by omega) (by omega)), hm.ext⟩)
                · (try simp only [decide_eq_true_eq, decide_eq_false_iff_not, nrm_lt, nrm_nlt, nrm_eq, nrm_neq, nrm_seq, nrm_sneq, nrm_sempty, nrm_snempty, nrm_ofNat, Bool.not_eq_true', Bool.not_eq_false'] at ht26)
                  refine Ce.skip ?_
                  refine Ne.seq ?_
                  refine Ce.seq ?_
                  refine Ce.region ?_
                  refine Ie.p rfl rfl rfl rfl ?_
                  refine Ie.conv rfl rfl rfl rfl rfl (by kernel_rfl) (conv_run Tryz.underlying21 Tryz.underlying9 hc) ?_
                  refine Ie.p rfl rfl rfl rfl ?_
                  refine Ie.nil ?_
                  refine Ne.seq ?_
                  refine Ce.ret ?_
                  exact Re.end_ rfl rfl (fun m hm => ⟨congrArg (fun z : List UInt8 => Value.string ⟨⟨z⟩⟩) (by first | exact esc_q (by omega) | exact esc_c (by omega) | exact esc_t (by omega) | exact esc_r (by omega) | exact esc_0 (by omega) | exact esc_h (by omega) (by omega) (by omega) (by omega) (by omega) | exact esc_o (by omega) (by omega) (by omega)), hm.ext⟩)

theorem noesc_ok {v : Value} {m : AW} : Fc Tryz.prog 33 [v] m fun w m' => w = v ∧ Ext m m' :=
  Fc.extern Tryz.func33 rfl (by kernel_rfl)

theorem wcheck_f {K : List Nat} {wx : Nat} {bg : Gro} {out : List UInt8} {m : AW} (hm : m.lo ≤ m.next) (hk : Knows K m m (BuX wx false bg out)) : Fc Tryz.prog 19 [.pointer (some ⟨wx, 0, none⟩)] m fun v m' => v = .tuple ⟨[]⟩ ∧ Knows K m m' (BuX wx true bg out) := by
  refine Fc.bodyS (S := K) (c := _) Tryz.func19 rfl rfl rfl rfl (show Knows K m m (BuX wx false bg out) from hk) ?_
  refine Ce.seq ?_
  refine Ce.region ?_
  refine Ie.p rfl rfl rfl rfl ?_
  refine Ie.p rfl rfl rfl rfl ?_
  refine Ie.fieldAddr rfl rfl rfl rfl rfl fa37_0 ?_
  refine Ie.load rfl rfl rfl rfl rfl ag34 (by first | exact .head | exact .tail .head | exact .tail (.tail .head) | exact .tail (.tail (.tail .head)) | exact .tail (.tail (.tail (.tail .head))) | exact .app .head | exact .app (.tail .head) | exact .app (.tail (.tail .head)) | exact .app (.tail (.tail (.tail .head))) | exact .base ‹_› ‹_› (by simp)) rfl ?_
  refine Ie.p (v := .bool true) rfl rfl rfl (by kernel_rfl) ?_
  refine Ie.nil ?_
  refine Ne.seq ?_
  refine Ce.cond_true rfl ?_
  refine Ce.region ?_
  refine Ie.p rfl rfl rfl rfl ?_
  refine Ie.p rfl rfl rfl rfl ?_
  refine Ie.toUnsafe (sz := 1) rfl rfl rfl rfl Tryz.underlying34 Tryz.underlying66 rfl sz37 .head rfl ?_
  refine Ie.call _ rfl rfl rfl rfl rfl rfl (fun m hm => noesc_ok) ?_
  refine Ie.fromUnsafe (sz := 1) rfl rfl rfl rfl Tryz.underlying66 Tryz.underlying34 rfl sz37 .head lies37 ?_
  refine Ie.p rfl rfl rfl rfl ?_
  refine Ie.fieldAddr rfl rfl rfl rfl rfl fa37_0 ?_
  refine Ie.store rfl rfl rfl rfl rfl sz34 rfl .head rfl ?_
  refine Ie.nil ?_
  exact Ne.end_ rfl rfl (fun m hm => ⟨rfl, hm⟩)

theorem ptr_eqA {b : Nat} : eqA Tryz.prog 10000 34 (.pointer (some ⟨b, 0, none⟩)) (.pointer (some ⟨b, 0, none⟩)) = some true := by
  unfold eqA
  simp only [Tryz.underlying34]
  show eqPtr Tryz.prog 37 _ _ = _
  unfold eqPtr
  simp only [sz37, Nat.beq_eq_true_eq, cond_true]
  have h : Nat.beq b b = true := Nat.beq_refl b
  rw [h]
  rfl
theorem ptr_neq {b : Nat} {x y : Operand} (hg : guardOk Tryz.prog 34 x y (.pointer (some ⟨b, 0, none⟩)) (.pointer (some ⟨b, 0, none⟩)) = true) : binS Tryz.prog .neq 34 x y (.pointer (some ⟨b, 0, none⟩)) (.pointer (some ⟨b, 0, none⟩)) = some (.bool false) := by
  have h : binA Tryz.prog .neq 34 x y (.pointer (some ⟨b, 0, none⟩)) (.pointer (some ⟨b, 0, none⟩)) = some (.bool false) := by
    show (bif guardOk Tryz.prog 34 x y (.pointer (some ⟨b, 0, none⟩)) (.pointer (some ⟨b, 0, none⟩)) && (true && true) then (eqA Tryz.prog 10000 34 (.pointer (some ⟨b, 0, none⟩)) (.pointer (some ⟨b, 0, none⟩))).map (fun c => Value.bool (!c)) else none) = _
    rw [hg, ptr_eqA]
    rfl
  unfold binS
  rw [h]

theorem wcheck_t {K : List Nat} {wx : Nat} {bg : Gro} {out : List UInt8} {m : AW} (hm : m.lo ≤ m.next) (hk : Knows K m m (BuX wx true bg out)) : Fc Tryz.prog 19 [.pointer (some ⟨wx, 0, none⟩)] m fun v m' => v = .tuple ⟨[]⟩ ∧ Knows K m m' (BuX wx true bg out) := by
  refine Fc.bodyS (S := K) (c := _) Tryz.func19 rfl rfl rfl rfl (show Knows K m m (BuX wx true bg out) from hk) ?_
  refine Ce.seq ?_
  refine Ce.region ?_
  refine Ie.p rfl rfl rfl rfl ?_
  refine Ie.p rfl rfl rfl rfl ?_
  refine Ie.fieldAddr rfl rfl rfl rfl rfl fa37_0 ?_
  refine Ie.load rfl rfl rfl rfl rfl ag34 (by first | exact .head | exact .tail .head | exact .tail (.tail .head) | exact .tail (.tail (.tail .head)) | exact .tail (.tail (.tail (.tail .head))) | exact .app .head | exact .app (.tail .head) | exact .app (.tail (.tail .head)) | exact .app (.tail (.tail (.tail .head))) | exact .base ‹_› ‹_› (by simp)) rfl ?_
  refine Ie.p (v := .bool false) rfl rfl rfl (by kernel_rfl) ?_
  refine Ie.nil ?_
  refine Ne.seq ?_
  refine Ce.cond_false rfl ?_
  refine Ce.seq ?_
  refine Ce.region ?_
  refine Ie.p rfl rfl rfl rfl ?_
  refine Ie.p rfl rfl rfl rfl ?_
  refine Ie.fieldAddr rfl rfl rfl rfl rfl fa37_0 ?_
  refine Ie.load rfl rfl rfl rfl rfl ag34 (by first | exact .head | exact .tail .head | exact .tail (.tail .head) | exact .tail (.tail (.tail .head)) | exact .tail (.tail (.tail (.tail .head))) | exact .app .head | exact .app (.tail .head) | exact .app (.tail (.tail .head)) | exact .app (.tail (.tail (.tail .head))) | exact .base ‹_› ‹_› (by simp)) rfl ?_
  refine Ie.p rfl rfl rfl rfl ?_
  refine Ie.p (v := .bool false) rfl rfl rfl (by simp only [opE, evE, look]; exact ptr_neq (by kernel_rfl)) ?_
  refine Ie.nil ?_
  refine Ne.seq ?_
  refine Ce.cond_false rfl ?_
  refine Ce.skip ?_
  exact Ne.end_ rfl rfl (fun m hm => ⟨rfl, hm⟩)

theorem wcheck_ok {K : List Nat} {wx : Nat} {bg : Gro} {out : List UInt8} {ad : Bool} {m : AW} (hm : m.lo ≤ m.next) (hk : Knows K m m (BuX wx ad bg out)) : Fc Tryz.prog 19 [.pointer (some ⟨wx, 0, none⟩)] m fun v m' => v = .tuple ⟨[]⟩ ∧ Knows K m m' (BuX wx true bg out) := by
  cases ad with
  | true => exact wcheck_t hm hk
  | false => exact wcheck_f hm hk

theorem wstr_ok {K : List Nat} {wx : Nat} {bg : Gro} {out : List UInt8} {ad : Bool} {s : List UInt8} {m : AW} (hm : m.lo ≤ m.next) (hk : Knows K m m (BuX wx ad bg out)) (hb : bg.Ok out.length) (hn : out.length + s.length ≤ 4294967296) : Fc Tryz.prog 10 [.pointer (some ⟨wx, 0, none⟩), .string ⟨⟨s⟩⟩] m fun v m' => ∃ bg2 : Gro, bg2.Ok (out ++ s).length ∧ v = .tuple ⟨[.int .i64 (Int.ofNat s.length), .nilIface]⟩ ∧ Knows K m m' (BuX wx true bg2 (out ++ s)) := by
  refine Fc.bodyS (S := K) (c := _) Tryz.func10 rfl rfl rfl rfl (show Knows K m m (BuX wx ad bg out) from hk) ?_
  refine Ce.seq ?_
  refine Ce.region ?_
  refine Ie.p rfl rfl rfl rfl ?_
  refine Ie.p rfl rfl rfl rfl ?_
  refine Ie.nil ?_
  refine Ne.seq ?_
  refine Ce.seq ?_
  refine Ce.region ?_
  refine Ie.p rfl rfl rfl rfl ?_
  refine Ie.callc (α := Unit) (fun _ => True) (fun _ => .tuple ⟨[]⟩) (fun _ => BuX wx true bg out) .all rfl rfl rfl rfl rfl rfl (fun m2 k1_ g2_ => (wcheck_ok k1_.lole' g2_).mono fun v m' h_ => ⟨(), trivial, h_⟩) (fun _ _ => ?_)
  refine Ie.swap (h' := BuX wx true bg out) (List.Perm.of_eq (List.append_nil _)) ?_
  refine Ie.nil ?_
  refine Ne.seq ?_
  refine Ce.seq ?_
  refine Ce.region ?_
  refine Ie.p rfl rfl rfl rfl ?_
  refine Ie.p rfl rfl rfl rfl ?_
  refine Ie.p rfl rfl rfl rfl ?_
  refine Ie.fieldAddr rfl rfl rfl rfl rfl fa37_1 ?_
  refine Ie.load rfl rfl rfl rfl rfl ag35 (by first | exact .head | exact .tail .head | exact .tail (.tail .head) | exact .tail (.tail (.tail .head)) | exact .tail (.tail (.tail (.tail .head))) | exact .app .head | exact .app (.tail .head) | exact .app (.tail (.tail .head)) | exact .app (.tail (.tail (.tail .head))) | exact .base ‹_› ‹_› (by simp)) rfl ?_
  refine Ie.p rfl rfl rfl rfl ?_
  refine Ie.appendStr (st := ⟨⟨s⟩⟩) (.tail .all) rfl hb (byC_len _) hn rfl rfl rfl rfl Tryz.underlying35 Tryz.underlying9 (AppT.of ap5) rfl (fun bg2 hb2 => ?_)
  have hb2 : bg2.Ok (out.length + s.length) := hb2
  obtain ⟨ga, gc, hV⟩ := Gro.len hb2
  refine Ie.as 14 (.slice ga (out.length + s.length) gc) rfl hV ?_
  refine Ie.p rfl rfl rfl rfl ?_
  refine Ie.fieldAddr rfl rfl rfl rfl rfl fa37_1 ?_
  refine Ie.store rfl rfl rfl rfl rfl sz35 rfl (Upd.app .head) rfl ?_
  refine Ie.swap (h' := BuX wx true bg2 (out ++ s) ++ []) (by have h_ := bu_perm (b := wx) (bg := bg2) (out := out) (s := s) (r := []); rw [hV] at h_; exact h_) ?_
  refine Ie.nil ?_
  refine Ne.seq ?_
  refine Ce.seq ?_
  refine Ce.region ?_
  refine Ie.p rfl rfl rfl rfl ?_
  refine Ie.len rfl rfl rfl rfl rfl (ln9 ..) ?_
  refine Ie.p rfl rfl rfl rfl ?_
  refine Ie.p rfl rfl rfl rfl ?_
  refine Ie.nil ?_
  refine Ne.seq ?_
  refine Ce.ret ?_
  exact Re.end_ rfl rfl (fun m hm => ⟨bg2, (by rw [List.length_append]; exact hb2), rfl, (by rw [List.append_nil] at hm; exact hm)⟩)

theorem wbyte_ok {K : List Nat} {wx : Nat} {bg : Gro} {out : List UInt8} {ad : Bool} {x : UInt8} {m : AW} (hm : m.lo ≤ m.next) (hk : Knows K m m (BuX wx ad bg out)) (hb : bg.Ok out.length) (hn : out.length + 1 ≤ 4294967296) : Fc Tryz.prog 9 [.pointer (some ⟨wx, 0, none⟩), .int .u8 (Int.ofNat x.toNat)] m fun v m' => ∃ bg2 : Gro, bg2.Ok (out ++ [x]).length ∧ v = .nilIface ∧ Knows K m m' (BuX wx true bg2 (out ++ [x])) := by
  refine Fc.bodyS (S := K) (c := _) Tryz.func9 rfl rfl rfl rfl (show Knows K m m (BuX wx ad bg out) from hk) ?_
  refine Ce.seq ?_
  refine Ce.region ?_
  refine Ie.p rfl rfl rfl rfl ?_
  refine Ie.nil ?_
  refine Ne.seq ?_
  refine Ce.seq ?_
  refine Ce.region ?_
  refine Ie.p rfl rfl rfl rfl ?_
  refine Ie.callc (α := Unit) (fun _ => True) (fun _ => .tuple ⟨[]⟩) (fun _ => BuX wx true bg out) .all rfl rfl rfl rfl rfl rfl (fun m2 k1_ g2_ => (wcheck_ok k1_.lole' g2_).mono fun v m' h_ => ⟨(), trivial, h_⟩) (fun _ _ => ?_)
  refine Ie.swap (h' := BuX wx true bg out) (List.Perm.of_eq (List.append_nil _)) ?_
  refine Ie.nil ?_
  refine Ne.seq ?_
  refine Ce.seq ?_
  refine Ce.region ?_
  refine Ie.p rfl rfl rfl rfl ?_
  refine Ie.p rfl rfl rfl rfl ?_
  refine Ie.p rfl rfl rfl rfl ?_
  refine Ie.fieldAddr rfl rfl rfl rfl rfl fa37_1 ?_
  refine Ie.load rfl rfl rfl rfl rfl ag35 (by first | exact .head | exact .tail .head | exact .tail (.tail .head) | exact .tail (.tail (.tail .head)) | exact .tail (.tail (.tail (.tail .head))) | exact .app .head | exact .app (.tail .head) | exact .app (.tail (.tail .head)) | exact .app (.tail (.tail (.tail .head))) | exact .base ‹_› ‹_› (by simp)) rfl ?_
  refine Ie.p rfl rfl rfl rfl ?_
  refine Ie.buildSlice rfl rfl rfl rfl rfl (bs35_1 ..) (fun b13 hb13 => ?_)
  refine Ie.appendSl (R := RBy) (l0 := out) (l := [x]) (L := (out ++ [x])) (g := bg) (cs := (byC out)) rfl (.tail (.tail .all)) flat_by hb (Sl.single (R := RBy) (x := x) (b := b13) (c := 1) (el := 5) (g := false) (md := .plain) (mate := none) rfl rfl) (InH.sees (by intro p_ hp_; rw [List.mem_singleton.1 hp_]; exact List.mem_cons_self)) RBy.flats (hn) rfl rfl rfl rfl Tryz.underlying35 Tryz.underlying35 ap5 rfl rfl (fun bg2 cs2 hF2 hb2 => ?_)
  have hc2 := flat_byE hF2
  subst hc2
  obtain ⟨ga, gc, hV⟩ := Gro.len hb2
  refine Ie.as 14 (.slice ga (out ++ [x]).length gc) rfl hV ?_
  refine Ie.p rfl rfl rfl rfl ?_
  refine Ie.fieldAddr rfl rfl rfl rfl rfl fa37_1 ?_
  refine Ie.store rfl rfl rfl rfl rfl sz35 rfl (Upd.app (.tail .head)) rfl ?_
  refine Ie.drop (h' := bg2.H 5 (byC (out ++ [x])) ++ [(wx, .cells [adB wx true, .slice ga (out ++ [x]).length gc] 37 false .plain none)]) (List.Sublist.append_left (.cons _ (List.Sublist.refl _)) _) ?_
  refine Ie.swap (h' := BuX wx true bg2 (out ++ [x]) ++ []) (by have h_ := bu_perm (b := wx) (bg := bg2) (out := out) (s := [x]) (r := []); rw [← byC_append, ← List.length_append, hV] at h_; exact h_) ?_
  refine Ie.nil ?_
  refine Ne.seq ?_
  refine Ce.seq ?_
  refine Ce.region ?_
  refine Ie.p rfl rfl rfl rfl ?_
  refine Ie.nil ?_
  refine Ne.seq ?_
  refine Ce.ret ?_
  exact Re.end_ rfl rfl (fun m hm => ⟨bg2, hb2, rfl, (by rw [List.append_nil] at hm; exact hm)⟩)

theorem wsee_ok {K : List Nat} {wx : Nat} {bg : Gro} {out : List UInt8} {ad : Bool} {m : AW} (hm : m.lo ≤ m.next) (hk : Knows K m m (BuX wx ad bg out)) (hb : bg.Ok out.length) (hne : 0 < out.length) (hle : out.length ≤ 1000000) : Fc Tryz.prog 12 [.pointer (some ⟨wx, 0, none⟩)] m fun v m' => ∃ _u : Unit, True ∧ v = .string ⟨⟨out⟩⟩ ∧ Knows K m m' [] := by
  obtain ⟨kO, hkO⟩ : ∃ k, out.length = k + 1 := ⟨out.length - 1, by omega⟩
  obtain ⟨tq, htq⟩ : ∃ k, top = k + 1 := ⟨_, rfl⟩
  have hV := Gro.V_blk hb hne
  refine Fc.bodyS (S := K) (c := _) Tryz.func12 rfl rfl rfl rfl (show Knows K m m (BuX wx ad bg out) from hk) ?_
  refine Ce.seq ?_
  refine Ce.region ?_
  refine Ie.p rfl rfl rfl rfl ?_
  refine Ie.nil ?_
  refine Ne.seq ?_
  refine Ce.seq ?_
  refine Ce.draw [⟨0, .p, true, true, 0⟩, ⟨1, .p, true, true, 1⟩, ⟨2, .p, true, true, 3⟩, ⟨3, .l, true, true, 7⟩, ⟨4, .p, true, true, 15⟩, ⟨5, .p, true, true, 0⟩, ⟨6, .p, true, true, 32⟩, ⟨7, .p, true, true, 96⟩, ⟨8, .l, true, true, 224⟩, ⟨9, .l, true, true, 480⟩, ⟨10, .h, true, true, 1023⟩, ⟨11, .p, true, true, 2047⟩] (by kernel_rfl) (by kernel_rfl) (fun base hbase hB => ?_)
  refine De.p rfl rfl rfl rfl rfl ?_
  refine De.p rfl rfl rfl rfl rfl ?_
  refine De.fieldAddr rfl rfl rfl rfl rfl rfl fa37_1 ?_
  refine De.load rfl rfl rfl rfl rfl rfl rfl rfl ag35 (by first | exact .head | exact .tail .head | exact .tail (.tail .head) | exact .tail (.tail (.tail .head)) | exact .tail (.tail (.tail (.tail .head))) | exact .app .head | exact .app (.tail .head) | exact .app (.tail (.tail .head)) | exact .app (.tail (.tail (.tail .head))) | exact .base ‹_› ‹_› (by simp)) rfl ?_
  refine De.as 6 (.slice (some ⟨bg.blk, 0, none⟩) (kO + 1) (tq + 1)) rfl (by rw [← hkO, ← htq]; exact hV) ?_
  refine De.sliceData rfl rfl rfl rfl rfl rfl ?_
  refine De.p rfl rfl rfl rfl rfl ?_
  refine De.p rfl rfl rfl rfl rfl ?_
  refine De.fieldAddr rfl rfl rfl rfl rfl rfl fa37_1 ?_
  refine De.load rfl rfl rfl rfl rfl rfl rfl rfl ag35 (by first | exact .head | exact .tail .head | exact .tail (.tail .head) | exact .tail (.tail (.tail .head)) | exact .tail (.tail (.tail (.tail .head))) | exact .app .head | exact .app (.tail .head) | exact .app (.tail (.tail .head)) | exact .app (.tail (.tail (.tail .head))) | exact .base ‹_› ‹_› (by simp)) rfl ?_
  refine De.as 11 (.slice (some ⟨bg.blk, 0, none⟩) out.length top) rfl hV ?_
  refine De.len rfl rfl rfl rfl rfl rfl (ln35 ..) ?_
  refine De.unsafeStr (g := bg) (el := 5) (out := out) (.tail .all) hb hne Tryz.underlying5 pe5 ce5 (Nat.ble_eq_true_of_le (by omega)) rfl rfl (by kernel_rfl) (by kernel_rfl) rfl rfl rfl rfl rfl rfl ?_
  refine De.p rfl rfl rfl rfl rfl ?_
  refine De.nil ?_
  refine Ne.seq ?_
  refine Ce.ret ?_
  exact Re.end_ rfl rfl (fun m hm => ⟨(), trivial, rfl, hm.sub (List.nil_sublist _)⟩)

theorem quote_bad {l : List UInt8} {m : AW} (hm : m.lo ≤ m.next) (hl : l.length ≤ 300) (hv : Lib.validD l = false) (hlay : LaidAt lays m) : Fc Tryz.prog 5 [.string ⟨⟨l⟩⟩] m fun v m' => v = .tuple ⟨[.string ⟨⟨[]⟩⟩, .int .i64 2]⟩ ∧ Ext m m' := by
  refine Fc.body (c := _) Tryz.func5 rfl rfl rfl rfl hm ?_
  refine Ce.seq ?_
  refine Ce.region ?_
  refine Ie.p rfl rfl rfl rfl ?_
  refine Ie.p rfl rfl rfl rfl ?_
  refine Ie.nil ?_
  refine Ne.seq ?_
  refine Ce.seq ?_
  refine Ce.seq ?_
  refine Ce.region ?_
  refine Ie.p rfl rfl rfl rfl ?_
  refine Ie.call _ rfl rfl rfl rfl rfl rfl (fun m hm => valid_ok (s := ⟨⟨l⟩⟩) (by show l.length ≤ 4294967281; omega) (hlay.kr hm)) ?_
  refine Ie.as 8 (.bool false) rfl (congrArg Value.bool hv) ?_
  refine Ie.p rfl rfl rfl rfl ?_
  refine Ie.nil ?_
  refine Ne.seq ?_
  refine Ce.cond_true (rfl) ?_
  refine Ce.seq ?_
  refine Ce.region ?_
  refine Ie.p rfl rfl rfl rfl ?_
  refine Ie.p rfl rfl rfl rfl ?_
  refine Ie.nil ?_
  refine Ne.seq ?_
  refine Ce.ret ?_
  refine Re.seq ?_
  exact Re.end_ rfl rfl (fun m hm => ⟨rfl, hm.ext⟩)

theorem quote_ok {R : List Nat} {m : AW} (hm : m.lo ≤ m.next) (hl : (encL R).length ≤ 300) (hv : Lib.validD (encL R) = true) (hR : ∀ r ∈ R, okR r) (hlay : LaidAt lays m) : Fc Tryz.prog 5 [.string ⟨⟨encL R⟩⟩] m fun v m' => v = .tuple ⟨[.string ⟨⟨litT R⟩⟩, .int .i64 0]⟩ ∧ Ext m m' := by
  have h6 := escL_le6 R
  have hti : ∀ i, (escL (R.take i)).length ≤ (escL R).length := fun i => escL_take
  refine Fc.body (c := _) Tryz.func5 rfl rfl rfl rfl hm ?_
  refine Ce.seq ?_
  refine Ce.region ?_
  refine Ie.p rfl rfl rfl rfl ?_
  refine Ie.p rfl rfl rfl rfl ?_
  refine Ie.nil ?_
  refine Ne.seq ?_
  refine Ce.seq ?_
  refine Ce.seq ?_
  refine Ce.region ?_
  refine Ie.p rfl rfl rfl rfl ?_
  refine Ie.call _ rfl rfl rfl rfl rfl rfl (fun m hm => valid_ok (s := ⟨⟨encL R⟩⟩) (by show (encL R).length ≤ 4294967281; omega) (hlay.kr hm)) ?_
  refine Ie.as 8 (.bool true) rfl (congrArg Value.bool hv) ?_
  refine Ie.p rfl rfl rfl rfl ?_
  refine Ie.nil ?_
  refine Ne.seq ?_
  refine Ce.cond_false (rfl) ?_
  refine Ce.skip ?_
  refine Ne.seq ?_
  refine Ce.seq ?_
  refine Ce.region ?_
  refine Ie.alloc rfl rfl rfl rfl zr37 (fun b4 hb4 => ?_)
  refine Ie.nil ?_
  refine Ne.seq ?_
  refine Ce.seq ?_
  refine Ce.region ?_
  refine Ie.callc (fun bg2 : Gro => bg2.Ok ([] ++ [34] : List UInt8).length) (fun _ => .nilIface) (fun bg2 => BuX b4 true bg2 ([] ++ [34])) .all rfl rfl rfl rfl rfl rfl (fun m2 k1_ g2_ => wbyte_ok (ad := false) (bg := .no) (out := []) (x := 34) k1_.lole' g2_ rfl (by decide)) (fun bg3 hb3 => ?_)
  refine Ie.swap (h' := BuX b4 true bg3 (34 :: escL (R.take 0))) (List.Perm.of_eq (List.append_nil _)) ?_
  refine Ie.nil ?_
  refine Ne.seq ?_
  refine Ce.seq ?_
  refine Ce.seq ?_
  refine Ce.region ?_
  refine Ie.p rfl rfl rfl rfl ?_
  refine Ie.rangeStr rfl rfl rfl rfl Tryz.underlying9 rfl (fun b12 hb12 => ?_)
  refine Ie.swap (h' := BuX b4 true bg3 (34 :: escL (R.take 0)) ++ [(b12, .siter ⟨⟨encL R⟩⟩ (encL (R.take 0)).length)]) (List.perm_append_comm (l₁ := [_])) ?_
  refine Ie.nil ?_
  refine Ne.seq ?_
  refine Ce.block ?_
 
  refine Ce.loop (α := Nat × Gro) (fun _ => [(4, .pointer (some ⟨b4, 0, none⟩)), (12, .pointer (some ⟨b12, 0, none⟩))]) (fun q => BuX b4 true q.2 (34 :: escL (R.take q.1)) ++ [(b12, .siter ⟨⟨encL R⟩⟩ (encL (R.take q.1)).length)]) (fun q => q.1 ≤ R.length ∧ q.2.Ok (34 :: escL (R.take q.1)).length) (fun q => R.length - q.1) (0, bg3) ⟨Nat.zero_le _, hb3⟩ ⟨rfl, rfl, trivial⟩ (List.Sublist.refl _) (fun q hq => ?_)
  obtain ⟨i, bg⟩ := q
  obtain ⟨hi, hbg⟩ := hq
  simp only at hi hbg
  refine Ce.seq ?_
  refine Ce.region ?_
  by_cases hil : i < R.length
  · obtain ⟨r, hri⟩ : ∃ r, R[i]? = some r := ⟨_, List.getElem?_eq_getElem hil⟩
    refine Ie.nextStr (.over .one) rfl rfl rfl rfl rfl (enc_lt hri) (dec_run hR hri) ?_
    refine Ie.p rfl rfl rfl rfl ?_
    refine Ie.nil ?_
    refine Ne.seq ?_
    refine Ce.seq ?_
    refine Ce.cond_true rfl ?_
    refine Ce.skip ?_
    refine Ne.seq ?_
    refine Ce.block ?_
    refine Ce.seq ?_
    refine Ce.region ?_
    refine Ie.p rfl rfl rfl rfl ?_
    refine Ie.p rfl rfl rfl rfl ?_
    refine Ie.nil ?_
    refine Ne.seq ?_
    refine Ce.region ?_
    refine Ie.p rfl rfl rfl rfl ?_
    refine Ie.call _ rfl rfl rfl rfl rfl rfl (fun m hm => escaped_ok hm.lole (hR r (List.mem_of_getElem? hri))) ?_
    refine Ie.callc (fun bg2 : Gro => bg2.Ok ((34 :: escL (R.take i)) ++ escN r).length) (fun _ => .tuple ⟨[.int .i64 (Int.ofNat (escN r).length), .nilIface]⟩) (fun bg2 => BuX b4 true bg2 ((34 :: escL (R.take i)) ++ escN r)) (.tail .here) rfl rfl rfl rfl rfl rfl (fun m2 k1_ g2_ => wstr_ok (ad := true) (bg := bg) (out := 34 :: escL (R.take i)) (s := escN r) k1_.lole' g2_ hbg (by have h_ := hti i; have h2_ := escN_le6 r; have h3_ := encN_le r; rw [List.length_cons]; omega)) (fun bg4 hb4 => ?_)
    refine Ie.nil ?_
    refine Ne.blk ?_
    exact Ne.loop (i + 1, bg4) ⟨by show i + 1 ≤ R.length; omega, by show bg4.Ok (34 :: escL (R.take (i + 1))).length; rw [← esc_step hri]; exact hb4⟩ (by show R.length - (i + 1) < R.length - i; omega) ⟨rfl, rfl, trivial⟩ (by rw [← enc_step hri, ← esc_step hri]; exact List.Sublist.refl _)
  · refine Ie.nextEnd (.over .one) rfl rfl rfl rfl rfl (enc_end (Nat.le_of_not_lt hil)) ?_
    refine Ie.p rfl rfl rfl rfl ?_
    refine Ie.nil ?_
    refine Ne.seq ?_
    refine Ce.seq ?_
    refine Ce.cond_false rfl ?_
    refine Ce.exit ?_
    refine Xe.seq ?_
    refine Xe.loop ?_
    refine Xe.here ?_
    refine Ne.seq ?_
    refine Ce.seq ?_
    refine Ce.region ?_
    refine Ie.callc (fun bg2 : Gro => bg2.Ok ((34 :: escL (R.take i)) ++ [34] : List UInt8).length) (fun _ => .nilIface) (fun bg2 => BuX b4 true bg2 ((34 :: escL (R.take i)) ++ [34])) .here rfl rfl rfl rfl rfl rfl (fun m2 k1_ g2_ => wbyte_ok (ad := true) (bg := bg) (out := (34 :: escL (R.take i))) (x := 34) k1_.lole' g2_ hbg (by have h_ := hti i; rw [List.length_cons]; omega)) (fun bg3 hb3 => ?_)
    refine Ie.nil ?_
    refine Ne.seq ?_
    refine Ce.seq ?_
    refine Ce.region ?_
    refine Ie.callc (α := Unit) (fun _ => True) (fun _ => .string ⟨⟨(34 :: escL (R.take i)) ++ [34]⟩⟩) (fun _ => []) .here rfl rfl rfl rfl rfl rfl (fun m2 k1_ g2_ => wsee_ok (ad := true) (bg := bg3) (out := (34 :: escL (R.take i)) ++ [34]) k1_.lole' g2_ hb3 (Nat.succ_pos _) (by have h_ := hti i; rw [List.length_append, List.length_cons]; show _ + 1 + 1 ≤ 1000000; omega)) (fun _ _ => ?_)
    refine Ie.p rfl rfl rfl rfl ?_
    refine Ie.p rfl rfl rfl rfl ?_
    refine Ie.nil ?_
    refine Ne.seq ?_
    refine Ce.ret ?_
    exact Re.end_ rfl rfl (fun m hm => ⟨by show Value.tuple ⟨[.string ⟨⟨34 :: (escL (R.take i) ++ [34])⟩⟩, .int .i64 0]⟩ = _; rw [List.take_of_length_le (Nat.le_of_not_lt hil)]; rfl, hm.ext⟩)

theorem hex4_ok {c : Nat} {m : AW} (hm : m.lo ≤ m.next) (hc : c < 128) : Fc Tryz.prog 20 [.int .i32 (Int.ofNat (c))] m fun v m' => v = .string ⟨⟨[48, 48, hexC (c / 16), hexC (c % 16)]⟩⟩ ∧ Ext m m' := by
  have hmod : ∀ i, c / 16 ^ i % 16 < 16 := fun i => Nat.mod_lt _ (by decide)
  refine Fc.body (c := _) Tryz.func20 rfl rfl rfl rfl hm ?_
  refine Ce.seq ?_
  refine Ce.region ?_
  refine Ie.p rfl rfl rfl rfl ?_
  refine Ie.nil ?_
  refine Ne.seq ?_
  refine Ce.seq ?_
  refine Ce.region ?_
  refine Ie.p rfl rfl rfl rfl ?_
  refine Ie.nil ?_
  refine Ne.seq ?_
  refine Ce.seq ?_
  refine Ce.seq ?_
  refine Ce.region ?_
  refine Ie.p rfl rfl rfl rfl ?_
  refine Ie.nil ?_
  refine Ne.seq ?_
  refine Ce.block ?_
 
  refine Ce.loop (α := Nat) (fun i => [(0, .int .i32 (Int.ofNat (c / 16 ^ i))), (3, .string ⟨⟨hexD c i⟩⟩), (4, .int .i64 (Int.ofNat i))]) (fun _ => []) (fun i => i ≤ 4) (fun i => 4 - i) 0 (Nat.zero_le _) ⟨by show _ = some (Value.int .i32 (Int.ofNat (c / 16 ^ 0))); rw [Nat.pow_zero, Nat.div_one]; rfl, rfl, rfl, trivial⟩ (List.Sublist.refl _) (fun i hi => ?_)
  refine Ce.seq ?_
  refine Ce.seq ?_
  refine Ce.region ?_
  refine Ie.p rfl rfl rfl rfl ?_
  refine Ie.p rfl rfl rfl rfl ?_
  refine Ie.nil ?_
  refine Ne.seq ?_
  refine Ce.cond rfl (fun ht6 => ?_) (fun ht6 => ?_)
  · (try simp only [decide_eq_true_eq, decide_eq_false_iff_not, nrm_lt, nrm_nlt, nrm_eq, nrm_neq, nrm_seq, nrm_sneq, nrm_sempty, nrm_snempty, nrm_ofNat, Bool.not_eq_true', Bool.not_eq_false'] at ht6)
    have hmi := hmod i
    refine Ce.skip ?_
    refine Ne.seq ?_
    refine Ce.seq ?_
    refine Ce.block ?_
    refine Ce.seq ?_
    refine Ce.region ?_
    refine Ie.p rfl rfl rfl rfl ?_
    refine Ie.bin (v := .int .i32 (Int.ofNat (c / 16 ^ i % 16))) rfl rfl rfl rfl rfl rfl (binS_rem (b := Int.ofNat 16) (by decide)) ?_
    refine Ie.p rfl rfl rfl rfl ?_
    refine Ie.bin (v := .int .i32 (Int.ofNat (c / 16 ^ i % 16))) rfl rfl rfl rfl rfl rfl (binS_rem (b := Int.ofNat 16) (by decide)) ?_
    refine Ie.p rfl rfl rfl rfl ?_
    refine Ie.as 13 (.int .i32 (Int.ofNat (c / 16 ^ i % 16 + 1))) rfl (congrArg (Value.int .i32) (by rw [show Int.ofNat (c / 16 ^ i % 16) + 1 = Int.ofNat (c / 16 ^ i % 16 + 1) from rfl]; exact wr32 (by omega))) ?_
    refine Ie.p (v := .string ⟨⟨[hexC (c / 16 ^ i % 16)]⟩⟩) rfl rfl rfl ((strMid_E (l := hexL) (a := c / 16 ^ i % 16) (b := c / 16 ^ i % 16 + 1) rfl rfl rfl Tryz.underlying9 (by omega) (by show _ ≤ 16; omega)).trans (congrArg (fun z : List UInt8 => some (Value.string ⟨⟨z⟩⟩)) (hex_mid (by omega)))) ?_
    refine Ie.p rfl rfl rfl rfl ?_
    refine Ie.bin (v := .string ⟨⟨[hexC (c / 16 ^ i % 16)] ++ hexD c i⟩⟩) rfl rfl rfl rfl rfl rfl (binS_catL (by rw [hexD_len]; show 1 + i ≤ 4294967296; omega)) ?_
    refine Ie.p rfl rfl rfl rfl ?_
    refine Ie.nil ?_
    refine Ne.seq ?_
    refine Ce.region ?_
    refine Ie.p rfl rfl rfl rfl ?_
    refine Ie.bin rfl rfl rfl rfl rfl rfl (binS_quo (b := Int.ofNat 16) (by decide)) ?_
    refine Ie.as 18 (.int .i32 (Int.ofNat (c / 16 ^ (i + 1)))) rfl (congrArg (Value.int .i32) (div_pow hc)) ?_
    refine Ie.p rfl rfl rfl rfl ?_
    refine Ie.nil ?_
    refine Ne.blk ?_
    refine Ne.seq ?_
    refine Ce.region ?_
    refine Ie.p rfl rfl rfl rfl ?_
    refine Ie.p rfl rfl rfl rfl ?_
    refine Ie.as 8 (.int .i64 (Int.ofNat (i + 1))) rfl (congrArg (Value.int .i64) (wr_succ (by omega))) ?_
    refine Ie.p rfl rfl rfl rfl ?_
    refine Ie.nil ?_
    exact Ne.loop (i + 1) (by omega) (by omega) ⟨rfl, rfl, rfl, trivial⟩ (List.Sublist.refl _)
  · (try simp only [decide_eq_true_eq, decide_eq_false_iff_not, nrm_lt, nrm_nlt, nrm_eq, nrm_neq, nrm_seq, nrm_sneq, nrm_sempty, nrm_snempty, nrm_ofNat, Bool.not_eq_true', Bool.not_eq_false'] at ht6)
    have hie : i = 4 := by omega
    subst hie
    refine Ce.exit ?_
    refine Xe.seq ?_
    refine Xe.loop ?_
    refine Xe.here ?_
    refine Ne.seq ?_
    refine Ce.seq ?_
    refine Ce.region ?_
    refine Ie.p rfl rfl rfl rfl ?_
    refine Ie.p rfl rfl rfl rfl ?_
    refine Ie.nil ?_
    refine Ne.seq ?_
    refine Ce.ret ?_
    exact Re.end_ rfl rfl (fun m hm => ⟨congrArg (fun z : List UInt8 => Value.string ⟨⟨z⟩⟩) (hexD_four hc), hm.ext⟩)

theorem spelled_ok {c : Nat} {m : AW} (hm : m.lo ≤ m.next) (hc : okR c) (h34 : c ≠ 34) : Fc Tryz.prog 13 [.int .i32 (Int.ofNat (c))] m fun v m' => v = .string ⟨⟨escN c⟩⟩ ∧ Ext m m' := by
  refine Fc.body (c := _) Tryz.func13 rfl rfl rfl rfl hm ?_
  refine Ce.seq ?_
  refine Ce.region ?_
  refine Ie.p rfl rfl rfl rfl ?_
  refine Ie.nil ?_
  refine Ne.seq ?_
  refine Ce.seq ?_
  refine Ce.block ?_
  refine Ce.seq ?_
  refine Ce.region ?_
  refine Ie.p rfl rfl rfl rfl ?_
  refine Ie.p rfl rfl rfl rfl ?_
  refine Ie.p rfl rfl rfl rfl ?_
  refine Ie.nil ?_
  refine Ne.seq ?_
  refine Ce.cond rfl (fun hc0 => ?_) (fun hc0 => ?_)
  · (try simp only [decide_eq_true_eq, decide_eq_false_iff_not, nrm_lt, nrm_nlt, nrm_eq, nrm_neq, nrm_seq, nrm_sneq, nrm_sempty, nrm_snempty, nrm_ofNat, Bool.not_eq_true', Bool.not_eq_false'] at hc0)
    refine Ce.seq ?_
    refine Ce.region ?_
    refine Ie.p rfl rfl rfl rfl ?_
    refine Ie.nil ?_
    refine Ne.seq ?_
    refine Ce.ret ?_
    refine Re.blk ?_
    refine Re.seq ?_
    exact Re.end_ rfl rfl (fun m hm => ⟨congrArg (fun z : List UInt8 => Value.string ⟨⟨z⟩⟩) (by first | exact esc_b (by omega) | exact esc_c (by omega) | exact esc_t (by omega) | exact esc_r (by omega) | exact esc_0 (by omega) | exact esc_h (by omega) (by omega) (by omega) (by omega) (by omega) | exact esc_o (by omega) (by omega) (by omega)), hm.ext⟩)
  · (try simp only [decide_eq_true_eq, decide_eq_false_iff_not, nrm_lt, nrm_nlt, nrm_eq, nrm_neq, nrm_seq, nrm_sneq, nrm_sempty, nrm_snempty, nrm_ofNat, Bool.not_eq_true', Bool.not_eq_false'] at hc0)
    refine Ce.seq ?_
    refine Ce.region ?_
    refine Ie.p rfl rfl rfl rfl ?_
    refine Ie.p rfl rfl rfl rfl ?_
    refine Ie.p rfl rfl rfl rfl ?_
    refine Ie.nil ?_
    refine Ne.seq ?_
    refine Ce.cond rfl (fun hc1 => ?_) (fun hc1 => ?_)
    · (try simp only [decide_eq_true_eq, decide_eq_false_iff_not, nrm_lt, nrm_nlt, nrm_eq, nrm_neq, nrm_seq, nrm_sneq, nrm_sempty, nrm_snempty, nrm_ofNat, Bool.not_eq_true', Bool.not_eq_false'] at hc1)
      refine Ce.seq ?_
      refine Ce.region ?_
      refine Ie.p rfl rfl rfl rfl ?_
      refine Ie.nil ?_
      refine Ne.seq ?_
      refine Ce.ret ?_
      refine Re.blk ?_
      refine Re.seq ?_
      exact Re.end_ rfl rfl (fun m hm => ⟨congrArg (fun z : List UInt8 => Value.string ⟨⟨z⟩⟩) (by first | exact esc_b (by omega) | exact esc_c (by omega) | exact esc_t (by omega) | exact esc_r (by omega) | exact esc_0 (by omega) | exact esc_h (by omega) (by omega) (by omega) (by omega) (by omega) | exact esc_o (by omega) (by omega) (by omega)), hm.ext⟩)
    · (try simp only [decide_eq_true_eq, decide_eq_false_iff_not, nrm_lt, nrm_nlt, nrm_eq, nrm_neq, nrm_seq, nrm_sneq, nrm_sempty, nrm_snempty, nrm_ofNat, Bool.not_eq_true', Bool.not_eq_false'] at hc1)
      refine Ce.seq ?_
      refine Ce.region ?_
      refine Ie.p rfl rfl rfl rfl ?_
      refine Ie.p rfl rfl rfl rfl ?_
      refine Ie.p rfl rfl rfl rfl ?_
      refine Ie.nil ?_
      refine Ne.seq ?_
      refine Ce.cond rfl (fun hc2 => ?_) (fun hc2 => ?_)
      · (try simp only [decide_eq_true_eq, decide_eq_false_iff_not, nrm_lt, nrm_nlt, nrm_eq, nrm_neq, nrm_seq, nrm_sneq, nrm_sempty, nrm_snempty, nrm_ofNat, Bool.not_eq_true', Bool.not_eq_false'] at hc2)
        refine Ce.seq ?_
        refine Ce.region ?_
        refine Ie.p rfl rfl rfl rfl ?_
        refine Ie.nil ?_
        refine Ne.seq ?_
        refine Ce.ret ?_
        refine Re.blk ?_
        refine Re.seq ?_
        exact Re.end_ rfl rfl (fun m hm => ⟨congrArg (fun z : List UInt8 => Value.string ⟨⟨z⟩⟩) (by first | exact esc_b (by omega) | exact esc_c (by omega) | exact esc_t (by omega) | exact esc_r (by omega) | exact esc_0 (by omega) | exact esc_h (by omega) (by omega) (by omega) (by omega) (by omega) | exact esc_o (by omega) (by omega) (by omega)), hm.ext⟩)
      · (try simp only [decide_eq_true_eq, decide_eq_false_iff_not, nrm_lt, nrm_nlt, nrm_eq, nrm_neq, nrm_seq, nrm_sneq, nrm_sempty, nrm_snempty, nrm_ofNat, Bool.not_eq_true', Bool.not_eq_false'] at hc2)
        refine Ce.seq ?_
        refine Ce.region ?_
        refine Ie.p rfl rfl rfl rfl ?_
        refine Ie.p rfl rfl rfl rfl ?_
        refine Ie.p rfl rfl rfl rfl ?_
        refine Ie.nil ?_
        refine Ne.seq ?_
        refine Ce.cond rfl (fun hc3 => ?_) (fun hc3 => ?_)
        · (try simp only [decide_eq_true_eq, decide_eq_false_iff_not, nrm_lt, nrm_nlt, nrm_eq, nrm_neq, nrm_seq, nrm_sneq, nrm_sempty, nrm_snempty, nrm_ofNat, Bool.not_eq_true', Bool.not_eq_false'] at hc3)
          refine Ce.seq ?_
          refine Ce.region ?_
          refine Ie.p rfl rfl rfl rfl ?_
          refine Ie.nil ?_
          refine Ne.seq ?_
          refine Ce.ret ?_
          refine Re.blk ?_
          refine Re.seq ?_
          exact Re.end_ rfl rfl (fun m hm => ⟨congrArg (fun z : List UInt8 => Value.string ⟨⟨z⟩⟩) (by first | exact esc_b (by omega) | exact esc_c (by omega) | exact esc_t (by omega) | exact esc_r (by omega) | exact esc_0 (by omega) | exact esc_h (by omega) (by omega) (by omega) (by omega) (by omega) | exact esc_o (by omega) (by omega) (by omega)), hm.ext⟩)
        · (try simp only [decide_eq_true_eq, decide_eq_false_iff_not, nrm_lt, nrm_nlt, nrm_eq, nrm_neq, nrm_seq, nrm_sneq, nrm_sempty, nrm_snempty, nrm_ofNat, Bool.not_eq_true', Bool.not_eq_false'] at hc3)
          refine Ce.seq ?_
          refine Ce.region ?_
          refine Ie.p rfl rfl rfl rfl ?_
          refine Ie.p rfl rfl rfl rfl ?_
          refine Ie.p rfl rfl rfl rfl ?_
          refine Ie.nil ?_
          refine Ne.seq ?_
          refine Ce.cond rfl (fun hc4 => ?_) (fun hc4 => ?_)
          · (try simp only [decide_eq_true_eq, decide_eq_false_iff_not, nrm_lt, nrm_nlt, nrm_eq, nrm_neq, nrm_seq, nrm_sneq, nrm_sempty, nrm_snempty, nrm_ofNat, Bool.not_eq_true', Bool.not_eq_false'] at hc4)
            refine Ce.seq ?_
            refine Ce.region ?_
            refine Ie.p rfl rfl rfl rfl ?_
            refine Ie.nil ?_
            refine Ne.seq ?_
            refine Ce.ret ?_
            refine Re.blk ?_
            refine Re.seq ?_
            exact Re.end_ rfl rfl (fun m hm => ⟨congrArg (fun z : List UInt8 => Value.string ⟨⟨z⟩⟩) (by first | exact esc_b (by omega) | exact esc_c (by omega) | exact esc_t (by omega) | exact esc_r (by omega) | exact esc_0 (by omega) | exact esc_h (by omega) (by omega) (by omega) (by omega) (by omega) | exact esc_o (by omega) (by omega) (by omega)), hm.ext⟩)
          · (try simp only [decide_eq_true_eq, decide_eq_false_iff_not, nrm_lt, nrm_nlt, nrm_eq, nrm_neq, nrm_seq, nrm_sneq, nrm_sempty, nrm_snempty, nrm_ofNat, Bool.not_eq_true', Bool.not_eq_false'] at hc4)
            refine Ce.seq ?_
            refine Ce.region ?_
            refine Ie.p rfl rfl rfl rfl ?_
            refine Ie.p rfl rfl rfl rfl ?_
            refine Ie.p rfl rfl rfl rfl ?_
            refine Ie.splitB 21 rfl (fun hs0 => ?_) (fun hs0 => ?_)
            · (try simp only [decide_eq_true_eq, decide_eq_false_iff_not, nrm_lt, nrm_nlt, nrm_eq, nrm_neq, nrm_seq, nrm_sneq, nrm_sempty, nrm_snempty, nrm_ofNat, Bool.not_eq_true', Bool.not_eq_false'] at hs0)
              refine Ie.off rfl rfl rfl ?_
              refine Ie.off rfl rfl rfl ?_
              refine Ie.p rfl rfl rfl rfl ?_
              refine Ie.p rfl rfl rfl rfl ?_
              refine Ie.nil ?_
              refine Ne.seq ?_
              refine Ce.cond_true rfl ?_
              refine Ce.seq ?_
              refine Ce.region ?_
              refine Ie.p rfl rfl rfl rfl ?_
              refine Ie.call _ rfl rfl rfl rfl rfl rfl (fun m hm => hex4_ok (c := c) hm.lole (by omega)) ?_
              refine Ie.bin (v := .string ⟨⟨[92, 117] ++ [48, 48, hexC (c / 16), hexC (c % 16)]⟩⟩) rfl rfl rfl rfl rfl rfl (binS_catL (by show 2 + 4 ≤ 4294967296; decide)) ?_
              refine Ie.p rfl rfl rfl rfl ?_
              refine Ie.nil ?_
              refine Ne.seq ?_
              refine Ce.ret ?_
              refine Re.blk ?_
              refine Re.seq ?_
              exact Re.end_ rfl rfl (fun m hm => ⟨congrArg (fun z : List UInt8 => Value.string ⟨⟨z⟩⟩) (by first | exact esc_b (by omega) | exact esc_c (by omega) | exact esc_t (by omega) | exact esc_r (by omega) | exact esc_0 (by omega) | exact esc_h (by omega) (by omega) (by omega) (by omega) (by omega) | exact esc_o (by omega) (by omega) (by omega)), hm.ext⟩)
            · (try simp only [decide_eq_true_eq, decide_eq_false_iff_not, nrm_lt, nrm_nlt, nrm_eq, nrm_neq, nrm_seq, nrm_sneq, nrm_sempty, nrm_snempty, nrm_ofNat, Bool.not_eq_true', Bool.not_eq_false'] at hs0)
              refine Ie.p rfl rfl rfl rfl ?_
              refine Ie.p rfl rfl rfl rfl ?_
              refine Ie.p rfl rfl rfl rfl ?_
              refine Ie.p rfl rfl rfl rfl ?_
              refine Ie.nil ?_
              refine Ne.seq ?_
              refine Ce.cond rfl (fun ht18 => ?_) (fun ht18 => ?_)
              · (try simp only [decide_eq_true_eq, decide_eq_false_iff_not, nrm_lt, nrm_nlt, nrm_eq, nrm_neq, nrm_seq, nrm_sneq, nrm_sempty, nrm_snempty, nrm_ofNat, Bool.not_eq_true', Bool.not_eq_false'] at ht18)
                have hcc : c < 32 ∨ c = 127 := by omega
                refine Ce.seq ?_
                refine Ce.region ?_
                refine Ie.p rfl rfl rfl rfl ?_
                refine Ie.call _ rfl rfl rfl rfl rfl rfl (fun m hm => hex4_ok (c := c) hm.lole (by omega)) ?_
                refine Ie.bin (v := .string ⟨⟨[92, 117] ++ [48, 48, hexC (c / 16), hexC (c % 16)]⟩⟩) rfl rfl rfl rfl rfl rfl (binS_catL (by show 2 + 4 ≤ 4294967296; decide)) ?_
                refine Ie.p rfl rfl rfl rfl ?_
                refine Ie.nil ?_
                refine Ne.seq ?_
                refine Ce.ret ?_
                refine Re.blk ?_
                refine Re.seq ?_
                exact Re.end_ rfl rfl (fun m hm => ⟨congrArg (fun z : List UInt8 => Value.string ⟨⟨z⟩⟩) (by first | exact esc_b (by omega) | exact esc_c (by omega) | exact esc_t (by omega) | exact esc_r (by omega) | exact esc_0 (by omega) | exact esc_h (by omega) (by omega) (by omega) (by omega) (by omega) | exact esc_o (by omega) (by omega) (by omega)), hm.ext⟩)
              · (try simp only [decide_eq_true_eq, decide_eq_false_iff_not, nrm_lt, nrm_nlt, nrm_eq, nrm_neq, nrm_seq, nrm_sneq, nrm_sempty, nrm_snempty, nrm_ofNat, Bool.not_eq_true', Bool.not_eq_false'] at ht18)
                refine Ce.skip ?_
                refine Ne.blk ?_
                refine Ne.seq ?_
                refine Ce.seq ?_
                refine Ce.region ?_
                refine Ie.p rfl rfl rfl rfl ?_
                refine Ie.conv rfl rfl rfl rfl rfl (by kernel_rfl) (conv_run Tryz.underlying21 Tryz.underlying9 hc) ?_
                refine Ie.p rfl rfl rfl rfl ?_
                refine Ie.nil ?_
                refine Ne.seq ?_
                refine Ce.ret ?_
                exact Re.end_ rfl rfl (fun m hm => ⟨congrArg (fun z : List UInt8 => Value.string ⟨⟨z⟩⟩) (by first | exact esc_b (by omega) | exact esc_c (by omega) | exact esc_t (by omega) | exact esc_r (by omega) | exact esc_0 (by omega) | exact esc_h (by omega) (by omega) (by omega) (by omega) (by omega) | exact esc_o (by omega) (by omega) (by omega)), hm.ext⟩)

theorem rquote_bad {l : List UInt8} {m : AW} (hm : m.lo ≤ m.next) (hl : l.length ≤ 300) (hv : Lib.validD l = false) (hlay : LaidAt lays m) : Fc Tryz.prog 6 [.string ⟨⟨l⟩⟩] m fun v m' => v = .tuple ⟨[.string ⟨⟨[]⟩⟩, .int .i64 2]⟩ ∧ Ext m m' := by
  refine Fc.body (c := _) Tryz.func6 rfl rfl rfl rfl hm ?_
  refine Ce.seq ?_
  refine Ce.region ?_
  refine Ie.p rfl rfl rfl rfl ?_
  refine Ie.p rfl rfl rfl rfl ?_
  refine Ie.nil ?_
  refine Ne.seq ?_
  refine Ce.seq ?_
  refine Ce.seq ?_
  refine Ce.region ?_
  refine Ie.p rfl rfl rfl rfl ?_
  refine Ie.call _ rfl rfl rfl rfl rfl rfl (fun m hm => valid_ok (s := ⟨⟨l⟩⟩) (by show l.length ≤ 4294967281; omega) (hlay.kr hm)) ?_
  refine Ie.as 8 (.bool false) rfl (congrArg Value.bool hv) ?_
  refine Ie.p rfl rfl rfl rfl ?_
  refine Ie.nil ?_
  refine Ne.seq ?_
  refine Ce.cond_true (rfl) ?_
  refine Ce.seq ?_
  refine Ce.region ?_
  refine Ie.p rfl rfl rfl rfl ?_
  refine Ie.p rfl rfl rfl rfl ?_
  refine Ie.nil ?_
  refine Ne.seq ?_
  refine Ce.ret ?_
  refine Re.seq ?_
  exact Re.end_ rfl rfl (fun m hm => ⟨rfl, hm.ext⟩)

theorem rquote_ok {R : List Nat} {m : AW} (hm : m.lo ≤ m.next) (hl : (encL R).length ≤ 300) (hv : Lib.validD (encL R) = true) (hR : ∀ r ∈ R, okR r) (hlay : LaidAt lays m) : Fc Tryz.prog 6 [.string ⟨⟨encL R⟩⟩] m fun v m' => v = .tuple ⟨[.string ⟨⟨litT R⟩⟩, .int .i64 0]⟩ ∧ Ext m m' := by
  have h6 := escL_le6 R
  have hti : ∀ i, (escL (R.take i)).length ≤ (escL R).length := fun i => escL_take
  refine Fc.body (c := _) Tryz.func6 rfl rfl rfl rfl hm ?_
  refine Ce.seq ?_
  refine Ce.region ?_
  refine Ie.p rfl rfl rfl rfl ?_
  refine Ie.p rfl rfl rfl rfl ?_
  refine Ie.nil ?_
  refine Ne.seq ?_
  refine Ce.seq ?_
  refine Ce.seq ?_
  refine Ce.region ?_
  refine Ie.p rfl rfl rfl rfl ?_
  refine Ie.call _ rfl rfl rfl rfl rfl rfl (fun m hm => valid_ok (s := ⟨⟨encL R⟩⟩) (by show (encL R).length ≤ 4294967281; omega) (hlay.kr hm)) ?_
  refine Ie.as 8 (.bool true) rfl (congrArg Value.bool hv) ?_
  refine Ie.p rfl rfl rfl rfl ?_
  refine Ie.nil ?_
  refine Ne.seq ?_
  refine Ce.cond_false (rfl) ?_
  refine Ce.skip ?_
  refine Ne.seq ?_
  refine Ce.seq ?_
  refine Ce.region ?_
  refine Ie.p rfl rfl rfl rfl ?_
  refine Ie.nil ?_
  refine Ne.seq ?_
  refine Ce.seq ?_
  refine Ce.seq ?_
  refine Ce.region ?_
  refine Ie.p rfl rfl rfl rfl ?_
  refine Ie.rangeStr rfl rfl rfl rfl Tryz.underlying9 rfl (fun b11 hb11 => ?_)
  refine Ie.nil ?_
  refine Ne.seq ?_
  refine Ce.block ?_
 
  refine Ce.loop (α := Nat) (fun i => [(4, .string ⟨⟨34 :: escL (R.take (i))⟩⟩), (11, .pointer (some ⟨b11, 0, none⟩))]) (fun i => [(b11, .siter ⟨⟨encL R⟩⟩ (encL (R.take (i))).length)]) (fun i => i ≤ R.length) (fun i => R.length - i) 0 (Nat.zero_le _) ⟨rfl, rfl, trivial⟩ (List.Sublist.refl _) (fun i hi => ?_)
  refine Ce.seq ?_
  refine Ce.region ?_
  by_cases hil : i < R.length
  · obtain ⟨r, hri⟩ : ∃ r, R[i]? = some r := ⟨_, List.getElem?_eq_getElem hil⟩
    refine Ie.nextStr .one rfl rfl rfl rfl rfl (enc_lt hri) (dec_run hR hri) ?_
    refine Ie.p rfl rfl rfl rfl ?_
    refine Ie.nil ?_
    refine Ne.seq ?_
    refine Ce.seq ?_
    refine Ce.cond_true rfl ?_
    refine Ce.skip ?_
    refine Ne.seq ?_
    refine Ce.block ?_
    refine Ce.seq ?_
    refine Ce.region ?_
    refine Ie.p rfl rfl rfl rfl ?_
    refine Ie.p rfl rfl rfl rfl ?_
    refine Ie.nil ?_
    refine Ne.seq ?_
    refine Ce.seq ?_
    refine Ce.region ?_
    refine Ie.p rfl rfl rfl rfl ?_
    refine Ie.p rfl rfl rfl rfl ?_
    refine Ie.nil ?_
    refine Ne.seq ?_
    refine Ce.cond rfl (fun ht16 => ?_) (fun ht16 => ?_)
    · (try simp only [decide_eq_true_eq, decide_eq_false_iff_not, nrm_lt, nrm_nlt, nrm_eq, nrm_neq, nrm_seq, nrm_sneq, nrm_sempty, nrm_snempty, nrm_ofNat, Bool.not_eq_true', Bool.not_eq_false'] at ht16)
      have hr34 : r = 34 := by omega
      refine Ce.region ?_
      refine Ie.p rfl rfl rfl rfl ?_
      refine Ie.bin (v := .string ⟨⟨(34 :: escL (R.take i)) ++ [92, 34]⟩⟩) rfl rfl rfl rfl rfl rfl (binS_catL (by have h_ := hti i; have h2_ := escN_le6 r; have h3_ := encN_le r; rw [List.length_cons]; show _ + 1 + 2 ≤ 4294967296; omega)) ?_
      refine Ie.as 18 (.string ⟨⟨34 :: escL (R.take (i + 1))⟩⟩) rfl (congrArg (fun z : List UInt8 => Value.string ⟨⟨z⟩⟩) (by rw [← esc_step hri, hr34]; rfl)) ?_
      refine Ie.p rfl rfl rfl rfl ?_
      refine Ie.nil ?_
      refine Ne.blk ?_
      exact Ne.loop (i + 1) (by omega) (by omega) ⟨rfl, rfl, trivial⟩ (by rw [← enc_step hri]; exact List.Sublist.refl _)
    · (try simp only [decide_eq_true_eq, decide_eq_false_iff_not, nrm_lt, nrm_nlt, nrm_eq, nrm_neq, nrm_seq, nrm_sneq, nrm_sempty, nrm_snempty, nrm_ofNat, Bool.not_eq_true', Bool.not_eq_false'] at ht16)
      refine Ce.region ?_
      refine Ie.p rfl rfl rfl rfl ?_
      refine Ie.p rfl rfl rfl rfl ?_
      refine Ie.call _ rfl rfl rfl rfl rfl rfl (fun m hm => spelled_ok hm.lole (hR r (List.mem_of_getElem? hri)) (by omega)) ?_
      refine Ie.bin (v := .string ⟨⟨(34 :: escL (R.take i)) ++ escN r⟩⟩) rfl rfl rfl rfl rfl rfl (binS_catL (by have h_ := hti i; have h2_ := escN_le6 r; have h3_ := encN_le r; rw [List.length_cons]; omega)) ?_
      refine Ie.as 22 (.string ⟨⟨34 :: escL (R.take (i + 1))⟩⟩) rfl (congrArg (fun z : List UInt8 => Value.string ⟨⟨z⟩⟩) (by rw [← esc_step hri]; rfl)) ?_
      refine Ie.p rfl rfl rfl rfl ?_
      refine Ie.nil ?_
      refine Ne.blk ?_
      exact Ne.loop (i + 1) (by omega) (by omega) ⟨rfl, rfl, trivial⟩ (by rw [← enc_step hri]; exact List.Sublist.refl _)
  · refine Ie.nextEnd .one rfl rfl rfl rfl rfl (enc_end (Nat.le_of_not_lt hil)) ?_
    refine Ie.p rfl rfl rfl rfl ?_
    refine Ie.nil ?_
    refine Ne.seq ?_
    refine Ce.seq ?_
    refine Ce.cond_false rfl ?_
    refine Ce.exit ?_
    refine Xe.seq ?_
    refine Xe.loop ?_
    refine Xe.here ?_
    refine Ne.seq ?_
    refine Ce.seq ?_
    refine Ce.region ?_
    refine Ie.p rfl rfl rfl rfl ?_
    refine Ie.bin (v := .string ⟨⟨(34 :: escL (R.take i)) ++ [34]⟩⟩) rfl rfl rfl rfl rfl rfl (binS_catL (by have h_ := hti i; rw [List.length_cons]; show _ + 1 + 1 ≤ 4294967296; omega)) ?_
    refine Ie.p rfl rfl rfl rfl ?_
    refine Ie.p rfl rfl rfl rfl ?_
    refine Ie.nil ?_
    refine Ne.seq ?_
    refine Ce.ret ?_
    exact Re.end_ rfl rfl (fun m hm => ⟨by show Value.tuple ⟨[.string ⟨⟨34 :: (escL (R.take i) ++ [34])⟩⟩, .int .i64 0]⟩ = _; rw [List.take_of_length_le (Nat.le_of_not_lt hil)]; rfl, hm.ext⟩)

theorem tok2_ok {R : List Nat} {m : AW} (hm : m.lo ≤ m.next) (hR : ∀ r ∈ R, okR r) (hTl : (litT R).length ≤ 4000) (hlay : LaidAt lays m) : Fc Tryz.prog 7 [.string ⟨⟨litT R⟩⟩] m fun v m' => ∃ x : Nat × Option Nat × Hp, True ∧ v = .tuple ⟨[.slice (some ⟨x.1, 0, none⟩) 2 top, .agg ⟨[.int .i64 0, .int .i64 0]⟩]⟩ ∧ Ext m m' ∧ News m m' ((x.1, .cells [.int .i64 6, .string ⟨⟨encL R⟩⟩, .int .i64 0, .int .i64 0, .int .i64 0, .string ⟨⟨[]⟩⟩, .int .i64 0, .int .i64 (Int.ofNat (litT R).length)] 32 true .plain x.2.1) :: x.2.2) :=
  (tok_ok hm hR hTl hlay).mono fun _ _ ⟨x, ⟨hF, hO⟩, e1, e2, e3⟩ => by
    obtain ⟨b, mate, r, hV, hH⟩ := Gro.first (el := 32) (cs := x.2) hO (by decide)
    have hc : x.2 = [.int .i64 6, .string ⟨⟨encL R⟩⟩, .int .i64 0, .int .i64 0, .int .i64 0, .string ⟨⟨[]⟩⟩, .int .i64 0, .int .i64 (Int.ofNat (litT R).length)] := by
      obtain ⟨x1, x2⟩ := x
      simp only at hF ⊢
      exact two_of hF.1 (hF.2 0 _ rfl) (hF.2 1 _ rfl)
    rw [hH, hc] at e3
    exact ⟨(b, mate, r), trivial, by rw [e1, hV], e2, e3⟩
theorem tok_fld (d : Nat) (n : Int) : eqA Tryz.prog (d + 1) 3 (.int .i64 n) (.int .i64 n) = some true := by
  unfold eqA
  simp only [Tryz.underlying3]
  show eqBase _ _ = _
  unfold eqBase
  simp [eqI_eq]
theorem tok_fld2 (d : Nat) (n : Int) : eqA Tryz.prog (d + 1) 2 (.int .i64 n) (.int .i64 n) = some true := by
  unfold eqA
  simp only [Tryz.underlying2]
  show eqBase _ _ = _
  unfold eqBase
  simp [eqI_eq]
theorem tok_str (d : Nat) (s : ByteArray) : eqA Tryz.prog (d + 1) 9 (.string s) (.string s) = some true := by
  unfold eqA
  simp only [Tryz.underlying9]
  show eqBase _ _ = _
  unfold eqBase
  simp [eqBytes_eq]
theorem tok_part (a b c : Int) (s : ByteArray) : partA Tryz.prog 3 [.int .i64 a, .string s, .int .i64 b, .int .i64 c] 0 = some (.int .i64 a) ∧ partA Tryz.prog 9 [.int .i64 a, .string s, .int .i64 b, .int .i64 c] 1 = some (.string s) ∧ partA Tryz.prog 2 [.int .i64 a, .string s, .int .i64 b, .int .i64 c] 2 = some (.int .i64 b) ∧ partA Tryz.prog 3 [.int .i64 a, .string s, .int .i64 b, .int .i64 c] 3 = some (.int .i64 c) := ⟨by kernel_rfl, by kernel_rfl, by kernel_rfl, by kernel_rfl⟩
theorem tok_held : Tryz.prog.stoodInHeld 32 = false := by kernel_rfl
theorem tok_eqA (a b c : Int) (s : ByteArray) : eqA Tryz.prog 10000 32 (.agg ⟨[.int .i64 a, .string s, .int .i64 b, .int .i64 c]⟩) (.agg ⟨[.int .i64 a, .string s, .int .i64 b, .int .i64 c]⟩) = some true := by
  obtain ⟨h0, h1, h2, h3⟩ := tok_part a b c s
  rw [show (10000 : Nat) = 9998 + 1 + 1 from rfl]
  unfold eqA
  simp only [Tryz.underlying32, tok_held, cond_false]
  simp [eqFields, h0, h1, h2, h3, tok_fld, tok_fld2, tok_str]
theorem tok_eq (xo yo : Operand) (a b c : Int) (s : ByteArray) : binS Tryz.prog .eql 32 xo yo (.agg ⟨[.int .i64 a, .string s, .int .i64 b, .int .i64 c]⟩) (.agg ⟨[.int .i64 a, .string s, .int .i64 b, .int .i64 c]⟩) = some (.bool true) := by
  have h : binA Tryz.prog .eql 32 xo yo (.agg ⟨[.int .i64 a, .string s, .int .i64 b, .int .i64 c]⟩) (.agg ⟨[.int .i64 a, .string s, .int .i64 b, .int .i64 c]⟩) = some (.bool true) := by
    unfold binA
    simp only
    unfold binEq
    have hg : (guardOk Tryz.prog 32 xo yo (.agg ⟨[.int .i64 a, .string s, .int .i64 b, .int .i64 c]⟩) (.agg ⟨[.int .i64 a, .string s, .int .i64 b, .int .i64 c]⟩) && (notSym (.agg ⟨[.int .i64 a, .string s, .int .i64 b, .int .i64 c]⟩) && notSym (.agg ⟨[.int .i64 a, .string s, .int .i64 b, .int .i64 c]⟩))) = true := by kernel_rfl
    rw [hg]
    simp only [cond_true, tok_eqA]
    rfl
  unfold binS
  rw [h]

theorem quotes_big {l : List UInt8} {m : AW} (hm : m.lo ≤ m.next) (hl : 300 < l.length) (hlay : LaidAt lays m) : Fc Tryz.prog 3 [.string ⟨⟨l⟩⟩] m fun v m' => v = .bool true ∧ Ext m m' := by
  have hsz : (⟨⟨l⟩⟩ : ByteArray).size = l.length := rfl
  refine Fc.body (c := _) Tryz.func3 rfl rfl rfl rfl hm ?_
  refine Ce.seq ?_
  refine Ce.region ?_
  refine Ie.p rfl rfl rfl rfl ?_
  refine Ie.nil ?_
  refine Ne.seq ?_
  refine Ce.seq ?_
  refine Ce.seq ?_
  refine Ce.region ?_
  refine Ie.p rfl rfl rfl rfl ?_
  refine Ie.len rfl rfl rfl rfl rfl (ln9 ..) ?_
  refine Ie.p rfl rfl rfl rfl ?_
  refine Ie.as 11 (.bool true) rfl (congrArg Value.bool (by rw [ltI_eq]; exact decide_eq_true (by simp only [Int.ofNat_eq_natCast]; omega))) ?_
  refine Ie.nil ?_
  refine Ne.seq ?_
  refine Ce.cond_true rfl ?_
  refine Ce.seq ?_
  refine Ce.region ?_
  refine Ie.call _ rfl rfl rfl rfl rfl rfl (fun m hm => awake_ok (hlay.kr hm)) ?_
  refine Ie.p rfl rfl rfl rfl ?_
  refine Ie.nil ?_
  refine Ne.seq ?_
  refine Ce.ret ?_
  refine Re.seq ?_
  exact Re.end_ rfl rfl (fun m hm => ⟨rfl, hm.ext⟩)

theorem quotes_bad {l : List UInt8} {m : AW} (hm : m.lo ≤ m.next) (hl : l.length ≤ 300) (hv : Lib.validD l = false) (hlay : LaidAt lays m) : Fc Tryz.prog 3 [.string ⟨⟨l⟩⟩] m fun v m' => v = .bool true ∧ Ext m m' := by
  have hsz : (⟨⟨l⟩⟩ : ByteArray).size = l.length := rfl
  refine Fc.body (c := _) Tryz.func3 rfl rfl rfl rfl hm ?_
  refine Ce.seq ?_
  refine Ce.region ?_
  refine Ie.p rfl rfl rfl rfl ?_
  refine Ie.nil ?_
  refine Ne.seq ?_
  refine Ce.seq ?_
  refine Ce.seq ?_
  refine Ce.region ?_
  refine Ie.p rfl rfl rfl rfl ?_
  refine Ie.len rfl rfl rfl rfl rfl (ln9 ..) ?_
  refine Ie.p rfl rfl rfl rfl ?_
  refine Ie.as 11 (.bool false) rfl (congrArg Value.bool (by rw [ltI_eq]; exact decide_eq_false (by simp only [Int.ofNat_eq_natCast]; omega))) ?_
  refine Ie.nil ?_
  refine Ne.seq ?_
  refine Ce.cond_false rfl ?_
  refine Ce.skip ?_
  refine Ne.seq ?_
  refine Ce.seq ?_
  refine Ce.region ?_
  refine Ie.p rfl rfl rfl rfl ?_
  refine Ie.call _ rfl rfl rfl rfl rfl rfl (fun m hm => quote_bad hm.lole hl hv (hlay.kr hm)) ?_
  refine Ie.p rfl rfl rfl rfl ?_
  refine Ie.p rfl rfl rfl rfl ?_
  refine Ie.p rfl rfl rfl rfl ?_
  refine Ie.p rfl rfl rfl rfl ?_
  refine Ie.p rfl rfl rfl rfl ?_
  refine Ie.nil ?_
  refine Ne.seq ?_
  refine Ce.seq ?_
  refine Ce.region ?_
  refine Ie.p rfl rfl rfl rfl ?_
  refine Ie.call _ rfl rfl rfl rfl rfl rfl (fun m hm => rquote_bad hm.lole hl hv (hlay.kr hm)) ?_
  refine Ie.p rfl rfl rfl rfl ?_
  refine Ie.p rfl rfl rfl rfl ?_
  refine Ie.p rfl rfl rfl rfl ?_
  refine Ie.p rfl rfl rfl rfl ?_
  refine Ie.p rfl rfl rfl rfl ?_
  refine Ie.nil ?_
  refine Ne.seq ?_
  refine Ce.seq ?_
  refine Ce.seq ?_
  refine Ce.region ?_
  refine Ie.p rfl rfl rfl rfl ?_
  refine Ie.p rfl rfl rfl rfl ?_
  refine Ie.p rfl rfl rfl rfl ?_
  refine Ie.as 25 (.bool false) rfl (congrArg Value.bool (rfl)) ?_
  refine Ie.p rfl rfl rfl rfl ?_
  refine Ie.p rfl rfl rfl rfl ?_
  refine Ie.p rfl rfl rfl rfl ?_
  refine Ie.p rfl rfl rfl rfl ?_
  refine Ie.as 29 (.bool false) rfl (congrArg Value.bool (rfl)) ?_
  refine Ie.p rfl rfl rfl rfl ?_
  refine Ie.nil ?_
  refine Ne.seq ?_
  refine Ce.cond_false rfl ?_
  refine Ce.skip ?_
  refine Ne.seq ?_
  refine Ce.seq ?_
  refine Ce.seq ?_
  refine Ce.region ?_
  refine Ie.p rfl rfl rfl rfl ?_
  refine Ie.p rfl rfl rfl rfl ?_
  refine Ie.as 32 (.bool true) rfl (congrArg Value.bool (rfl)) ?_
  refine Ie.nil ?_
  refine Ne.seq ?_
  refine Ce.cond_true rfl ?_
  refine Ce.seq ?_
  refine Ce.region ?_
  refine Ie.call _ rfl rfl rfl rfl rfl rfl (fun m hm => awake_ok (hlay.kr hm)) ?_
  refine Ie.p rfl rfl rfl rfl ?_
  refine Ie.nil ?_
  refine Ne.seq ?_
  refine Ce.ret ?_
  refine Re.seq ?_
  exact Re.end_ rfl rfl (fun m hm => ⟨rfl, hm.ext⟩)

theorem quotes_good {R : List Nat} {m : AW} (hm : m.lo ≤ m.next) (hl : (encL R).length ≤ 300) (hv : Lib.validD (encL R) = true) (hR : ∀ r ∈ R, okR r) (hlay : LaidAt lays m) : Fc Tryz.prog 3 [.string ⟨⟨encL R⟩⟩] m fun v m' => v = .bool true ∧ Ext m m' := by
  have hsz : (⟨⟨encL R⟩⟩ : ByteArray).size = (encL R).length := rfl
  have h6 := escL_le6 R
  have hlt : (litT R).length ≤ 4000 := by rw [litT_len]; omega
  refine Fc.body (c := _) Tryz.func3 rfl rfl rfl rfl hm ?_
  refine Ce.seq ?_
  refine Ce.region ?_
  refine Ie.p rfl rfl rfl rfl ?_
  refine Ie.nil ?_
  refine Ne.seq ?_
  refine Ce.seq ?_
  refine Ce.seq ?_
  refine Ce.region ?_
  refine Ie.p rfl rfl rfl rfl ?_
  refine Ie.len rfl rfl rfl rfl rfl (ln9 ..) ?_
  refine Ie.p rfl rfl rfl rfl ?_
  refine Ie.as 11 (.bool false) rfl (congrArg Value.bool (by rw [ltI_eq]; exact decide_eq_false (by simp only [Int.ofNat_eq_natCast]; omega))) ?_
  refine Ie.nil ?_
  refine Ne.seq ?_
  refine Ce.cond_false rfl ?_
  refine Ce.skip ?_
  refine Ne.seq ?_
  refine Ce.seq ?_
  refine Ce.region ?_
  refine Ie.p rfl rfl rfl rfl ?_
  refine Ie.call _ rfl rfl rfl rfl rfl rfl (fun m hm => quote_ok hm.lole hl hv hR (hlay.kr hm)) ?_
  refine Ie.p rfl rfl rfl rfl ?_
  refine Ie.p rfl rfl rfl rfl ?_
  refine Ie.p rfl rfl rfl rfl ?_
  refine Ie.p rfl rfl rfl rfl ?_
  refine Ie.p rfl rfl rfl rfl ?_
  refine Ie.nil ?_
  refine Ne.seq ?_
  refine Ce.seq ?_
  refine Ce.region ?_
  refine Ie.p rfl rfl rfl rfl ?_
  refine Ie.call _ rfl rfl rfl rfl rfl rfl (fun m hm => rquote_ok hm.lole hl hv hR (hlay.kr hm)) ?_
  refine Ie.p rfl rfl rfl rfl ?_
  refine Ie.p rfl rfl rfl rfl ?_
  refine Ie.p rfl rfl rfl rfl ?_
  refine Ie.p rfl rfl rfl rfl ?_
  refine Ie.p rfl rfl rfl rfl ?_
  refine Ie.nil ?_
  refine Ne.seq ?_
  refine Ce.seq ?_
  refine Ce.seq ?_
  refine Ce.region ?_
  refine Ie.p rfl rfl rfl rfl ?_
  refine Ie.p rfl rfl rfl rfl ?_
  refine Ie.p rfl rfl rfl rfl ?_
  refine Ie.as 25 (.bool false) rfl (congrArg Value.bool (by rw [eqBytes_eq, decide_eq_true rfl]; rfl)) ?_
  refine Ie.p rfl rfl rfl rfl ?_
  refine Ie.p rfl rfl rfl rfl ?_
  refine Ie.p rfl rfl rfl rfl ?_
  refine Ie.p rfl rfl rfl rfl ?_
  refine Ie.as 29 (.bool false) rfl (congrArg Value.bool (rfl)) ?_
  refine Ie.p rfl rfl rfl rfl ?_
  refine Ie.nil ?_
  refine Ne.seq ?_
  refine Ce.cond_false rfl ?_
  refine Ce.skip ?_
  refine Ne.seq ?_
  refine Ce.seq ?_
  refine Ce.seq ?_
  refine Ce.region ?_
  refine Ie.p rfl rfl rfl rfl ?_
  refine Ie.p rfl rfl rfl rfl ?_
  refine Ie.as 32 (.bool false) rfl (congrArg Value.bool (rfl)) ?_
  refine Ie.nil ?_
  refine Ne.seq ?_
  refine Ce.cond_false rfl ?_
  refine Ce.skip ?_
  refine Ne.seq ?_
  refine Ce.seq ?_
  refine Ce.region ?_
  refine Ie.p rfl rfl rfl rfl ?_
  refine Ie.calln _ _ _ rfl rfl rfl rfl rfl rfl (fun m hm => tok2_ok hm.lole hR hlt (hlay.kr hm)) (fun x _ => ?_)
  obtain ⟨bt, mate, rt⟩ := x
  refine Ie.p rfl rfl rfl rfl ?_
  refine Ie.p rfl rfl rfl rfl ?_
  refine Ie.p rfl rfl rfl rfl ?_
  refine Ie.alloc rfl rfl rfl rfl zr28 (fun b8 hb8 => ?_)
  refine Ie.p rfl rfl rfl rfl ?_
  refine Ie.store rfl rfl rfl rfl rfl sz28 rfl (by first | exact .head | exact .tail .head | exact .tail (.tail .head) | exact .tail (.tail (.tail .head)) | exact updo) rfl ?_
  refine Ie.nil ?_
  refine Ne.seq ?_
  refine Ce.seq ?_
  refine Ce.region ?_
  refine Ie.call _ rfl rfl rfl rfl rfl rfl (fun m hm => awake_ok (hlay.kr hm)) ?_
  refine Ie.p rfl rfl rfl rfl ?_
  refine Ie.loadAgg rfl rfl rfl rfl rfl ag28 sz28 (by first | exact .head | exact .tail .head | exact .tail (.tail .head) | exact .tail (.tail (.tail .head)) | exact .tail (.tail (.tail (.tail .head))) | exact .app .head | exact .app (.tail .head) | exact .app (.tail (.tail .head)) | exact .app (.tail (.tail (.tail .head))) | exact .base ‹_› ‹_› (by simp)) (Nat.le_of_ble_eq_true rfl) rfl ?_
  refine Ie.p (v := .agg ⟨[.int .i64 0, .int .i64 0]⟩) rfl rfl rfl (by kernel_rfl) ?_
  refine Ie.bin (v := .bool true) rfl rfl rfl rfl rfl rfl (by kernel_rfl) ?_
  refine Ie.p rfl rfl rfl rfl ?_
  refine Ie.p rfl rfl rfl rfl ?_
  refine Ie.p rfl rfl rfl rfl ?_
  refine Ie.len rfl rfl rfl rfl rfl (ln26 ..) ?_
  refine Ie.p rfl rfl rfl rfl ?_
  refine Ie.as 48 (.bool true) rfl (congrArg Value.bool (rfl)) ?_
  refine Ie.p rfl rfl rfl rfl ?_
  refine Ie.p rfl rfl rfl rfl ?_
  refine Ie.p rfl rfl rfl rfl ?_
  refine Ie.indexAddr rfl rfl rfl rfl Tryz.underlying26 sz32 rfl rfl (by decide) ?_
  refine Ie.loadAgg rfl rfl rfl rfl rfl ag32 sz32 (by first | exact .head | exact .tail .head | exact .tail (.tail .head) | exact .tail (.tail (.tail .head)) | exact .tail (.tail (.tail (.tail .head))) | exact .app .head | exact .app (.tail .head) | exact .app (.tail (.tail .head)) | exact .app (.tail (.tail (.tail .head))) | exact .base ‹_› ‹_› (by simp)) (Nat.le_of_ble_eq_true rfl) rfl ?_
  refine Ie.p rfl rfl rfl rfl ?_
  refine Ie.p (v := .agg ⟨[.int .i64 6, .string ⟨⟨encL R⟩⟩, .int .i64 0, .int .i64 0]⟩) rfl rfl rfl (by kernel_rfl) ?_
  refine Ie.bin (v := .bool true) rfl rfl rfl rfl rfl rfl (tok_eq ..) ?_
  refine Ie.p rfl rfl rfl rfl ?_
  refine Ie.p rfl rfl rfl rfl ?_
  refine Ie.nil ?_
  refine Ne.seq ?_
  refine Ce.ret ?_
  exact Re.end_ rfl rfl (fun m hm => ⟨rfl, hm.ext⟩)

theorem quotes_ok {s : ByteArray} {m : AW} (hm : m.lo ≤ m.next) (hlay : LaidAt lays m) : Fc Tryz.prog 3 [.string s] m fun v m' => v = .bool true ∧ Ext m m' := by
  obtain ⟨⟨l⟩⟩ := s
  by_cases hl : l.length ≤ 300
  · cases hv : Lib.validD l with
    | false => exact quotes_bad hm hl hv hlay
    | true =>
      obtain ⟨R, hR, rfl⟩ := runes_of l.length hv (Nat.le_refl _)
      exact quotes_good hm hl hv hR hlay
  · exact quotes_big hm (by omega) hlay

end Go.Proofs.YtdgbgmpnjggikaaGreatDoor
