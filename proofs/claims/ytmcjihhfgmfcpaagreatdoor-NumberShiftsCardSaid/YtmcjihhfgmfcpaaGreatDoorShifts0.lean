/-
  NumberShifts: the functions that it calls, followed, 0. Conditions: none.
-/
import Derived.Test.YtmcjihhfgmfcpaaGreatDoorAwk
import Derived.Test.YtmcjihhfgmfcpaaGreatDoorPla
namespace Go.Proofs.YtmcjihhfgmfcpaaGreatDoor
open Go Go.Ab
theorem ag2 : aggT Tryz.prog 2 = some false := by kernel_rfl
theorem ag54 : aggT Tryz.prog 54 = some false := by kernel_rfl
theorem ag55 : aggT Tryz.prog 55 = some false := by kernel_rfl
theorem ag59 : aggT Tryz.prog 59 = some true := by kernel_rfl
theorem fa59_0 : ∀ b off, fieldAddrA Tryz.prog 59 (.pointer (some ⟨b, off, none⟩)) 0 = some (.pointer (some ⟨b, off + 0, none⟩)) := fun _ _ => by kernel_rfl
theorem fa59_1 : ∀ b off, fieldAddrA Tryz.prog 59 (.pointer (some ⟨b, off, none⟩)) 1 = some (.pointer (some ⟨b, off + 1, none⟩)) := fun _ _ => by kernel_rfl
theorem fa59_2 : ∀ b off, fieldAddrA Tryz.prog 59 (.pointer (some ⟨b, off, none⟩)) 2 = some (.pointer (some ⟨b, off + 9, none⟩)) := fun _ _ => by kernel_rfl
theorem fa59_3 : ∀ b off, fieldAddrA Tryz.prog 59 (.pointer (some ⟨b, off, none⟩)) 3 = some (.pointer (some ⟨b, off + 10, none⟩)) := fun _ _ => by kernel_rfl
theorem sz55 : sizeT Tryz.prog 55 = some 1 := by kernel_rfl
theorem sz59 : sizeT Tryz.prog 59 = some 16 := by kernel_rfl
theorem zr59 : zeroT Tryz.prog 59 = some (.agg ⟨[.nilFunc, .nilFunc, .nilFunc, .nilFunc, .nilFunc, .nilFunc, .nilFunc, .nilFunc, .nilFunc, .nilFunc, .nilFunc, .nilFunc, .nilFunc, .nilFunc, .nilFunc, .int .i64 0]⟩) := by kernel_rfl
theorem cl_u8_1 {n : Int} {m : AW} (hm : m.lo ≤ m.next) (h : Fit .i64 n) : Fc Tryz.prog 82 [.int .i64 n] m fun v m' => v = .int .i64 (wr .u8 n) ∧ Ext m m' := by
  refine Fc.body (c := _) Tryz.func82 rfl rfl rfl rfl hm ?_
  refine Ce.seq ?_
  refine Ce.region ?_
  refine Ie.p rfl rfl rfl rfl ?_
  refine Ie.nil ?_
  refine Ne.seq ?_
  refine Ce.seq ?_
  refine Ce.region ?_
  refine Ie.p rfl rfl rfl rfl ?_
  refine Ie.convInt rfl rfl rfl rfl Tryz.underlying2 Tryz.underlying5 rfl ?_
  refine Ie.convInt rfl rfl rfl rfl Tryz.underlying5 Tryz.underlying2 rfl ?_
  refine Ie.p rfl rfl rfl rfl ?_
  refine Ie.nil ?_
  refine Ne.seq ?_
  refine Ce.ret ?_
  exact Re.end_ rfl rfl (fun m hm => ⟨congrArg (Value.int .i64) (wr64 _ _ (by decide) (by decide)), hm.ext⟩)

theorem cl_u8_4 {a b : Int} {m : AW} (hm : m.lo ≤ m.next) (ha : Fit .u8 a) (hb : Fit .u8 b) : Fc Tryz.prog 85 [.int .i64 a, .int .i64 b] m fun v m' => v = .int .i64 (wr .u8 (a * b)) ∧ Ext m m' := by
  refine Fc.body (c := _) Tryz.func85 rfl rfl rfl rfl hm ?_
  refine Ce.seq ?_
  refine Ce.region ?_
  refine Ie.p rfl rfl rfl rfl ?_
  refine Ie.nil ?_
  refine Ne.seq ?_
  refine Ce.seq ?_
  refine Ce.region ?_
  refine Ie.p rfl rfl rfl rfl ?_
  refine Ie.convInt rfl rfl rfl rfl Tryz.underlying2 Tryz.underlying5 rfl ?_
  refine Ie.p rfl rfl rfl rfl ?_
  refine Ie.convInt rfl rfl rfl rfl Tryz.underlying2 Tryz.underlying5 rfl ?_
  refine Ie.p rfl rfl rfl rfl ?_
  refine Ie.convInt rfl rfl rfl rfl Tryz.underlying5 Tryz.underlying2 rfl ?_
  refine Ie.p rfl rfl rfl rfl ?_
  refine Ie.nil ?_
  refine Ne.seq ?_
  refine Ce.ret ?_
  exact Re.end_ rfl rfl (fun m hm => ⟨congrArg (Value.int .i64) ((by rw [wr64 _ _ (by decide) (by decide)]; simp only [show wr .u8 a = a from ha, show wr .u8 b = b from hb])), hm.ext⟩)

theorem cl_i32_1 {n : Int} {m : AW} (hm : m.lo ≤ m.next) (h : Fit .i64 n) : Fc Tryz.prog 97 [.int .i64 n] m fun v m' => v = .int .i64 (wr .i32 n) ∧ Ext m m' := by
  refine Fc.body (c := _) Tryz.func97 rfl rfl rfl rfl hm ?_
  refine Ce.seq ?_
  refine Ce.region ?_
  refine Ie.p rfl rfl rfl rfl ?_
  refine Ie.nil ?_
  refine Ne.seq ?_
  refine Ce.seq ?_
  refine Ce.region ?_
  refine Ie.p rfl rfl rfl rfl ?_
  refine Ie.convInt rfl rfl rfl rfl Tryz.underlying2 Tryz.underlying21 rfl ?_
  refine Ie.convInt rfl rfl rfl rfl Tryz.underlying21 Tryz.underlying2 rfl ?_
  refine Ie.p rfl rfl rfl rfl ?_
  refine Ie.nil ?_
  refine Ne.seq ?_
  refine Ce.ret ?_
  exact Re.end_ rfl rfl (fun m hm => ⟨congrArg (Value.int .i64) (wr64 _ _ (by decide) (by decide)), hm.ext⟩)

theorem cl_i32_4 {a b : Int} {m : AW} (hm : m.lo ≤ m.next) (ha : Fit .i32 a) (hb : Fit .i32 b) : Fc Tryz.prog 100 [.int .i64 a, .int .i64 b] m fun v m' => v = .int .i64 (wr .i32 (a * b)) ∧ Ext m m' := by
  refine Fc.body (c := _) Tryz.func100 rfl rfl rfl rfl hm ?_
  refine Ce.seq ?_
  refine Ce.region ?_
  refine Ie.p rfl rfl rfl rfl ?_
  refine Ie.nil ?_
  refine Ne.seq ?_
  refine Ce.seq ?_
  refine Ce.region ?_
  refine Ie.p rfl rfl rfl rfl ?_
  refine Ie.convInt rfl rfl rfl rfl Tryz.underlying2 Tryz.underlying21 rfl ?_
  refine Ie.p rfl rfl rfl rfl ?_
  refine Ie.convInt rfl rfl rfl rfl Tryz.underlying2 Tryz.underlying21 rfl ?_
  refine Ie.p rfl rfl rfl rfl ?_
  refine Ie.convInt rfl rfl rfl rfl Tryz.underlying21 Tryz.underlying2 rfl ?_
  refine Ie.p rfl rfl rfl rfl ?_
  refine Ie.nil ?_
  refine Ne.seq ?_
  refine Ce.ret ?_
  exact Re.end_ rfl rfl (fun m hm => ⟨congrArg (Value.int .i64) ((by rw [wr64 _ _ (by decide) (by decide)]; simp only [show wr .i32 a = a from ha, show wr .i32 b = b from hb])), hm.ext⟩)

theorem cl_i64_1 {n : Int} {m : AW} (hm : m.lo ≤ m.next) (h : Fit .i64 n) : Fc Tryz.prog 112 [.int .i64 n] m fun v m' => v = .int .i64 (wr .i64 n) ∧ Ext m m' := by
  refine Fc.body (c := _) Tryz.func112 rfl rfl rfl rfl hm ?_
  refine Ce.seq ?_
  refine Ce.region ?_
  refine Ie.p rfl rfl rfl rfl ?_
  refine Ie.nil ?_
  refine Ne.seq ?_
  refine Ce.seq ?_
  refine Ce.region ?_
  refine Ie.p rfl rfl rfl rfl ?_
  refine Ie.p rfl rfl rfl rfl ?_
  refine Ie.nil ?_
  refine Ne.seq ?_
  refine Ce.ret ?_
  exact Re.end_ rfl rfl (fun m hm => ⟨congrArg (Value.int .i64) (h.symm), hm.ext⟩)

theorem cl_i64_4 {a b : Int} {m : AW} (hm : m.lo ≤ m.next) (ha : Fit .i64 a) (hb : Fit .i64 b) : Fc Tryz.prog 115 [.int .i64 a, .int .i64 b] m fun v m' => v = .int .i64 (wr .i64 (a * b)) ∧ Ext m m' := by
  refine Fc.body (c := _) Tryz.func115 rfl rfl rfl rfl hm ?_
  refine Ce.seq ?_
  refine Ce.region ?_
  refine Ie.p rfl rfl rfl rfl ?_
  refine Ie.nil ?_
  refine Ne.seq ?_
  refine Ce.seq ?_
  refine Ce.region ?_
  refine Ie.p rfl rfl rfl rfl ?_
  refine Ie.p rfl rfl rfl rfl ?_
  refine Ie.p rfl rfl rfl rfl ?_
  refine Ie.p rfl rfl rfl rfl ?_
  refine Ie.nil ?_
  refine Ne.seq ?_
  refine Ce.ret ?_
  exact Re.end_ rfl rfl (fun m hm => ⟨congrArg (Value.int .i64) (rfl), hm.ext⟩)

theorem shl_in_u8 {a : Int} {j : Nat} {m : AW} (hm : m.lo ≤ m.next) {wb : Nat} (hw : m.heap.get wb = some (.cells [.int .i64 8] 2 false .plain none)) (hwl : wb < m.next) (ha : Fit .u8 a) (hj : j < 8) : Fc Tryz.prog 91 [.int .i64 a, .int .i64 (Int.ofNat j), .pointer (some ⟨wb, 0, none⟩)] m fun v m' => v = .int .i64 (wr .u8 (a * 2 ^ j)) ∧ Ext m m' := by
  refine Fc.body (c := _) Tryz.func91 rfl rfl rfl rfl hm ?_
  refine Ce.seq ?_
  refine Ce.region ?_
  refine Ie.p rfl rfl rfl rfl ?_
  refine Ie.nil ?_
  refine Ne.seq ?_
  refine Ce.seq ?_
  refine Ce.seq ?_
  refine Ce.region ?_
  refine Ie.p rfl rfl rfl rfl ?_
  refine Ie.p rfl rfl rfl rfl ?_
  refine Ie.p rfl rfl rfl rfl ?_
  refine Ie.splitB 8 rfl (fun hs0 => ?_) (fun hs0 => ?_)
  · simp [ltI_eq] at hs0; omega
  · refine Ie.p rfl rfl rfl rfl ?_
    refine Ie.load rfl rfl rfl rfl rfl ag2 (.base hw hwl (by simp)) rfl ?_
    refine Ie.p rfl rfl rfl rfl ?_
    refine Ie.p rfl rfl rfl rfl ?_
    refine Ie.nil ?_
    refine Ne.seq ?_
    refine Ce.cond rfl (fun hc0 => ?_) (fun hc0 => ?_)
    · simp [ltI_eq] at hc0; omega
    · refine Ce.skip ?_
      refine Ne.seq ?_
      refine Ce.seq ?_
      refine Ce.region ?_
      refine Ie.p rfl rfl rfl rfl ?_
      refine Ie.convInt rfl rfl rfl rfl Tryz.underlying2 Tryz.underlying5 rfl ?_
      refine Ie.p rfl rfl rfl rfl ?_
      refine Ie.convInt rfl rfl rfl rfl Tryz.underlying2 Tryz.underlying35 rfl ?_
      refine Ie.as 16 (.int .u64 (Int.ofNat j)) rfl (by rw [wr_in] <;> simp [IntKind.min, IntKind.max, IntKind.signed, IntKind.bits] <;> omega) ?_
      refine Ie.bin rfl rfl rfl rfl rfl rfl (binS_shl (by simp [IntKind.bits]; omega)) ?_
      refine Ie.convInt rfl rfl rfl rfl Tryz.underlying5 Tryz.underlying2 rfl ?_
      refine Ie.p rfl rfl rfl rfl ?_
      refine Ie.nil ?_
      refine Ne.seq ?_
      refine Ce.ret ?_
      exact Re.end_ rfl rfl (fun m hm => ⟨congrArg (Value.int .i64) ((by rw [wr64 _ _ (by decide) (by decide)]; simp only [show wr .u8 a = a from ha])), hm.ext⟩)

theorem shr_big_u8 {a y : Int} {m : AW} (hm : m.lo ≤ m.next) {wb : Nat} (hw : m.heap.get wb = some (.cells [.int .i64 8] 2 false .plain none)) (hwl : wb < m.next) (ha : Fit .u8 a) (hy : 0 ≤ y) (hy2 : 8 ≤ y) : Fc Tryz.prog 92 [.int .i64 a, .int .i64 y, .pointer (some ⟨wb, 0, none⟩)] m fun v m' => v = .int .i64 (0) ∧ Ext m m' := by
  refine Fc.body (c := _) Tryz.func92 rfl rfl rfl rfl hm ?_
  refine Ce.seq ?_
  refine Ce.region ?_
  refine Ie.p rfl rfl rfl rfl ?_
  refine Ie.nil ?_
  refine Ne.seq ?_
  refine Ce.seq ?_
  refine Ce.seq ?_
  refine Ce.region ?_
  refine Ie.p rfl rfl rfl rfl ?_
  refine Ie.p rfl rfl rfl rfl ?_
  refine Ie.p rfl rfl rfl rfl ?_
  refine Ie.splitB 8 rfl (fun hs0 => ?_) (fun hs0 => ?_)
  · simp [ltI_eq] at hs0; omega
  · refine Ie.p rfl rfl rfl rfl ?_
    refine Ie.load rfl rfl rfl rfl rfl ag2 (.base hw hwl (by simp)) rfl ?_
    refine Ie.p rfl rfl rfl rfl ?_
    refine Ie.p rfl rfl rfl rfl ?_
    refine Ie.nil ?_
    refine Ne.seq ?_
    refine Ce.cond rfl (fun hc0 => ?_) (fun hc0 => ?_)
    · refine Ce.seq ?_
      refine Ce.seq ?_
      refine Ce.region ?_
      refine Ie.p rfl rfl rfl rfl ?_
      refine Ie.convInt rfl rfl rfl rfl Tryz.underlying2 Tryz.underlying5 rfl ?_
      refine Ie.p rfl rfl rfl rfl ?_
      refine Ie.nil ?_
      refine Ne.seq ?_
      refine Ce.cond rfl (fun hc1 => ?_) (fun hc1 => ?_)
      · (have := (wr_range .u8 a).1; simp [ltI_eq] at hc1; simp [IntKind.min, IntKind.signed] at this; omega)
      · refine Ce.skip ?_
        refine Ne.seq ?_
        refine Ce.seq ?_
        refine Ce.region ?_
        refine Ie.p rfl rfl rfl rfl ?_
        refine Ie.nil ?_
        refine Ne.seq ?_
        refine Ce.ret ?_
        refine Re.seq ?_
        exact Re.end_ rfl rfl (fun m hm => ⟨rfl, hm.ext⟩)
    · simp [ltI_eq] at hc0; omega

theorem shr_in_u8 {a : Int} {j : Nat} {m : AW} (hm : m.lo ≤ m.next) {wb : Nat} (hw : m.heap.get wb = some (.cells [.int .i64 8] 2 false .plain none)) (hwl : wb < m.next) (ha : Fit .u8 a) (hj : j < 8) : Fc Tryz.prog 92 [.int .i64 a, .int .i64 (Int.ofNat j), .pointer (some ⟨wb, 0, none⟩)] m fun v m' => v = .int .i64 (a.fdiv (2 ^ j)) ∧ Ext m m' := by
  refine Fc.body (c := _) Tryz.func92 rfl rfl rfl rfl hm ?_
  refine Ce.seq ?_
  refine Ce.region ?_
  refine Ie.p rfl rfl rfl rfl ?_
  refine Ie.nil ?_
  refine Ne.seq ?_
  refine Ce.seq ?_
  refine Ce.seq ?_
  refine Ce.region ?_
  refine Ie.p rfl rfl rfl rfl ?_
  refine Ie.p rfl rfl rfl rfl ?_
  refine Ie.p rfl rfl rfl rfl ?_
  refine Ie.splitB 8 rfl (fun hs0 => ?_) (fun hs0 => ?_)
  · simp [ltI_eq] at hs0; omega
  · refine Ie.p rfl rfl rfl rfl ?_
    refine Ie.load rfl rfl rfl rfl rfl ag2 (.base hw hwl (by simp)) rfl ?_
    refine Ie.p rfl rfl rfl rfl ?_
    refine Ie.p rfl rfl rfl rfl ?_
    refine Ie.nil ?_
    refine Ne.seq ?_
    refine Ce.cond rfl (fun hc0 => ?_) (fun hc0 => ?_)
    · simp [ltI_eq] at hc0; omega
    · refine Ce.skip ?_
      refine Ne.seq ?_
      refine Ce.seq ?_
      refine Ce.region ?_
      refine Ie.p rfl rfl rfl rfl ?_
      refine Ie.convInt rfl rfl rfl rfl Tryz.underlying2 Tryz.underlying5 rfl ?_
      refine Ie.p rfl rfl rfl rfl ?_
      refine Ie.convInt rfl rfl rfl rfl Tryz.underlying2 Tryz.underlying35 rfl ?_
      refine Ie.as 19 (.int .u64 (Int.ofNat j)) rfl (by rw [wr_in] <;> simp [IntKind.min, IntKind.max, IntKind.signed, IntKind.bits] <;> omega) ?_
      refine Ie.bin rfl rfl rfl rfl rfl rfl (binS_shr (by simp [IntKind.bits]; omega)) ?_
      refine Ie.convInt rfl rfl rfl rfl Tryz.underlying5 Tryz.underlying2 rfl ?_
      refine Ie.p rfl rfl rfl rfl ?_
      refine Ie.nil ?_
      refine Ne.seq ?_
      refine Ce.ret ?_
      exact Re.end_ rfl rfl (fun m hm => ⟨congrArg (Value.int .i64) ((by rw [show wr .u8 a = a from ha]; exact (fit_shr ha j).le (by decide) (by decide))), hm.ext⟩)

theorem shl_in_i32 {a : Int} {j : Nat} {m : AW} (hm : m.lo ≤ m.next) {wb : Nat} (hw : m.heap.get wb = some (.cells [.int .i64 32] 2 false .plain none)) (hwl : wb < m.next) (ha : Fit .i32 a) (hj : j < 32) : Fc Tryz.prog 106 [.int .i64 a, .int .i64 (Int.ofNat j), .pointer (some ⟨wb, 0, none⟩)] m fun v m' => v = .int .i64 (wr .i32 (a * 2 ^ j)) ∧ Ext m m' := by
  refine Fc.body (c := _) Tryz.func106 rfl rfl rfl rfl hm ?_
  refine Ce.seq ?_
  refine Ce.region ?_
  refine Ie.p rfl rfl rfl rfl ?_
  refine Ie.nil ?_
  refine Ne.seq ?_
  refine Ce.seq ?_
  refine Ce.seq ?_
  refine Ce.region ?_
  refine Ie.p rfl rfl rfl rfl ?_
  refine Ie.p rfl rfl rfl rfl ?_
  refine Ie.p rfl rfl rfl rfl ?_
  refine Ie.splitB 8 rfl (fun hs0 => ?_) (fun hs0 => ?_)
  · simp [ltI_eq] at hs0; omega
  · refine Ie.p rfl rfl rfl rfl ?_
    refine Ie.load rfl rfl rfl rfl rfl ag2 (.base hw hwl (by simp)) rfl ?_
    refine Ie.p rfl rfl rfl rfl ?_
    refine Ie.p rfl rfl rfl rfl ?_
    refine Ie.nil ?_
    refine Ne.seq ?_
    refine Ce.cond rfl (fun hc0 => ?_) (fun hc0 => ?_)
    · simp [ltI_eq] at hc0; omega
    · refine Ce.skip ?_
      refine Ne.seq ?_
      refine Ce.seq ?_
      refine Ce.region ?_
      refine Ie.p rfl rfl rfl rfl ?_
      refine Ie.convInt rfl rfl rfl rfl Tryz.underlying2 Tryz.underlying21 rfl ?_
      refine Ie.p rfl rfl rfl rfl ?_
      refine Ie.convInt rfl rfl rfl rfl Tryz.underlying2 Tryz.underlying35 rfl ?_
      refine Ie.as 16 (.int .u64 (Int.ofNat j)) rfl (by rw [wr_in] <;> simp [IntKind.min, IntKind.max, IntKind.signed, IntKind.bits] <;> omega) ?_
      refine Ie.bin rfl rfl rfl rfl rfl rfl (binS_shl (by simp [IntKind.bits]; omega)) ?_
      refine Ie.convInt rfl rfl rfl rfl Tryz.underlying21 Tryz.underlying2 rfl ?_
      refine Ie.p rfl rfl rfl rfl ?_
      refine Ie.nil ?_
      refine Ne.seq ?_
      refine Ce.ret ?_
      exact Re.end_ rfl rfl (fun m hm => ⟨congrArg (Value.int .i64) ((by rw [wr64 _ _ (by decide) (by decide)]; simp only [show wr .i32 a = a from ha])), hm.ext⟩)

theorem shr_big_i32 {a y : Int} {m : AW} (hm : m.lo ≤ m.next) {wb : Nat} (hw : m.heap.get wb = some (.cells [.int .i64 32] 2 false .plain none)) (hwl : wb < m.next) (ha : Fit .i32 a) (hy : 0 ≤ y) (hy2 : 32 ≤ y) : Fc Tryz.prog 107 [.int .i64 a, .int .i64 y, .pointer (some ⟨wb, 0, none⟩)] m fun v m' => v = .int .i64 (if a < 0 then -1 else 0) ∧ Ext m m' := by
  refine Fc.body (c := _) Tryz.func107 rfl rfl rfl rfl hm ?_
  refine Ce.seq ?_
  refine Ce.region ?_
  refine Ie.p rfl rfl rfl rfl ?_
  refine Ie.nil ?_
  refine Ne.seq ?_
  refine Ce.seq ?_
  refine Ce.seq ?_
  refine Ce.region ?_
  refine Ie.p rfl rfl rfl rfl ?_
  refine Ie.p rfl rfl rfl rfl ?_
  refine Ie.p rfl rfl rfl rfl ?_
  refine Ie.splitB 8 rfl (fun hs0 => ?_) (fun hs0 => ?_)
  · simp [ltI_eq] at hs0; omega
  · refine Ie.p rfl rfl rfl rfl ?_
    refine Ie.load rfl rfl rfl rfl rfl ag2 (.base hw hwl (by simp)) rfl ?_
    refine Ie.p rfl rfl rfl rfl ?_
    refine Ie.p rfl rfl rfl rfl ?_
    refine Ie.nil ?_
    refine Ne.seq ?_
    refine Ce.cond rfl (fun hc0 => ?_) (fun hc0 => ?_)
    · refine Ce.seq ?_
      refine Ce.seq ?_
      refine Ce.region ?_
      refine Ie.p rfl rfl rfl rfl ?_
      refine Ie.convInt rfl rfl rfl rfl Tryz.underlying2 Tryz.underlying21 rfl ?_
      refine Ie.p rfl rfl rfl rfl ?_
      refine Ie.nil ?_
      refine Ne.seq ?_
      refine Ce.cond rfl (fun hc1 => ?_) (fun hc1 => ?_)
      · refine Ce.seq ?_
        refine Ce.region ?_
        refine Ie.p rfl rfl rfl rfl ?_
        refine Ie.nil ?_
        refine Ne.seq ?_
        refine Ce.ret ?_
        refine Re.seq ?_
        refine Re.seq ?_
        exact Re.end_ rfl rfl (fun m hm => ⟨by rw [if_pos (by simpa [ltI_eq, show wr .i32 a = a from ha] using hc1)]; rfl, hm.ext⟩)
      · refine Ce.skip ?_
        refine Ne.seq ?_
        refine Ce.seq ?_
        refine Ce.region ?_
        refine Ie.p rfl rfl rfl rfl ?_
        refine Ie.nil ?_
        refine Ne.seq ?_
        refine Ce.ret ?_
        refine Re.seq ?_
        exact Re.end_ rfl rfl (fun m hm => ⟨by rw [if_neg (by simpa [ltI_eq, show wr .i32 a = a from ha] using hc1)]; rfl, hm.ext⟩)
    · simp [ltI_eq] at hc0; omega

theorem shr_in_i32 {a : Int} {j : Nat} {m : AW} (hm : m.lo ≤ m.next) {wb : Nat} (hw : m.heap.get wb = some (.cells [.int .i64 32] 2 false .plain none)) (hwl : wb < m.next) (ha : Fit .i32 a) (hj : j < 32) : Fc Tryz.prog 107 [.int .i64 a, .int .i64 (Int.ofNat j), .pointer (some ⟨wb, 0, none⟩)] m fun v m' => v = .int .i64 (a.fdiv (2 ^ j)) ∧ Ext m m' := by
  refine Fc.body (c := _) Tryz.func107 rfl rfl rfl rfl hm ?_
  refine Ce.seq ?_
  refine Ce.region ?_
  refine Ie.p rfl rfl rfl rfl ?_
  refine Ie.nil ?_
  refine Ne.seq ?_
  refine Ce.seq ?_
  refine Ce.seq ?_
  refine Ce.region ?_
  refine Ie.p rfl rfl rfl rfl ?_
  refine Ie.p rfl rfl rfl rfl ?_
  refine Ie.p rfl rfl rfl rfl ?_
  refine Ie.splitB 8 rfl (fun hs0 => ?_) (fun hs0 => ?_)
  · simp [ltI_eq] at hs0; omega
  · refine Ie.p rfl rfl rfl rfl ?_
    refine Ie.load rfl rfl rfl rfl rfl ag2 (.base hw hwl (by simp)) rfl ?_
    refine Ie.p rfl rfl rfl rfl ?_
    refine Ie.p rfl rfl rfl rfl ?_
    refine Ie.nil ?_
    refine Ne.seq ?_
    refine Ce.cond rfl (fun hc0 => ?_) (fun hc0 => ?_)
    · simp [ltI_eq] at hc0; omega
    · refine Ce.skip ?_
      refine Ne.seq ?_
      refine Ce.seq ?_
      refine Ce.region ?_
      refine Ie.p rfl rfl rfl rfl ?_
      refine Ie.convInt rfl rfl rfl rfl Tryz.underlying2 Tryz.underlying21 rfl ?_
      refine Ie.p rfl rfl rfl rfl ?_
      refine Ie.convInt rfl rfl rfl rfl Tryz.underlying2 Tryz.underlying35 rfl ?_
      refine Ie.as 19 (.int .u64 (Int.ofNat j)) rfl (by rw [wr_in] <;> simp [IntKind.min, IntKind.max, IntKind.signed, IntKind.bits] <;> omega) ?_
      refine Ie.bin rfl rfl rfl rfl rfl rfl (binS_shr (by simp [IntKind.bits]; omega)) ?_
      refine Ie.convInt rfl rfl rfl rfl Tryz.underlying21 Tryz.underlying2 rfl ?_
      refine Ie.p rfl rfl rfl rfl ?_
      refine Ie.nil ?_
      refine Ne.seq ?_
      refine Ce.ret ?_
      exact Re.end_ rfl rfl (fun m hm => ⟨congrArg (Value.int .i64) ((by rw [show wr .i32 a = a from ha]; exact (fit_shr ha j).le (by decide) (by decide))), hm.ext⟩)

theorem shl_in_i64 {a : Int} {j : Nat} {m : AW} (hm : m.lo ≤ m.next) {wb : Nat} (hw : m.heap.get wb = some (.cells [.int .i64 64] 2 false .plain none)) (hwl : wb < m.next) (ha : Fit .i64 a) (hj : j < 64) : Fc Tryz.prog 121 [.int .i64 a, .int .i64 (Int.ofNat j), .pointer (some ⟨wb, 0, none⟩)] m fun v m' => v = .int .i64 (wr .i64 (a * 2 ^ j)) ∧ Ext m m' := by
  refine Fc.body (c := _) Tryz.func121 rfl rfl rfl rfl hm ?_
  refine Ce.seq ?_
  refine Ce.region ?_
  refine Ie.p rfl rfl rfl rfl ?_
  refine Ie.nil ?_
  refine Ne.seq ?_
  refine Ce.seq ?_
  refine Ce.seq ?_
  refine Ce.region ?_
  refine Ie.p rfl rfl rfl rfl ?_
  refine Ie.p rfl rfl rfl rfl ?_
  refine Ie.p rfl rfl rfl rfl ?_
  refine Ie.splitB 8 rfl (fun hs0 => ?_) (fun hs0 => ?_)
  · simp [ltI_eq] at hs0; omega
  · refine Ie.p rfl rfl rfl rfl ?_
    refine Ie.load rfl rfl rfl rfl rfl ag2 (.base hw hwl (by simp)) rfl ?_
    refine Ie.p rfl rfl rfl rfl ?_
    refine Ie.p rfl rfl rfl rfl ?_
    refine Ie.nil ?_
    refine Ne.seq ?_
    refine Ce.cond rfl (fun hc0 => ?_) (fun hc0 => ?_)
    · simp [ltI_eq] at hc0; omega
    · refine Ce.skip ?_
      refine Ne.seq ?_
      refine Ce.seq ?_
      refine Ce.region ?_
      refine Ie.p rfl rfl rfl rfl ?_
      refine Ie.p rfl rfl rfl rfl ?_
      refine Ie.convInt rfl rfl rfl rfl Tryz.underlying2 Tryz.underlying35 rfl ?_
      refine Ie.as 15 (.int .u64 (Int.ofNat j)) rfl (by rw [wr_in] <;> simp [IntKind.min, IntKind.max, IntKind.signed, IntKind.bits] <;> omega) ?_
      refine Ie.bin rfl rfl rfl rfl rfl rfl (binS_shl (by simp [IntKind.bits]; omega)) ?_
      refine Ie.p rfl rfl rfl rfl ?_
      refine Ie.nil ?_
      refine Ne.seq ?_
      refine Ce.ret ?_
      exact Re.end_ rfl rfl (fun m hm => ⟨congrArg (Value.int .i64) (rfl), hm.ext⟩)

theorem shr_big_i64 {a y : Int} {m : AW} (hm : m.lo ≤ m.next) {wb : Nat} (hw : m.heap.get wb = some (.cells [.int .i64 64] 2 false .plain none)) (hwl : wb < m.next) (ha : Fit .i64 a) (hy : 0 ≤ y) (hy2 : 64 ≤ y) : Fc Tryz.prog 122 [.int .i64 a, .int .i64 y, .pointer (some ⟨wb, 0, none⟩)] m fun v m' => v = .int .i64 (if a < 0 then -1 else 0) ∧ Ext m m' := by
  refine Fc.body (c := _) Tryz.func122 rfl rfl rfl rfl hm ?_
  refine Ce.seq ?_
  refine Ce.region ?_
  refine Ie.p rfl rfl rfl rfl ?_
  refine Ie.nil ?_
  refine Ne.seq ?_
  refine Ce.seq ?_
  refine Ce.seq ?_
  refine Ce.region ?_
  refine Ie.p rfl rfl rfl rfl ?_
  refine Ie.p rfl rfl rfl rfl ?_
  refine Ie.p rfl rfl rfl rfl ?_
  refine Ie.splitB 8 rfl (fun hs0 => ?_) (fun hs0 => ?_)
  · simp [ltI_eq] at hs0; omega
  · refine Ie.p rfl rfl rfl rfl ?_
    refine Ie.load rfl rfl rfl rfl rfl ag2 (.base hw hwl (by simp)) rfl ?_
    refine Ie.p rfl rfl rfl rfl ?_
    refine Ie.p rfl rfl rfl rfl ?_
    refine Ie.nil ?_
    refine Ne.seq ?_
    refine Ce.cond rfl (fun hc0 => ?_) (fun hc0 => ?_)
    · refine Ce.seq ?_
      refine Ce.seq ?_
      refine Ce.region ?_
      refine Ie.p rfl rfl rfl rfl ?_
      refine Ie.p rfl rfl rfl rfl ?_
      refine Ie.nil ?_
      refine Ne.seq ?_
      refine Ce.cond rfl (fun hc1 => ?_) (fun hc1 => ?_)
      · refine Ce.seq ?_
        refine Ce.region ?_
        refine Ie.p rfl rfl rfl rfl ?_
        refine Ie.nil ?_
        refine Ne.seq ?_
        refine Ce.ret ?_
        refine Re.seq ?_
        refine Re.seq ?_
        exact Re.end_ rfl rfl (fun m hm => ⟨by rw [if_pos (by simpa [ltI_eq] using hc1)]; rfl, hm.ext⟩)
      · refine Ce.skip ?_
        refine Ne.seq ?_
        refine Ce.seq ?_
        refine Ce.region ?_
        refine Ie.p rfl rfl rfl rfl ?_
        refine Ie.nil ?_
        refine Ne.seq ?_
        refine Ce.ret ?_
        refine Re.seq ?_
        exact Re.end_ rfl rfl (fun m hm => ⟨by rw [if_neg (by simpa [ltI_eq] using hc1)]; rfl, hm.ext⟩)
    · simp [ltI_eq] at hc0; omega

theorem shr_in_i64 {a : Int} {j : Nat} {m : AW} (hm : m.lo ≤ m.next) {wb : Nat} (hw : m.heap.get wb = some (.cells [.int .i64 64] 2 false .plain none)) (hwl : wb < m.next) (ha : Fit .i64 a) (hj : j < 64) : Fc Tryz.prog 122 [.int .i64 a, .int .i64 (Int.ofNat j), .pointer (some ⟨wb, 0, none⟩)] m fun v m' => v = .int .i64 (a.fdiv (2 ^ j)) ∧ Ext m m' := by
  refine Fc.body (c := _) Tryz.func122 rfl rfl rfl rfl hm ?_
  refine Ce.seq ?_
  refine Ce.region ?_
  refine Ie.p rfl rfl rfl rfl ?_
  refine Ie.nil ?_
  refine Ne.seq ?_
  refine Ce.seq ?_
  refine Ce.seq ?_
  refine Ce.region ?_
  refine Ie.p rfl rfl rfl rfl ?_
  refine Ie.p rfl rfl rfl rfl ?_
  refine Ie.p rfl rfl rfl rfl ?_
  refine Ie.splitB 8 rfl (fun hs0 => ?_) (fun hs0 => ?_)
  · simp [ltI_eq] at hs0; omega
  · refine Ie.p rfl rfl rfl rfl ?_
    refine Ie.load rfl rfl rfl rfl rfl ag2 (.base hw hwl (by simp)) rfl ?_
    refine Ie.p rfl rfl rfl rfl ?_
    refine Ie.p rfl rfl rfl rfl ?_
    refine Ie.nil ?_
    refine Ne.seq ?_
    refine Ce.cond rfl (fun hc0 => ?_) (fun hc0 => ?_)
    · simp [ltI_eq] at hc0; omega
    · refine Ce.skip ?_
      refine Ne.seq ?_
      refine Ce.seq ?_
      refine Ce.region ?_
      refine Ie.p rfl rfl rfl rfl ?_
      refine Ie.p rfl rfl rfl rfl ?_
      refine Ie.convInt rfl rfl rfl rfl Tryz.underlying2 Tryz.underlying35 rfl ?_
      refine Ie.as 17 (.int .u64 (Int.ofNat j)) rfl (by rw [wr_in] <;> simp [IntKind.min, IntKind.max, IntKind.signed, IntKind.bits] <;> omega) ?_
      refine Ie.bin rfl rfl rfl rfl rfl rfl (binS_shr (by simp [IntKind.bits]; omega)) ?_
      refine Ie.p rfl rfl rfl rfl ?_
      refine Ie.nil ?_
      refine Ne.seq ?_
      refine Ce.ret ?_
      exact Re.end_ rfl rfl (fun m hm => ⟨congrArg (Value.int .i64) (rfl), hm.ext⟩)

def tab_u8 (b : Nat) : List Value := [.func (.func 82) ⟨[]⟩ ⟨[]⟩, .func (.func 83) ⟨[]⟩ ⟨[]⟩, .func (.func 84) ⟨[]⟩ ⟨[]⟩, .func (.func 85) ⟨[]⟩ ⟨[]⟩, .func (.func 86) ⟨[]⟩ ⟨[]⟩, .func (.func 87) ⟨[]⟩ ⟨[]⟩, .func (.func 88) ⟨[]⟩ ⟨[]⟩, .func (.func 89) ⟨[]⟩ ⟨[]⟩, .func (.func 90) ⟨[]⟩ ⟨[]⟩, .func (.func 91) ⟨[]⟩ ⟨[.pointer (some ⟨b, 0, none⟩)]⟩, .func (.func 92) ⟨[]⟩ ⟨[.pointer (some ⟨b, 0, none⟩)]⟩, .func (.func 93) ⟨[]⟩ ⟨[]⟩, .func (.func 94) ⟨[]⟩ ⟨[]⟩, .func (.func 95) ⟨[]⟩ ⟨[]⟩, .func (.func 96) ⟨[]⟩ ⟨[]⟩, .int .i64 1]
theorem ints_u8 {m : AW} (hm : m.lo ≤ m.next) : Fc Tryz.prog 59 [.int .i64 8] m fun v m' => ∃ b, True ∧ v = .agg ⟨tab_u8 b⟩ ∧ Ext m m' ∧ News m m' [(b, .cells [.int .i64 8] 2 false .plain none)] := by
  refine Fc.body (c := _) Tryz.func59 rfl rfl rfl rfl hm ?_
  refine Ce.seq ?_
  refine Ce.region ?_
  refine Ie.box rfl rfl rfl rfl rfl (fun b1 hb1 => ?_)
  refine Ie.alloc rfl rfl rfl rfl zr59 (fun b2 hb2 => ?_)
  refine Ie.nil ?_
  refine Ne.seq ?_
  refine Ce.seq ?_
  refine Ce.region ?_
  refine Ie.p (v := .agg ⟨[.func (.func 83) ⟨[]⟩ ⟨[]⟩, .func (.func 84) ⟨[]⟩ ⟨[]⟩, .func (.func 85) ⟨[]⟩ ⟨[]⟩, .func (.func 86) ⟨[]⟩ ⟨[]⟩, .func (.func 87) ⟨[]⟩ ⟨[]⟩, .func (.func 88) ⟨[]⟩ ⟨[]⟩, .func (.func 89) ⟨[]⟩ ⟨[]⟩, .func (.func 90) ⟨[]⟩ ⟨[]⟩]⟩) rfl rfl rfl (by kernel_rfl) ?_
  refine Ie.p rfl rfl rfl rfl ?_
  refine Ie.p rfl rfl rfl rfl ?_
  refine Ie.p (v := .agg ⟨tab_u8 b1⟩) rfl rfl rfl (by kernel_rfl) ?_
  refine Ie.store rfl rfl rfl rfl rfl sz59 rfl (by first | exact .head | exact .tail .head | exact .tail (.tail .head) | exact .tail (.tail (.tail .head))) rfl ?_
  refine Ie.nil ?_
  refine Ne.seq ?_
  refine Ce.ret ?_
  refine Re.endH rfl (.agg rfl ag59 sz59 (by first | exact .head | exact .tail .head | exact .tail (.tail .head) | exact .tail (.tail (.tail .head)) | exact .base ‹_› ‹_› (by simp)) (Nat.le_of_ble_eq_true rfl) rfl .nil) ?_
  exact fun m hm => ⟨b1, trivial, rfl, hm.ext, hm.news (.cons _ (.refl _))⟩

theorem of_u8 {m : AW} (hm : m.lo ≤ m.next) : Fc Tryz.prog 34 [.int .i64 1] m fun v m' => ∃ b, True ∧ v = .tuple ⟨[.agg ⟨tab_u8 b⟩, .int .i64 0]⟩ ∧ Ext m m' ∧ News m m' [(b, .cells [.int .i64 8] 2 false .plain none)] := by
  refine Fc.body (c := _) Tryz.func34 rfl rfl rfl rfl hm ?_
  refine Ce.seq ?_
  refine Ce.region ?_
  refine Ie.alloc rfl rfl rfl rfl zr59 (fun b2 hb2 => ?_)
  refine Ie.p rfl rfl rfl rfl ?_
  refine Ie.nil ?_
  refine Ne.seq ?_
  refine Ce.seq ?_
  refine Ce.seq ?_
  refine Ce.region ?_
  refine Ie.p rfl rfl rfl rfl ?_
  refine Ie.nil ?_
  refine Ne.seq ?_
  refine Ce.block ?_
  refine Ce.seq ?_
  refine Ce.region ?_
  refine Ie.p rfl rfl rfl rfl ?_
  refine Ie.p rfl rfl rfl rfl ?_
  refine Ie.nil ?_
  refine Ne.seq ?_
  refine Ce.cond_true rfl ?_
  refine Ce.seq ?_
  refine Ce.region ?_
  refine Ie.calln _ _ _ rfl rfl rfl rfl rfl rfl (fun m hm => ints_u8 hm.lole) (fun x hx => ?_)
  clear hx
  refine Ie.store rfl rfl rfl rfl rfl sz59 rfl (by first | exact .head | exact .tail .head | exact .tail (.tail .head) | exact .tail (.tail (.tail .head))) rfl ?_
  refine Ie.p rfl rfl rfl rfl ?_
  refine Ie.nil ?_
  refine Ne.seq ?_
  refine Ce.ret ?_
  refine Re.blk ?_
  refine Re.seq ?_
  refine Re.endH rfl (.agg rfl ag59 sz59 (by first | exact .head | exact .tail .head | exact .tail (.tail .head) | exact .tail (.tail (.tail .head)) | exact .base ‹_› ‹_› (by simp)) (Nat.le_of_ble_eq_true rfl) rfl (.tmp rfl .nil)) ?_
  exact fun m hm => ⟨x, trivial, rfl, hm.ext, hm.news (by first | exact .cons_cons _ (List.nil_sublist _) | exact .cons _ (.cons_cons _ (List.nil_sublist _)))⟩

def tab_i32 (b : Nat) : List Value := [.func (.func 97) ⟨[]⟩ ⟨[]⟩, .func (.func 98) ⟨[]⟩ ⟨[]⟩, .func (.func 99) ⟨[]⟩ ⟨[]⟩, .func (.func 100) ⟨[]⟩ ⟨[]⟩, .func (.func 101) ⟨[]⟩ ⟨[]⟩, .func (.func 102) ⟨[]⟩ ⟨[]⟩, .func (.func 103) ⟨[]⟩ ⟨[]⟩, .func (.func 104) ⟨[]⟩ ⟨[]⟩, .func (.func 105) ⟨[]⟩ ⟨[]⟩, .func (.func 106) ⟨[]⟩ ⟨[.pointer (some ⟨b, 0, none⟩)]⟩, .func (.func 107) ⟨[]⟩ ⟨[.pointer (some ⟨b, 0, none⟩)]⟩, .func (.func 108) ⟨[]⟩ ⟨[]⟩, .func (.func 109) ⟨[]⟩ ⟨[]⟩, .func (.func 110) ⟨[]⟩ ⟨[]⟩, .func (.func 111) ⟨[]⟩ ⟨[]⟩, .int .i64 1]
theorem ints_i32 {m : AW} (hm : m.lo ≤ m.next) : Fc Tryz.prog 60 [.int .i64 32] m fun v m' => ∃ b, True ∧ v = .agg ⟨tab_i32 b⟩ ∧ Ext m m' ∧ News m m' [(b, .cells [.int .i64 32] 2 false .plain none)] := by
  refine Fc.body (c := _) Tryz.func60 rfl rfl rfl rfl hm ?_
  refine Ce.seq ?_
  refine Ce.region ?_
  refine Ie.box rfl rfl rfl rfl rfl (fun b1 hb1 => ?_)
  refine Ie.alloc rfl rfl rfl rfl zr59 (fun b2 hb2 => ?_)
  refine Ie.nil ?_
  refine Ne.seq ?_
  refine Ce.seq ?_
  refine Ce.region ?_
  refine Ie.p (v := .agg ⟨[.func (.func 98) ⟨[]⟩ ⟨[]⟩, .func (.func 99) ⟨[]⟩ ⟨[]⟩, .func (.func 100) ⟨[]⟩ ⟨[]⟩, .func (.func 101) ⟨[]⟩ ⟨[]⟩, .func (.func 102) ⟨[]⟩ ⟨[]⟩, .func (.func 103) ⟨[]⟩ ⟨[]⟩, .func (.func 104) ⟨[]⟩ ⟨[]⟩, .func (.func 105) ⟨[]⟩ ⟨[]⟩]⟩) rfl rfl rfl (by kernel_rfl) ?_
  refine Ie.p rfl rfl rfl rfl ?_
  refine Ie.p rfl rfl rfl rfl ?_
  refine Ie.p (v := .agg ⟨tab_i32 b1⟩) rfl rfl rfl (by kernel_rfl) ?_
  refine Ie.store rfl rfl rfl rfl rfl sz59 rfl (by first | exact .head | exact .tail .head | exact .tail (.tail .head) | exact .tail (.tail (.tail .head))) rfl ?_
  refine Ie.nil ?_
  refine Ne.seq ?_
  refine Ce.ret ?_
  refine Re.endH rfl (.agg rfl ag59 sz59 (by first | exact .head | exact .tail .head | exact .tail (.tail .head) | exact .tail (.tail (.tail .head)) | exact .base ‹_› ‹_› (by simp)) (Nat.le_of_ble_eq_true rfl) rfl .nil) ?_
  exact fun m hm => ⟨b1, trivial, rfl, hm.ext, hm.news (.cons _ (.refl _))⟩

theorem of_i32 {m : AW} (hm : m.lo ≤ m.next) : Fc Tryz.prog 34 [.int .i64 2] m fun v m' => ∃ b, True ∧ v = .tuple ⟨[.agg ⟨tab_i32 b⟩, .int .i64 0]⟩ ∧ Ext m m' ∧ News m m' [(b, .cells [.int .i64 32] 2 false .plain none)] := by
  refine Fc.body (c := _) Tryz.func34 rfl rfl rfl rfl hm ?_
  refine Ce.seq ?_
  refine Ce.region ?_
  refine Ie.alloc rfl rfl rfl rfl zr59 (fun b2 hb2 => ?_)
  refine Ie.p rfl rfl rfl rfl ?_
  refine Ie.nil ?_
  refine Ne.seq ?_
  refine Ce.seq ?_
  refine Ce.seq ?_
  refine Ce.region ?_
  refine Ie.p rfl rfl rfl rfl ?_
  refine Ie.nil ?_
  refine Ne.seq ?_
  refine Ce.block ?_
  refine Ce.seq ?_
  refine Ce.region ?_
  refine Ie.p rfl rfl rfl rfl ?_
  refine Ie.p rfl rfl rfl rfl ?_
  refine Ie.nil ?_
  refine Ne.seq ?_
  refine Ce.cond_false rfl ?_
  refine Ce.seq ?_
  refine Ce.region ?_
  refine Ie.p rfl rfl rfl rfl ?_
  refine Ie.p rfl rfl rfl rfl ?_
  refine Ie.nil ?_
  refine Ne.seq ?_
  refine Ce.cond_true rfl ?_
  refine Ce.seq ?_
  refine Ce.region ?_
  refine Ie.calln _ _ _ rfl rfl rfl rfl rfl rfl (fun m hm => ints_i32 hm.lole) (fun x hx => ?_)
  clear hx
  refine Ie.store rfl rfl rfl rfl rfl sz59 rfl (by first | exact .head | exact .tail .head | exact .tail (.tail .head) | exact .tail (.tail (.tail .head))) rfl ?_
  refine Ie.p rfl rfl rfl rfl ?_
  refine Ie.nil ?_
  refine Ne.seq ?_
  refine Ce.ret ?_
  refine Re.blk ?_
  refine Re.seq ?_
  refine Re.endH rfl (.agg rfl ag59 sz59 (by first | exact .head | exact .tail .head | exact .tail (.tail .head) | exact .tail (.tail (.tail .head)) | exact .base ‹_› ‹_› (by simp)) (Nat.le_of_ble_eq_true rfl) rfl (.tmp rfl .nil)) ?_
  exact fun m hm => ⟨x, trivial, rfl, hm.ext, hm.news (by first | exact .cons_cons _ (List.nil_sublist _) | exact .cons _ (.cons_cons _ (List.nil_sublist _)))⟩

def tab_i64 (b : Nat) : List Value := [.func (.func 112) ⟨[]⟩ ⟨[]⟩, .func (.func 113) ⟨[]⟩ ⟨[]⟩, .func (.func 114) ⟨[]⟩ ⟨[]⟩, .func (.func 115) ⟨[]⟩ ⟨[]⟩, .func (.func 116) ⟨[]⟩ ⟨[]⟩, .func (.func 117) ⟨[]⟩ ⟨[]⟩, .func (.func 118) ⟨[]⟩ ⟨[]⟩, .func (.func 119) ⟨[]⟩ ⟨[]⟩, .func (.func 120) ⟨[]⟩ ⟨[]⟩, .func (.func 121) ⟨[]⟩ ⟨[.pointer (some ⟨b, 0, none⟩)]⟩, .func (.func 122) ⟨[]⟩ ⟨[.pointer (some ⟨b, 0, none⟩)]⟩, .func (.func 123) ⟨[]⟩ ⟨[]⟩, .func (.func 124) ⟨[]⟩ ⟨[]⟩, .func (.func 125) ⟨[]⟩ ⟨[]⟩, .func (.func 126) ⟨[]⟩ ⟨[]⟩, .int .i64 1]
theorem ints_i64 {m : AW} (hm : m.lo ≤ m.next) : Fc Tryz.prog 61 [.int .i64 64] m fun v m' => ∃ b, True ∧ v = .agg ⟨tab_i64 b⟩ ∧ Ext m m' ∧ News m m' [(b, .cells [.int .i64 64] 2 false .plain none)] := by
  refine Fc.body (c := _) Tryz.func61 rfl rfl rfl rfl hm ?_
  refine Ce.seq ?_
  refine Ce.region ?_
  refine Ie.box rfl rfl rfl rfl rfl (fun b1 hb1 => ?_)
  refine Ie.alloc rfl rfl rfl rfl zr59 (fun b2 hb2 => ?_)
  refine Ie.nil ?_
  refine Ne.seq ?_
  refine Ce.seq ?_
  refine Ce.region ?_
  refine Ie.p (v := .agg ⟨[.func (.func 113) ⟨[]⟩ ⟨[]⟩, .func (.func 114) ⟨[]⟩ ⟨[]⟩, .func (.func 115) ⟨[]⟩ ⟨[]⟩, .func (.func 116) ⟨[]⟩ ⟨[]⟩, .func (.func 117) ⟨[]⟩ ⟨[]⟩, .func (.func 118) ⟨[]⟩ ⟨[]⟩, .func (.func 119) ⟨[]⟩ ⟨[]⟩, .func (.func 120) ⟨[]⟩ ⟨[]⟩]⟩) rfl rfl rfl (by kernel_rfl) ?_
  refine Ie.p rfl rfl rfl rfl ?_
  refine Ie.p rfl rfl rfl rfl ?_
  refine Ie.p (v := .agg ⟨tab_i64 b1⟩) rfl rfl rfl (by kernel_rfl) ?_
  refine Ie.store rfl rfl rfl rfl rfl sz59 rfl (by first | exact .head | exact .tail .head | exact .tail (.tail .head) | exact .tail (.tail (.tail .head))) rfl ?_
  refine Ie.nil ?_
  refine Ne.seq ?_
  refine Ce.ret ?_
  refine Re.endH rfl (.agg rfl ag59 sz59 (by first | exact .head | exact .tail .head | exact .tail (.tail .head) | exact .tail (.tail (.tail .head)) | exact .base ‹_› ‹_› (by simp)) (Nat.le_of_ble_eq_true rfl) rfl .nil) ?_
  exact fun m hm => ⟨b1, trivial, rfl, hm.ext, hm.news (.cons _ (.refl _))⟩

theorem of_i64 {m : AW} (hm : m.lo ≤ m.next) : Fc Tryz.prog 34 [.int .i64 3] m fun v m' => ∃ b, True ∧ v = .tuple ⟨[.agg ⟨tab_i64 b⟩, .int .i64 0]⟩ ∧ Ext m m' ∧ News m m' [(b, .cells [.int .i64 64] 2 false .plain none)] := by
  refine Fc.body (c := _) Tryz.func34 rfl rfl rfl rfl hm ?_
  refine Ce.seq ?_
  refine Ce.region ?_
  refine Ie.alloc rfl rfl rfl rfl zr59 (fun b2 hb2 => ?_)
  refine Ie.p rfl rfl rfl rfl ?_
  refine Ie.nil ?_
  refine Ne.seq ?_
  refine Ce.seq ?_
  refine Ce.seq ?_
  refine Ce.region ?_
  refine Ie.p rfl rfl rfl rfl ?_
  refine Ie.nil ?_
  refine Ne.seq ?_
  refine Ce.block ?_
  refine Ce.seq ?_
  refine Ce.region ?_
  refine Ie.p rfl rfl rfl rfl ?_
  refine Ie.p rfl rfl rfl rfl ?_
  refine Ie.nil ?_
  refine Ne.seq ?_
  refine Ce.cond_false rfl ?_
  refine Ce.seq ?_
  refine Ce.region ?_
  refine Ie.p rfl rfl rfl rfl ?_
  refine Ie.p rfl rfl rfl rfl ?_
  refine Ie.nil ?_
  refine Ne.seq ?_
  refine Ce.cond_false rfl ?_
  refine Ce.seq ?_
  refine Ce.region ?_
  refine Ie.p rfl rfl rfl rfl ?_
  refine Ie.p rfl rfl rfl rfl ?_
  refine Ie.nil ?_
  refine Ne.seq ?_
  refine Ce.cond_true rfl ?_
  refine Ce.seq ?_
  refine Ce.region ?_
  refine Ie.calln _ _ _ rfl rfl rfl rfl rfl rfl (fun m hm => ints_i64 hm.lole) (fun x hx => ?_)
  clear hx
  refine Ie.store rfl rfl rfl rfl rfl sz59 rfl (by first | exact .head | exact .tail .head | exact .tail (.tail .head) | exact .tail (.tail (.tail .head))) rfl ?_
  refine Ie.p rfl rfl rfl rfl ?_
  refine Ie.nil ?_
  refine Ne.seq ?_
  refine Ce.ret ?_
  refine Re.blk ?_
  refine Re.seq ?_
  refine Re.endH rfl (.agg rfl ag59 sz59 (by first | exact .head | exact .tail .head | exact .tail (.tail .head) | exact .tail (.tail (.tail .head)) | exact .base ‹_› ‹_› (by simp)) (Nat.le_of_ble_eq_true rfl) rfl (.tmp rfl .nil)) ?_
  exact fun m hm => ⟨x, trivial, rfl, hm.ext, hm.news (by first | exact .cons_cons _ (List.nil_sublist _) | exact .cons _ (.cons_cons _ (List.nil_sublist _)))⟩

theorem arithmetic_2 {m : AW} (hm : m.lo ≤ m.next) : Fc Tryz.prog 51 [.int .i64 2] m fun v m' => v = .tuple ⟨[.int .i64 2, .bool true]⟩ ∧ Ext m m' := by
  refine Fc.body (c := _) Tryz.func51 rfl rfl rfl rfl hm ?_
  refine Ce.seq ?_
  refine Ce.region ?_
  refine Ie.p rfl rfl rfl rfl ?_
  refine Ie.p rfl rfl rfl rfl ?_
  refine Ie.nil ?_
  refine Ne.seq ?_
  refine Ce.seq ?_
  refine Ce.seq ?_
  refine Ce.region ?_
  refine Ie.p (v := .agg ⟨[.int .i64 0, .int .i64 1, .int .i64 2, .int .i64 3, .int .i64 4, .int .i64 5, .int .i64 6, .int .i64 7]⟩) rfl rfl rfl (by kernel_rfl) ?_
  refine Ie.p rfl rfl rfl rfl ?_
  refine Ie.nil ?_
  refine Ne.seq ?_
  refine Ce.block ?_
  refine Ce.unroll ?_
  refine Ce.seq ?_
  refine Ce.region ?_
  refine Ie.p rfl rfl rfl rfl ?_
  refine Ie.nil ?_
  refine Ne.seq ?_
  refine Ce.seq ?_
  refine Ce.cond_true rfl ?_
  refine Ce.skip ?_
  refine Ne.seq ?_
  refine Ce.seq ?_
  refine Ce.block ?_
  refine Ce.seq ?_
  refine Ce.region ?_
  refine Ie.p rfl rfl rfl rfl ?_
  refine Ie.p (v := .int .i64 0) rfl rfl rfl (by kernel_rfl) ?_
  refine Ie.p rfl rfl rfl rfl ?_
  refine Ie.p rfl rfl rfl rfl ?_
  refine Ie.nil ?_
  refine Ne.seq ?_
  refine Ce.seq ?_
  refine Ce.region ?_
  refine Ie.p rfl rfl rfl rfl ?_
  refine Ie.p rfl rfl rfl rfl ?_
  refine Ie.p rfl rfl rfl rfl ?_
  refine Ie.nil ?_
  refine Ne.seq ?_
  refine Ce.cond_false rfl ?_
  refine Ce.skip ?_
  refine Ne.blk ?_
  refine Ne.seq ?_
  refine Ce.region ?_
  refine Ie.p rfl rfl rfl rfl ?_
  refine Ie.p rfl rfl rfl rfl ?_
  refine Ie.nil ?_
  refine Ne.seq ?_
  refine Ce.unroll ?_
  refine Ce.seq ?_
  refine Ce.region ?_
  refine Ie.p rfl rfl rfl rfl ?_
  refine Ie.nil ?_
  refine Ne.seq ?_
  refine Ce.seq ?_
  refine Ce.cond_true rfl ?_
  refine Ce.skip ?_
  refine Ne.seq ?_
  refine Ce.seq ?_
  refine Ce.block ?_
  refine Ce.seq ?_
  refine Ce.region ?_
  refine Ie.p rfl rfl rfl rfl ?_
  refine Ie.p (v := .int .i64 1) rfl rfl rfl (by kernel_rfl) ?_
  refine Ie.p rfl rfl rfl rfl ?_
  refine Ie.p rfl rfl rfl rfl ?_
  refine Ie.nil ?_
  refine Ne.seq ?_
  refine Ce.seq ?_
  refine Ce.region ?_
  refine Ie.p rfl rfl rfl rfl ?_
  refine Ie.p rfl rfl rfl rfl ?_
  refine Ie.p rfl rfl rfl rfl ?_
  refine Ie.nil ?_
  refine Ne.seq ?_
  refine Ce.cond_false rfl ?_
  refine Ce.skip ?_
  refine Ne.blk ?_
  refine Ne.seq ?_
  refine Ce.region ?_
  refine Ie.p rfl rfl rfl rfl ?_
  refine Ie.p rfl rfl rfl rfl ?_
  refine Ie.nil ?_
  refine Ne.seq ?_
  refine Ce.unroll ?_
  refine Ce.seq ?_
  refine Ce.region ?_
  refine Ie.p rfl rfl rfl rfl ?_
  refine Ie.nil ?_
  refine Ne.seq ?_
  refine Ce.seq ?_
  refine Ce.cond_true rfl ?_
  refine Ce.skip ?_
  refine Ne.seq ?_
  refine Ce.seq ?_
  refine Ce.block ?_
  refine Ce.seq ?_
  refine Ce.region ?_
  refine Ie.p rfl rfl rfl rfl ?_
  refine Ie.p (v := .int .i64 2) rfl rfl rfl (by kernel_rfl) ?_
  refine Ie.p rfl rfl rfl rfl ?_
  refine Ie.p rfl rfl rfl rfl ?_
  refine Ie.nil ?_
  refine Ne.seq ?_
  refine Ce.seq ?_
  refine Ce.region ?_
  refine Ie.p rfl rfl rfl rfl ?_
  refine Ie.p rfl rfl rfl rfl ?_
  refine Ie.p rfl rfl rfl rfl ?_
  refine Ie.nil ?_
  refine Ne.seq ?_
  refine Ce.cond_true rfl ?_
  refine Ce.seq ?_
  refine Ce.region ?_
  refine Ie.p rfl rfl rfl rfl ?_
  refine Ie.p rfl rfl rfl rfl ?_
  refine Ie.p rfl rfl rfl rfl ?_
  refine Ie.nil ?_
  refine Ne.seq ?_
  refine Ce.ret ?_
  refine Re.blk ?_
  refine Re.seq ?_
  refine Re.seq ?_
  refine Re.blk ?_
  refine Re.seq ?_
  exact Re.end_ rfl rfl (fun m hm => ⟨rfl, hm.ext⟩)

theorem Arith_u8_2 {a b : Int} {m : AW} (hm : m.lo ≤ m.next) (ha : Fit .i64 a) (hb : Fit .i64 b) : Fc Tryz.prog 19 [.int .i64 1, .int .i64 2, .int .i64 a, .int .i64 b] m fun v m' => v = .tuple ⟨[.int .i64 (wr .u8 (wr .u8 a * wr .u8 b)), .int .i64 0]⟩ ∧ Ext m m' := by
  refine Fc.body (c := _) Tryz.func19 rfl rfl rfl rfl hm ?_
  refine Ce.seq ?_
  refine Ce.region ?_
  refine Ie.p rfl rfl rfl rfl ?_
  refine Ie.p rfl rfl rfl rfl ?_
  refine Ie.nil ?_
  refine Ne.seq ?_
  refine Ce.seq ?_
  refine Ce.region ?_
  refine Ie.p rfl rfl rfl rfl ?_
  refine Ie.calln _ _ _ rfl rfl rfl rfl rfl rfl (fun m hm => of_u8 hm.lole) (fun x hx => ?_)
  clear hx
  refine Ie.p rfl rfl rfl rfl ?_
  refine Ie.p rfl rfl rfl rfl ?_
  refine Ie.p rfl rfl rfl rfl ?_
  refine Ie.alloc rfl rfl rfl rfl zr59 (fun b10 hb10 => ?_)
  refine Ie.store rfl rfl rfl rfl rfl sz59 rfl (by first | exact .head | exact .tail .head | exact .tail (.tail .head) | exact .tail (.tail (.tail .head))) rfl ?_
  refine Ie.p rfl rfl rfl rfl ?_
  refine Ie.nil ?_
  refine Ne.seq ?_
  refine Ce.seq ?_
  refine Ce.seq ?_
  refine Ce.region ?_
  refine Ie.p rfl rfl rfl rfl ?_
  refine Ie.p rfl rfl rfl rfl ?_
  refine Ie.nil ?_
  refine Ne.seq ?_
  refine Ce.cond_false rfl ?_
  refine Ce.skip ?_
  refine Ne.seq ?_
  refine Ce.seq ?_
  refine Ce.block ?_
  refine Ce.seq ?_
  refine Ce.region ?_
  refine Ie.p rfl rfl rfl rfl ?_
  refine Ie.p rfl rfl rfl rfl ?_
  refine Ie.p rfl rfl rfl rfl ?_
  refine Ie.off rfl rfl rfl ?_
  refine Ie.off rfl rfl rfl ?_
  refine Ie.off rfl rfl rfl ?_
  refine Ie.p rfl rfl rfl rfl ?_
  refine Ie.p rfl rfl rfl rfl ?_
  refine Ie.nil ?_
  refine Ne.seq ?_
  refine Ce.cond_false rfl ?_
  refine Ce.seq ?_
  refine Ce.region ?_
  refine Ie.p rfl rfl rfl rfl ?_
  refine Ie.p rfl rfl rfl rfl ?_
  refine Ie.p rfl rfl rfl rfl ?_
  refine Ie.off rfl rfl rfl ?_
  refine Ie.off rfl rfl rfl ?_
  refine Ie.off rfl rfl rfl ?_
  refine Ie.p rfl rfl rfl rfl ?_
  refine Ie.p rfl rfl rfl rfl ?_
  refine Ie.nil ?_
  refine Ne.seq ?_
  refine Ce.cond_false rfl ?_
  refine Ce.skip ?_
  refine Ne.blk ?_
  refine Ne.seq ?_
  refine Ce.seq ?_
  refine Ce.region ?_
  refine Ie.p rfl rfl rfl rfl ?_
  refine Ie.call _ rfl rfl rfl rfl rfl rfl (fun m hm => arithmetic_2 hm.lole) ?_
  refine Ie.p rfl rfl rfl rfl ?_
  refine Ie.p rfl rfl rfl rfl ?_
  refine Ie.p rfl rfl rfl rfl ?_
  refine Ie.p rfl rfl rfl rfl ?_
  refine Ie.p rfl rfl rfl rfl ?_
  refine Ie.nil ?_
  refine Ne.seq ?_
  refine Ce.seq ?_
  refine Ce.seq ?_
  refine Ce.region ?_
  refine Ie.p rfl rfl rfl rfl ?_
  refine Ie.p rfl rfl rfl rfl ?_
  refine Ie.p rfl rfl rfl rfl ?_
  refine Ie.p rfl rfl rfl rfl ?_
  refine Ie.fieldAddr rfl rfl rfl rfl rfl fa59_1 ?_
  refine Ie.indexArr rfl rfl rfl rfl Tryz.underlying56 sz55 rfl rfl (by decide) ?_
  refine Ie.load rfl rfl rfl rfl rfl ag55 (by first | exact .head | exact .tail .head | exact .tail (.tail .head) | exact .tail (.tail (.tail .head)) | exact .base ‹_› ‹_› (by simp)) rfl ?_
  refine Ie.bin (v := .bool false) rfl rfl rfl rfl rfl rfl (by kernel_rfl) ?_
  refine Ie.p rfl rfl rfl rfl ?_
  refine Ie.nil ?_
  refine Ne.seq ?_
  refine Ce.cond_false rfl ?_
  refine Ce.skip ?_
  refine Ne.seq ?_
  refine Ce.seq ?_
  refine Ce.draw [⟨0, .p, true, true, 0⟩, ⟨1, .l, true, true, 1⟩, ⟨2, .p, true, true, 0⟩, ⟨3, .h, true, true, 7⟩, ⟨4, .p, false, false, 0⟩, ⟨5, .l, false, false, 16⟩, ⟨6, .p, false, false, 0⟩, ⟨7, .h, true, true, 127⟩, ⟨8, .p, true, true, 255⟩, ⟨9, .p, true, true, 511⟩] (by kernel_rfl) (by kernel_rfl) (fun base hbase hB => ?_)
  refine De.fieldAddr rfl rfl rfl rfl rfl rfl fa59_0 ?_
  refine De.load rfl rfl rfl rfl rfl rfl rfl rfl ag54 (by first | exact .head | exact .tail .head | exact .tail (.tail .head) | exact .tail (.tail (.tail .head)) | exact .base ‹_› ‹_› (by simp)) rfl ?_
  refine De.p rfl rfl rfl rfl rfl ?_
  refine De.call _ rfl rfl rfl rfl rfl rfl rfl rfl rfl (fun m hm => cl_u8_1 hm.lole ha) ?_
  refine De.fieldAddr rfl rfl rfl rfl rfl rfl fa59_0 ?_
  refine De.loadOld rfl rfl rfl rfl rfl rfl ag54 (by first | exact .head | exact .tail .head | exact .tail (.tail .head) | exact .tail (.tail (.tail .head)) | exact .base ‹_› ‹_› (by simp)) rfl (by first | exact hB _ _ (.head _) | exact hB _ _ (.tail _ (.head _)) | exact hB _ _ (.tail _ (.tail _ (.head _))) | exact hB _ _ (.tail _ (.tail _ (.tail _ (.head _)))) | exact Nat.lt_of_lt_of_le ‹_› hbase) (fun _ => ?_)
  refine De.p rfl rfl rfl rfl rfl ?_
  refine De.call _ rfl rfl rfl rfl rfl rfl rfl rfl rfl (fun m hm => cl_u8_1 hm.lole hb) ?_
  refine De.p rfl rfl rfl rfl rfl ?_
  refine De.p rfl rfl rfl rfl rfl ?_
  refine De.nil ?_
  refine Ne.seq ?_
  refine Ce.seq ?_
  refine Ce.seq ?_
  refine Ce.region ?_
  refine Ie.p rfl rfl rfl rfl ?_
  refine Ie.p rfl rfl rfl rfl ?_
  refine Ie.p rfl rfl rfl rfl ?_
  refine Ie.p rfl rfl rfl rfl ?_
  refine Ie.p rfl rfl rfl rfl ?_
  refine Ie.p rfl rfl rfl rfl ?_
  refine Ie.p rfl rfl rfl rfl ?_
  refine Ie.off rfl rfl rfl ?_
  refine Ie.off rfl rfl rfl ?_
  refine Ie.p rfl rfl rfl rfl ?_
  refine Ie.p rfl rfl rfl rfl ?_
  refine Ie.off rfl rfl rfl ?_
  refine Ie.off rfl rfl rfl ?_
  refine Ie.p rfl rfl rfl rfl ?_
  refine Ie.nil ?_
  refine Ne.seq ?_
  refine Ce.cond_false rfl ?_
  refine Ce.skip ?_
  refine Ne.seq ?_
  refine Ce.seq ?_
  refine Ce.region ?_
  refine Ie.p rfl rfl rfl rfl ?_
  refine Ie.fieldAddr rfl rfl rfl rfl rfl fa59_1 ?_
  refine Ie.indexArr rfl rfl rfl rfl Tryz.underlying56 sz55 rfl rfl (by decide) ?_
  refine Ie.load rfl rfl rfl rfl rfl ag55 (by first | exact .head | exact .tail .head | exact .tail (.tail .head) | exact .tail (.tail (.tail .head)) | exact .base ‹_› ‹_› (by simp)) rfl ?_
  refine Ie.p rfl rfl rfl rfl ?_
  refine Ie.p rfl rfl rfl rfl ?_
  refine Ie.call _ rfl rfl rfl rfl rfl rfl (fun m hm => cl_u8_4 hm.lole (Fit.wr .u8 a) (Fit.wr .u8 b)) ?_
  refine Ie.p rfl rfl rfl rfl ?_
  refine Ie.p rfl rfl rfl rfl ?_
  refine Ie.nil ?_
  refine Ne.seq ?_
  refine Ce.ret ?_
  exact Re.end_ rfl rfl (fun m hm => ⟨rfl, hm.ext⟩)

theorem Arith_i32_2 {a b : Int} {m : AW} (hm : m.lo ≤ m.next) (ha : Fit .i64 a) (hb : Fit .i64 b) : Fc Tryz.prog 19 [.int .i64 2, .int .i64 2, .int .i64 a, .int .i64 b] m fun v m' => v = .tuple ⟨[.int .i64 (wr .i32 (wr .i32 a * wr .i32 b)), .int .i64 0]⟩ ∧ Ext m m' := by
  refine Fc.body (c := _) Tryz.func19 rfl rfl rfl rfl hm ?_
  refine Ce.seq ?_
  refine Ce.region ?_
  refine Ie.p rfl rfl rfl rfl ?_
  refine Ie.p rfl rfl rfl rfl ?_
  refine Ie.nil ?_
  refine Ne.seq ?_
  refine Ce.seq ?_
  refine Ce.region ?_
  refine Ie.p rfl rfl rfl rfl ?_
  refine Ie.calln _ _ _ rfl rfl rfl rfl rfl rfl (fun m hm => of_i32 hm.lole) (fun x hx => ?_)
  clear hx
  refine Ie.p rfl rfl rfl rfl ?_
  refine Ie.p rfl rfl rfl rfl ?_
  refine Ie.p rfl rfl rfl rfl ?_
  refine Ie.alloc rfl rfl rfl rfl zr59 (fun b10 hb10 => ?_)
  refine Ie.store rfl rfl rfl rfl rfl sz59 rfl (by first | exact .head | exact .tail .head | exact .tail (.tail .head) | exact .tail (.tail (.tail .head))) rfl ?_
  refine Ie.p rfl rfl rfl rfl ?_
  refine Ie.nil ?_
  refine Ne.seq ?_
  refine Ce.seq ?_
  refine Ce.seq ?_
  refine Ce.region ?_
  refine Ie.p rfl rfl rfl rfl ?_
  refine Ie.p rfl rfl rfl rfl ?_
  refine Ie.nil ?_
  refine Ne.seq ?_
  refine Ce.cond_false rfl ?_
  refine Ce.skip ?_
  refine Ne.seq ?_
  refine Ce.seq ?_
  refine Ce.block ?_
  refine Ce.seq ?_
  refine Ce.region ?_
  refine Ie.p rfl rfl rfl rfl ?_
  refine Ie.p rfl rfl rfl rfl ?_
  refine Ie.p rfl rfl rfl rfl ?_
  refine Ie.off rfl rfl rfl ?_
  refine Ie.off rfl rfl rfl ?_
  refine Ie.off rfl rfl rfl ?_
  refine Ie.p rfl rfl rfl rfl ?_
  refine Ie.p rfl rfl rfl rfl ?_
  refine Ie.nil ?_
  refine Ne.seq ?_
  refine Ce.cond_false rfl ?_
  refine Ce.seq ?_
  refine Ce.region ?_
  refine Ie.p rfl rfl rfl rfl ?_
  refine Ie.p rfl rfl rfl rfl ?_
  refine Ie.p rfl rfl rfl rfl ?_
  refine Ie.off rfl rfl rfl ?_
  refine Ie.off rfl rfl rfl ?_
  refine Ie.off rfl rfl rfl ?_
  refine Ie.p rfl rfl rfl rfl ?_
  refine Ie.p rfl rfl rfl rfl ?_
  refine Ie.nil ?_
  refine Ne.seq ?_
  refine Ce.cond_false rfl ?_
  refine Ce.skip ?_
  refine Ne.blk ?_
  refine Ne.seq ?_
  refine Ce.seq ?_
  refine Ce.region ?_
  refine Ie.p rfl rfl rfl rfl ?_
  refine Ie.call _ rfl rfl rfl rfl rfl rfl (fun m hm => arithmetic_2 hm.lole) ?_
  refine Ie.p rfl rfl rfl rfl ?_
  refine Ie.p rfl rfl rfl rfl ?_
  refine Ie.p rfl rfl rfl rfl ?_
  refine Ie.p rfl rfl rfl rfl ?_
  refine Ie.p rfl rfl rfl rfl ?_
  refine Ie.nil ?_
  refine Ne.seq ?_
  refine Ce.seq ?_
  refine Ce.seq ?_
  refine Ce.region ?_
  refine Ie.p rfl rfl rfl rfl ?_
  refine Ie.p rfl rfl rfl rfl ?_
  refine Ie.p rfl rfl rfl rfl ?_
  refine Ie.p rfl rfl rfl rfl ?_
  refine Ie.fieldAddr rfl rfl rfl rfl rfl fa59_1 ?_
  refine Ie.indexArr rfl rfl rfl rfl Tryz.underlying56 sz55 rfl rfl (by decide) ?_
  refine Ie.load rfl rfl rfl rfl rfl ag55 (by first | exact .head | exact .tail .head | exact .tail (.tail .head) | exact .tail (.tail (.tail .head)) | exact .base ‹_› ‹_› (by simp)) rfl ?_
  refine Ie.bin (v := .bool false) rfl rfl rfl rfl rfl rfl (by kernel_rfl) ?_
  refine Ie.p rfl rfl rfl rfl ?_
  refine Ie.nil ?_
  refine Ne.seq ?_
  refine Ce.cond_false rfl ?_
  refine Ce.skip ?_
  refine Ne.seq ?_
  refine Ce.seq ?_
  refine Ce.draw [⟨0, .p, true, true, 0⟩, ⟨1, .l, true, true, 1⟩, ⟨2, .p, true, true, 0⟩, ⟨3, .h, true, true, 7⟩, ⟨4, .p, false, false, 0⟩, ⟨5, .l, false, false, 16⟩, ⟨6, .p, false, false, 0⟩, ⟨7, .h, true, true, 127⟩, ⟨8, .p, true, true, 255⟩, ⟨9, .p, true, true, 511⟩] (by kernel_rfl) (by kernel_rfl) (fun base hbase hB => ?_)
  refine De.fieldAddr rfl rfl rfl rfl rfl rfl fa59_0 ?_
  refine De.load rfl rfl rfl rfl rfl rfl rfl rfl ag54 (by first | exact .head | exact .tail .head | exact .tail (.tail .head) | exact .tail (.tail (.tail .head)) | exact .base ‹_› ‹_› (by simp)) rfl ?_
  refine De.p rfl rfl rfl rfl rfl ?_
  refine De.call _ rfl rfl rfl rfl rfl rfl rfl rfl rfl (fun m hm => cl_i32_1 hm.lole ha) ?_
  refine De.fieldAddr rfl rfl rfl rfl rfl rfl fa59_0 ?_
  refine De.loadOld rfl rfl rfl rfl rfl rfl ag54 (by first | exact .head | exact .tail .head | exact .tail (.tail .head) | exact .tail (.tail (.tail .head)) | exact .base ‹_› ‹_› (by simp)) rfl (by first | exact hB _ _ (.head _) | exact hB _ _ (.tail _ (.head _)) | exact hB _ _ (.tail _ (.tail _ (.head _))) | exact hB _ _ (.tail _ (.tail _ (.tail _ (.head _)))) | exact Nat.lt_of_lt_of_le ‹_› hbase) (fun _ => ?_)
  refine De.p rfl rfl rfl rfl rfl ?_
  refine De.call _ rfl rfl rfl rfl rfl rfl rfl rfl rfl (fun m hm => cl_i32_1 hm.lole hb) ?_
  refine De.p rfl rfl rfl rfl rfl ?_
  refine De.p rfl rfl rfl rfl rfl ?_
  refine De.nil ?_
  refine Ne.seq ?_
  refine Ce.seq ?_
  refine Ce.seq ?_
  refine Ce.region ?_
  refine Ie.p rfl rfl rfl rfl ?_
  refine Ie.p rfl rfl rfl rfl ?_
  refine Ie.p rfl rfl rfl rfl ?_
  refine Ie.p rfl rfl rfl rfl ?_
  refine Ie.p rfl rfl rfl rfl ?_
  refine Ie.p rfl rfl rfl rfl ?_
  refine Ie.p rfl rfl rfl rfl ?_
  refine Ie.off rfl rfl rfl ?_
  refine Ie.off rfl rfl rfl ?_
  refine Ie.p rfl rfl rfl rfl ?_
  refine Ie.p rfl rfl rfl rfl ?_
  refine Ie.off rfl rfl rfl ?_
  refine Ie.off rfl rfl rfl ?_
  refine Ie.p rfl rfl rfl rfl ?_
  refine Ie.nil ?_
  refine Ne.seq ?_
  refine Ce.cond_false rfl ?_
  refine Ce.skip ?_
  refine Ne.seq ?_
  refine Ce.seq ?_
  refine Ce.region ?_
  refine Ie.p rfl rfl rfl rfl ?_
  refine Ie.fieldAddr rfl rfl rfl rfl rfl fa59_1 ?_
  refine Ie.indexArr rfl rfl rfl rfl Tryz.underlying56 sz55 rfl rfl (by decide) ?_
  refine Ie.load rfl rfl rfl rfl rfl ag55 (by first | exact .head | exact .tail .head | exact .tail (.tail .head) | exact .tail (.tail (.tail .head)) | exact .base ‹_› ‹_› (by simp)) rfl ?_
  refine Ie.p rfl rfl rfl rfl ?_
  refine Ie.p rfl rfl rfl rfl ?_
  refine Ie.call _ rfl rfl rfl rfl rfl rfl (fun m hm => cl_i32_4 hm.lole (Fit.wr .i32 a) (Fit.wr .i32 b)) ?_
  refine Ie.p rfl rfl rfl rfl ?_
  refine Ie.p rfl rfl rfl rfl ?_
  refine Ie.nil ?_
  refine Ne.seq ?_
  refine Ce.ret ?_
  exact Re.end_ rfl rfl (fun m hm => ⟨rfl, hm.ext⟩)

theorem Arith_i64_2 {a b : Int} {m : AW} (hm : m.lo ≤ m.next) (ha : Fit .i64 a) (hb : Fit .i64 b) : Fc Tryz.prog 19 [.int .i64 3, .int .i64 2, .int .i64 a, .int .i64 b] m fun v m' => v = .tuple ⟨[.int .i64 (wr .i64 (wr .i64 a * wr .i64 b)), .int .i64 0]⟩ ∧ Ext m m' := by
  refine Fc.body (c := _) Tryz.func19 rfl rfl rfl rfl hm ?_
  refine Ce.seq ?_
  refine Ce.region ?_
  refine Ie.p rfl rfl rfl rfl ?_
  refine Ie.p rfl rfl rfl rfl ?_
  refine Ie.nil ?_
  refine Ne.seq ?_
  refine Ce.seq ?_
  refine Ce.region ?_
  refine Ie.p rfl rfl rfl rfl ?_
  refine Ie.calln _ _ _ rfl rfl rfl rfl rfl rfl (fun m hm => of_i64 hm.lole) (fun x hx => ?_)
  clear hx
  refine Ie.p rfl rfl rfl rfl ?_
  refine Ie.p rfl rfl rfl rfl ?_
  refine Ie.p rfl rfl rfl rfl ?_
  refine Ie.alloc rfl rfl rfl rfl zr59 (fun b10 hb10 => ?_)
  refine Ie.store rfl rfl rfl rfl rfl sz59 rfl (by first | exact .head | exact .tail .head | exact .tail (.tail .head) | exact .tail (.tail (.tail .head))) rfl ?_
  refine Ie.p rfl rfl rfl rfl ?_
  refine Ie.nil ?_
  refine Ne.seq ?_
  refine Ce.seq ?_
  refine Ce.seq ?_
  refine Ce.region ?_
  refine Ie.p rfl rfl rfl rfl ?_
  refine Ie.p rfl rfl rfl rfl ?_
  refine Ie.nil ?_
  refine Ne.seq ?_
  refine Ce.cond_false rfl ?_
  refine Ce.skip ?_
  refine Ne.seq ?_
  refine Ce.seq ?_
  refine Ce.block ?_
  refine Ce.seq ?_
  refine Ce.region ?_
  refine Ie.p rfl rfl rfl rfl ?_
  refine Ie.p rfl rfl rfl rfl ?_
  refine Ie.p rfl rfl rfl rfl ?_
  refine Ie.off rfl rfl rfl ?_
  refine Ie.off rfl rfl rfl ?_
  refine Ie.off rfl rfl rfl ?_
  refine Ie.p rfl rfl rfl rfl ?_
  refine Ie.p rfl rfl rfl rfl ?_
  refine Ie.nil ?_
  refine Ne.seq ?_
  refine Ce.cond_false rfl ?_
  refine Ce.seq ?_
  refine Ce.region ?_
  refine Ie.p rfl rfl rfl rfl ?_
  refine Ie.p rfl rfl rfl rfl ?_
  refine Ie.p rfl rfl rfl rfl ?_
  refine Ie.off rfl rfl rfl ?_
  refine Ie.off rfl rfl rfl ?_
  refine Ie.off rfl rfl rfl ?_
  refine Ie.p rfl rfl rfl rfl ?_
  refine Ie.p rfl rfl rfl rfl ?_
  refine Ie.nil ?_
  refine Ne.seq ?_
  refine Ce.cond_false rfl ?_
  refine Ce.skip ?_
  refine Ne.blk ?_
  refine Ne.seq ?_
  refine Ce.seq ?_
  refine Ce.region ?_
  refine Ie.p rfl rfl rfl rfl ?_
  refine Ie.call _ rfl rfl rfl rfl rfl rfl (fun m hm => arithmetic_2 hm.lole) ?_
  refine Ie.p rfl rfl rfl rfl ?_
  refine Ie.p rfl rfl rfl rfl ?_
  refine Ie.p rfl rfl rfl rfl ?_
  refine Ie.p rfl rfl rfl rfl ?_
  refine Ie.p rfl rfl rfl rfl ?_
  refine Ie.nil ?_
  refine Ne.seq ?_
  refine Ce.seq ?_
  refine Ce.seq ?_
  refine Ce.region ?_
  refine Ie.p rfl rfl rfl rfl ?_
  refine Ie.p rfl rfl rfl rfl ?_
  refine Ie.p rfl rfl rfl rfl ?_
  refine Ie.p rfl rfl rfl rfl ?_
  refine Ie.fieldAddr rfl rfl rfl rfl rfl fa59_1 ?_
  refine Ie.indexArr rfl rfl rfl rfl Tryz.underlying56 sz55 rfl rfl (by decide) ?_
  refine Ie.load rfl rfl rfl rfl rfl ag55 (by first | exact .head | exact .tail .head | exact .tail (.tail .head) | exact .tail (.tail (.tail .head)) | exact .base ‹_› ‹_› (by simp)) rfl ?_
  refine Ie.bin (v := .bool false) rfl rfl rfl rfl rfl rfl (by kernel_rfl) ?_
  refine Ie.p rfl rfl rfl rfl ?_
  refine Ie.nil ?_
  refine Ne.seq ?_
  refine Ce.cond_false rfl ?_
  refine Ce.skip ?_
  refine Ne.seq ?_
  refine Ce.seq ?_
  refine Ce.draw [⟨0, .p, true, true, 0⟩, ⟨1, .l, true, true, 1⟩, ⟨2, .p, true, true, 0⟩, ⟨3, .h, true, true, 7⟩, ⟨4, .p, false, false, 0⟩, ⟨5, .l, false, false, 16⟩, ⟨6, .p, false, false, 0⟩, ⟨7, .h, true, true, 127⟩, ⟨8, .p, true, true, 255⟩, ⟨9, .p, true, true, 511⟩] (by kernel_rfl) (by kernel_rfl) (fun base hbase hB => ?_)
  refine De.fieldAddr rfl rfl rfl rfl rfl rfl fa59_0 ?_
  refine De.load rfl rfl rfl rfl rfl rfl rfl rfl ag54 (by first | exact .head | exact .tail .head | exact .tail (.tail .head) | exact .tail (.tail (.tail .head)) | exact .base ‹_› ‹_› (by simp)) rfl ?_
  refine De.p rfl rfl rfl rfl rfl ?_
  refine De.call _ rfl rfl rfl rfl rfl rfl rfl rfl rfl (fun m hm => cl_i64_1 hm.lole ha) ?_
  refine De.fieldAddr rfl rfl rfl rfl rfl rfl fa59_0 ?_
  refine De.loadOld rfl rfl rfl rfl rfl rfl ag54 (by first | exact .head | exact .tail .head | exact .tail (.tail .head) | exact .tail (.tail (.tail .head)) | exact .base ‹_› ‹_› (by simp)) rfl (by first | exact hB _ _ (.head _) | exact hB _ _ (.tail _ (.head _)) | exact hB _ _ (.tail _ (.tail _ (.head _))) | exact hB _ _ (.tail _ (.tail _ (.tail _ (.head _)))) | exact Nat.lt_of_lt_of_le ‹_› hbase) (fun _ => ?_)
  refine De.p rfl rfl rfl rfl rfl ?_
  refine De.call _ rfl rfl rfl rfl rfl rfl rfl rfl rfl (fun m hm => cl_i64_1 hm.lole hb) ?_
  refine De.p rfl rfl rfl rfl rfl ?_
  refine De.p rfl rfl rfl rfl rfl ?_
  refine De.nil ?_
  refine Ne.seq ?_
  refine Ce.seq ?_
  refine Ce.seq ?_
  refine Ce.region ?_
  refine Ie.p rfl rfl rfl rfl ?_
  refine Ie.p rfl rfl rfl rfl ?_
  refine Ie.p rfl rfl rfl rfl ?_
  refine Ie.p rfl rfl rfl rfl ?_
  refine Ie.p rfl rfl rfl rfl ?_
  refine Ie.p rfl rfl rfl rfl ?_
  refine Ie.p rfl rfl rfl rfl ?_
  refine Ie.off rfl rfl rfl ?_
  refine Ie.off rfl rfl rfl ?_
  refine Ie.p rfl rfl rfl rfl ?_
  refine Ie.p rfl rfl rfl rfl ?_
  refine Ie.off rfl rfl rfl ?_
  refine Ie.off rfl rfl rfl ?_
  refine Ie.p rfl rfl rfl rfl ?_
  refine Ie.nil ?_
  refine Ne.seq ?_
  refine Ce.cond_false rfl ?_
  refine Ce.skip ?_
  refine Ne.seq ?_
  refine Ce.seq ?_
  refine Ce.region ?_
  refine Ie.p rfl rfl rfl rfl ?_
  refine Ie.fieldAddr rfl rfl rfl rfl rfl fa59_1 ?_
  refine Ie.indexArr rfl rfl rfl rfl Tryz.underlying56 sz55 rfl rfl (by decide) ?_
  refine Ie.load rfl rfl rfl rfl rfl ag55 (by first | exact .head | exact .tail .head | exact .tail (.tail .head) | exact .tail (.tail (.tail .head)) | exact .base ‹_› ‹_› (by simp)) rfl ?_
  refine Ie.p rfl rfl rfl rfl ?_
  refine Ie.p rfl rfl rfl rfl ?_
  refine Ie.call _ rfl rfl rfl rfl rfl rfl (fun m hm => cl_i64_4 hm.lole (Fit.wr .i64 a) (Fit.wr .i64 b)) ?_
  refine Ie.p rfl rfl rfl rfl ?_
  refine Ie.p rfl rfl rfl rfl ?_
  refine Ie.nil ?_
  refine Ne.seq ?_
  refine Ce.ret ?_
  exact Re.end_ rfl rfl (fun m hm => ⟨rfl, hm.ext⟩)

theorem Arith_u8_shl_in {a b : Int} {m : AW} (hm : m.lo ≤ m.next) (ha : Fit .i64 a) {j : Nat} (hy : wr .i32 b = Int.ofNat j) (hj : j < 8) : Fc Tryz.prog 19 [.int .i64 1, .int .i64 8, .int .i64 a, .int .i64 b] m fun v m' => v = .tuple ⟨[.int .i64 (wr .u8 (wr .u8 a * 2 ^ j)), .int .i64 0]⟩ ∧ Ext m m' := by
  refine Fc.body (c := _) Tryz.func19 rfl rfl rfl rfl hm ?_
  refine Ce.seq ?_
  refine Ce.region ?_
  refine Ie.p rfl rfl rfl rfl ?_
  refine Ie.p rfl rfl rfl rfl ?_
  refine Ie.nil ?_
  refine Ne.seq ?_
  refine Ce.seq ?_
  refine Ce.region ?_
  refine Ie.p rfl rfl rfl rfl ?_
  refine Ie.calln _ _ _ rfl rfl rfl rfl rfl rfl (fun m hm => of_u8 hm.lole) (fun x hx => ?_)
  clear hx
  refine Ie.p rfl rfl rfl rfl ?_
  refine Ie.p rfl rfl rfl rfl ?_
  refine Ie.p rfl rfl rfl rfl ?_
  refine Ie.alloc rfl rfl rfl rfl zr59 (fun b10 hb10 => ?_)
  refine Ie.store rfl rfl rfl rfl rfl sz59 rfl (by first | exact .head | exact .tail .head | exact .tail (.tail .head) | exact .tail (.tail (.tail .head))) rfl ?_
  refine Ie.p rfl rfl rfl rfl ?_
  refine Ie.nil ?_
  refine Ne.seq ?_
  refine Ce.seq ?_
  refine Ce.seq ?_
  refine Ce.region ?_
  refine Ie.p rfl rfl rfl rfl ?_
  refine Ie.p rfl rfl rfl rfl ?_
  refine Ie.nil ?_
  refine Ne.seq ?_
  refine Ce.cond_false rfl ?_
  refine Ce.skip ?_
  refine Ne.seq ?_
  refine Ce.seq ?_
  refine Ce.block ?_
  refine Ce.seq ?_
  refine Ce.region ?_
  refine Ie.p rfl rfl rfl rfl ?_
  refine Ie.p rfl rfl rfl rfl ?_
  refine Ie.p rfl rfl rfl rfl ?_
  refine Ie.fieldAddr rfl rfl rfl rfl rfl fa59_2 ?_
  refine Ie.load rfl rfl rfl rfl rfl ag55 (by first | exact .head | exact .tail .head | exact .tail (.tail .head) | exact .tail (.tail (.tail .head)) | exact .base ‹_› ‹_› (by simp)) rfl ?_
  refine Ie.bin (v := .bool true) rfl rfl rfl rfl rfl rfl (by kernel_rfl) ?_
  refine Ie.p rfl rfl rfl rfl ?_
  refine Ie.p rfl rfl rfl rfl ?_
  refine Ie.nil ?_
  refine Ne.seq ?_
  refine Ce.cond_true rfl ?_
  refine Ce.seq ?_
  refine Ce.draw [⟨0, .p, false, true, 0⟩, ⟨1, .l, false, true, 1⟩, ⟨2, .p, true, true, 0⟩, ⟨3, .l, true, true, 4⟩, ⟨4, .p, true, true, 0⟩, ⟨5, .h, true, true, 28⟩, ⟨6, .p, false, false, 0⟩, ⟨7, .p, false, false, 64⟩, ⟨8, .p, false, false, 192⟩, ⟨9, .h, true, true, 511⟩, ⟨10, .p, true, true, 1023⟩, ⟨11, .p, true, true, 2047⟩] (by kernel_rfl) (by kernel_rfl) (fun base hbase hB => ?_)
  refine De.fieldAddr rfl rfl rfl rfl rfl rfl fa59_2 ?_
  refine De.loadOld rfl rfl rfl rfl rfl rfl ag55 (by first | exact .head | exact .tail .head | exact .tail (.tail .head) | exact .tail (.tail (.tail .head)) | exact .base ‹_› ‹_› (by simp)) rfl (by first | exact hB _ _ (.head _) | exact hB _ _ (.tail _ (.head _)) | exact hB _ _ (.tail _ (.tail _ (.head _))) | exact hB _ _ (.tail _ (.tail _ (.tail _ (.head _)))) | exact Nat.lt_of_lt_of_le ‹_› hbase) (fun _ => ?_)
  refine De.fieldAddr rfl rfl rfl rfl rfl rfl fa59_0 ?_
  refine De.load rfl rfl rfl rfl rfl rfl rfl rfl ag54 (by first | exact .head | exact .tail .head | exact .tail (.tail .head) | exact .tail (.tail (.tail .head)) | exact .base ‹_› ‹_› (by simp)) rfl ?_
  refine De.p rfl rfl rfl rfl rfl ?_
  refine De.call _ rfl rfl rfl rfl rfl rfl rfl rfl rfl (fun m hm => cl_u8_1 hm.lole ha) ?_
  refine De.p rfl rfl rfl rfl rfl ?_
  refine De.convInt rfl rfl rfl rfl rfl Tryz.underlying2 Tryz.underlying21 rfl ?_
  refine De.convInt rfl rfl rfl rfl rfl Tryz.underlying21 Tryz.underlying2 rfl ?_
  refine De.as 38 (.int .i64 (Int.ofNat j)) rfl (congrArg (Value.int .i64) ((wr64 _ _ (by decide) (by decide)).trans hy)) ?_
  refine De.call _ rfl rfl rfl rfl rfl rfl rfl rfl rfl (fun m hm => shl_in_u8 hm.lole (hm.has x _ (.tail _ (.head _))).1 (hm.has x _ (.tail _ (.head _))).2 (Fit.wr _ _) hj) ?_
  refine De.p rfl rfl rfl rfl rfl ?_
  refine De.p rfl rfl rfl rfl rfl ?_
  refine De.nil ?_
  refine Ne.seq ?_
  refine Ce.ret ?_
  refine Re.blk ?_
  refine Re.seq ?_
  exact Re.end_ rfl rfl (fun m hm => ⟨rfl, hm.ext⟩)

theorem Arith_u8_shr_big {a b : Int} {m : AW} (hm : m.lo ≤ m.next) (ha : Fit .i64 a) (hy : 0 ≤ wr .i32 b) (hy2 : 8 ≤ wr .i32 b) : Fc Tryz.prog 19 [.int .i64 1, .int .i64 9, .int .i64 a, .int .i64 b] m fun v m' => v = .tuple ⟨[.int .i64 (0), .int .i64 0]⟩ ∧ Ext m m' := by
  refine Fc.body (c := _) Tryz.func19 rfl rfl rfl rfl hm ?_
  refine Ce.seq ?_
  refine Ce.region ?_
  refine Ie.p rfl rfl rfl rfl ?_
  refine Ie.p rfl rfl rfl rfl ?_
  refine Ie.nil ?_
  refine Ne.seq ?_
  refine Ce.seq ?_
  refine Ce.region ?_
  refine Ie.p rfl rfl rfl rfl ?_
  refine Ie.calln _ _ _ rfl rfl rfl rfl rfl rfl (fun m hm => of_u8 hm.lole) (fun x hx => ?_)
  clear hx
  refine Ie.p rfl rfl rfl rfl ?_
  refine Ie.p rfl rfl rfl rfl ?_
  refine Ie.p rfl rfl rfl rfl ?_
  refine Ie.alloc rfl rfl rfl rfl zr59 (fun b10 hb10 => ?_)
  refine Ie.store rfl rfl rfl rfl rfl sz59 rfl (by first | exact .head | exact .tail .head | exact .tail (.tail .head) | exact .tail (.tail (.tail .head))) rfl ?_
  refine Ie.p rfl rfl rfl rfl ?_
  refine Ie.nil ?_
  refine Ne.seq ?_
  refine Ce.seq ?_
  refine Ce.seq ?_
  refine Ce.region ?_
  refine Ie.p rfl rfl rfl rfl ?_
  refine Ie.p rfl rfl rfl rfl ?_
  refine Ie.nil ?_
  refine Ne.seq ?_
  refine Ce.cond_false rfl ?_
  refine Ce.skip ?_
  refine Ne.seq ?_
  refine Ce.seq ?_
  refine Ce.block ?_
  refine Ce.seq ?_
  refine Ce.region ?_
  refine Ie.p rfl rfl rfl rfl ?_
  refine Ie.p rfl rfl rfl rfl ?_
  refine Ie.p rfl rfl rfl rfl ?_
  refine Ie.off rfl rfl rfl ?_
  refine Ie.off rfl rfl rfl ?_
  refine Ie.off rfl rfl rfl ?_
  refine Ie.p rfl rfl rfl rfl ?_
  refine Ie.p rfl rfl rfl rfl ?_
  refine Ie.nil ?_
  refine Ne.seq ?_
  refine Ce.cond_false rfl ?_
  refine Ce.seq ?_
  refine Ce.region ?_
  refine Ie.p rfl rfl rfl rfl ?_
  refine Ie.p rfl rfl rfl rfl ?_
  refine Ie.p rfl rfl rfl rfl ?_
  refine Ie.fieldAddr rfl rfl rfl rfl rfl fa59_3 ?_
  refine Ie.load rfl rfl rfl rfl rfl ag55 (by first | exact .head | exact .tail .head | exact .tail (.tail .head) | exact .tail (.tail (.tail .head)) | exact .base ‹_› ‹_› (by simp)) rfl ?_
  refine Ie.bin (v := .bool true) rfl rfl rfl rfl rfl rfl (by kernel_rfl) ?_
  refine Ie.p rfl rfl rfl rfl ?_
  refine Ie.p rfl rfl rfl rfl ?_
  refine Ie.nil ?_
  refine Ne.seq ?_
  refine Ce.cond_true rfl ?_
  refine Ce.seq ?_
  refine Ce.draw [⟨0, .p, false, true, 0⟩, ⟨1, .l, false, true, 1⟩, ⟨2, .p, true, true, 0⟩, ⟨3, .l, true, true, 4⟩, ⟨4, .p, true, true, 0⟩, ⟨5, .h, true, true, 28⟩, ⟨6, .p, false, false, 0⟩, ⟨7, .p, false, false, 64⟩, ⟨8, .p, false, false, 192⟩, ⟨9, .h, true, true, 511⟩, ⟨10, .p, true, true, 1023⟩, ⟨11, .p, true, true, 2047⟩] (by kernel_rfl) (by kernel_rfl) (fun base hbase hB => ?_)
  refine De.fieldAddr rfl rfl rfl rfl rfl rfl fa59_3 ?_
  refine De.loadOld rfl rfl rfl rfl rfl rfl ag55 (by first | exact .head | exact .tail .head | exact .tail (.tail .head) | exact .tail (.tail (.tail .head)) | exact .base ‹_› ‹_› (by simp)) rfl (by first | exact hB _ _ (.head _) | exact hB _ _ (.tail _ (.head _)) | exact hB _ _ (.tail _ (.tail _ (.head _))) | exact hB _ _ (.tail _ (.tail _ (.tail _ (.head _)))) | exact Nat.lt_of_lt_of_le ‹_› hbase) (fun _ => ?_)
  refine De.fieldAddr rfl rfl rfl rfl rfl rfl fa59_0 ?_
  refine De.load rfl rfl rfl rfl rfl rfl rfl rfl ag54 (by first | exact .head | exact .tail .head | exact .tail (.tail .head) | exact .tail (.tail (.tail .head)) | exact .base ‹_› ‹_› (by simp)) rfl ?_
  refine De.p rfl rfl rfl rfl rfl ?_
  refine De.call _ rfl rfl rfl rfl rfl rfl rfl rfl rfl (fun m hm => cl_u8_1 hm.lole ha) ?_
  refine De.p rfl rfl rfl rfl rfl ?_
  refine De.convInt rfl rfl rfl rfl rfl Tryz.underlying2 Tryz.underlying21 rfl ?_
  refine De.convInt rfl rfl rfl rfl rfl Tryz.underlying21 Tryz.underlying2 rfl ?_
  refine De.as 56 (.int .i64 (wr .i32 b)) rfl (congrArg (Value.int .i64) (wr64 _ _ (by decide) (by decide))) ?_
  refine De.call _ rfl rfl rfl rfl rfl rfl rfl rfl rfl (fun m hm => shr_big_u8 hm.lole (hm.has x _ (.tail _ (.head _))).1 (hm.has x _ (.tail _ (.head _))).2 (Fit.wr _ _) hy hy2) ?_
  refine De.p rfl rfl rfl rfl rfl ?_
  refine De.p rfl rfl rfl rfl rfl ?_
  refine De.nil ?_
  refine Ne.seq ?_
  refine Ce.ret ?_
  refine Re.blk ?_
  refine Re.seq ?_
  exact Re.end_ rfl rfl (fun m hm => ⟨rfl, hm.ext⟩)

theorem Arith_u8_shr_in {a b : Int} {m : AW} (hm : m.lo ≤ m.next) (ha : Fit .i64 a) {j : Nat} (hy : wr .i32 b = Int.ofNat j) (hj : j < 8) : Fc Tryz.prog 19 [.int .i64 1, .int .i64 9, .int .i64 a, .int .i64 b] m fun v m' => v = .tuple ⟨[.int .i64 ((wr .u8 a).fdiv (2 ^ j)), .int .i64 0]⟩ ∧ Ext m m' := by
  refine Fc.body (c := _) Tryz.func19 rfl rfl rfl rfl hm ?_
  refine Ce.seq ?_
  refine Ce.region ?_
  refine Ie.p rfl rfl rfl rfl ?_
  refine Ie.p rfl rfl rfl rfl ?_
  refine Ie.nil ?_
  refine Ne.seq ?_
  refine Ce.seq ?_
  refine Ce.region ?_
  refine Ie.p rfl rfl rfl rfl ?_
  refine Ie.calln _ _ _ rfl rfl rfl rfl rfl rfl (fun m hm => of_u8 hm.lole) (fun x hx => ?_)
  clear hx
  refine Ie.p rfl rfl rfl rfl ?_
  refine Ie.p rfl rfl rfl rfl ?_
  refine Ie.p rfl rfl rfl rfl ?_
  refine Ie.alloc rfl rfl rfl rfl zr59 (fun b10 hb10 => ?_)
  refine Ie.store rfl rfl rfl rfl rfl sz59 rfl (by first | exact .head | exact .tail .head | exact .tail (.tail .head) | exact .tail (.tail (.tail .head))) rfl ?_
  refine Ie.p rfl rfl rfl rfl ?_
  refine Ie.nil ?_
  refine Ne.seq ?_
  refine Ce.seq ?_
  refine Ce.seq ?_
  refine Ce.region ?_
  refine Ie.p rfl rfl rfl rfl ?_
  refine Ie.p rfl rfl rfl rfl ?_
  refine Ie.nil ?_
  refine Ne.seq ?_
  refine Ce.cond_false rfl ?_
  refine Ce.skip ?_
  refine Ne.seq ?_
  refine Ce.seq ?_
  refine Ce.block ?_
  refine Ce.seq ?_
  refine Ce.region ?_
  refine Ie.p rfl rfl rfl rfl ?_
  refine Ie.p rfl rfl rfl rfl ?_
  refine Ie.p rfl rfl rfl rfl ?_
  refine Ie.off rfl rfl rfl ?_
  refine Ie.off rfl rfl rfl ?_
  refine Ie.off rfl rfl rfl ?_
  refine Ie.p rfl rfl rfl rfl ?_
  refine Ie.p rfl rfl rfl rfl ?_
  refine Ie.nil ?_
  refine Ne.seq ?_
  refine Ce.cond_false rfl ?_
  refine Ce.seq ?_
  refine Ce.region ?_
  refine Ie.p rfl rfl rfl rfl ?_
  refine Ie.p rfl rfl rfl rfl ?_
  refine Ie.p rfl rfl rfl rfl ?_
  refine Ie.fieldAddr rfl rfl rfl rfl rfl fa59_3 ?_
  refine Ie.load rfl rfl rfl rfl rfl ag55 (by first | exact .head | exact .tail .head | exact .tail (.tail .head) | exact .tail (.tail (.tail .head)) | exact .base ‹_› ‹_› (by simp)) rfl ?_
  refine Ie.bin (v := .bool true) rfl rfl rfl rfl rfl rfl (by kernel_rfl) ?_
  refine Ie.p rfl rfl rfl rfl ?_
  refine Ie.p rfl rfl rfl rfl ?_
  refine Ie.nil ?_
  refine Ne.seq ?_
  refine Ce.cond_true rfl ?_
  refine Ce.seq ?_
  refine Ce.draw [⟨0, .p, false, true, 0⟩, ⟨1, .l, false, true, 1⟩, ⟨2, .p, true, true, 0⟩, ⟨3, .l, true, true, 4⟩, ⟨4, .p, true, true, 0⟩, ⟨5, .h, true, true, 28⟩, ⟨6, .p, false, false, 0⟩, ⟨7, .p, false, false, 64⟩, ⟨8, .p, false, false, 192⟩, ⟨9, .h, true, true, 511⟩, ⟨10, .p, true, true, 1023⟩, ⟨11, .p, true, true, 2047⟩] (by kernel_rfl) (by kernel_rfl) (fun base hbase hB => ?_)
  refine De.fieldAddr rfl rfl rfl rfl rfl rfl fa59_3 ?_
  refine De.loadOld rfl rfl rfl rfl rfl rfl ag55 (by first | exact .head | exact .tail .head | exact .tail (.tail .head) | exact .tail (.tail (.tail .head)) | exact .base ‹_› ‹_› (by simp)) rfl (by first | exact hB _ _ (.head _) | exact hB _ _ (.tail _ (.head _)) | exact hB _ _ (.tail _ (.tail _ (.head _))) | exact hB _ _ (.tail _ (.tail _ (.tail _ (.head _)))) | exact Nat.lt_of_lt_of_le ‹_› hbase) (fun _ => ?_)
  refine De.fieldAddr rfl rfl rfl rfl rfl rfl fa59_0 ?_
  refine De.load rfl rfl rfl rfl rfl rfl rfl rfl ag54 (by first | exact .head | exact .tail .head | exact .tail (.tail .head) | exact .tail (.tail (.tail .head)) | exact .base ‹_› ‹_› (by simp)) rfl ?_
  refine De.p rfl rfl rfl rfl rfl ?_
  refine De.call _ rfl rfl rfl rfl rfl rfl rfl rfl rfl (fun m hm => cl_u8_1 hm.lole ha) ?_
  refine De.p rfl rfl rfl rfl rfl ?_
  refine De.convInt rfl rfl rfl rfl rfl Tryz.underlying2 Tryz.underlying21 rfl ?_
  refine De.convInt rfl rfl rfl rfl rfl Tryz.underlying21 Tryz.underlying2 rfl ?_
  refine De.as 56 (.int .i64 (Int.ofNat j)) rfl (congrArg (Value.int .i64) ((wr64 _ _ (by decide) (by decide)).trans hy)) ?_
  refine De.call _ rfl rfl rfl rfl rfl rfl rfl rfl rfl (fun m hm => shr_in_u8 hm.lole (hm.has x _ (.tail _ (.head _))).1 (hm.has x _ (.tail _ (.head _))).2 (Fit.wr _ _) hj) ?_
  refine De.p rfl rfl rfl rfl rfl ?_
  refine De.p rfl rfl rfl rfl rfl ?_
  refine De.nil ?_
  refine Ne.seq ?_
  refine Ce.ret ?_
  refine Re.blk ?_
  refine Re.seq ?_
  exact Re.end_ rfl rfl (fun m hm => ⟨rfl, hm.ext⟩)

theorem Arith_i32_shl_in {a b : Int} {m : AW} (hm : m.lo ≤ m.next) (ha : Fit .i64 a) {j : Nat} (hy : wr .i32 b = Int.ofNat j) (hj : j < 32) : Fc Tryz.prog 19 [.int .i64 2, .int .i64 8, .int .i64 a, .int .i64 b] m fun v m' => v = .tuple ⟨[.int .i64 (wr .i32 (wr .i32 a * 2 ^ j)), .int .i64 0]⟩ ∧ Ext m m' := by
  refine Fc.body (c := _) Tryz.func19 rfl rfl rfl rfl hm ?_
  refine Ce.seq ?_
  refine Ce.region ?_
  refine Ie.p rfl rfl rfl rfl ?_
  refine Ie.p rfl rfl rfl rfl ?_
  refine Ie.nil ?_
  refine Ne.seq ?_
  refine Ce.seq ?_
  refine Ce.region ?_
  refine Ie.p rfl rfl rfl rfl ?_
  refine Ie.calln _ _ _ rfl rfl rfl rfl rfl rfl (fun m hm => of_i32 hm.lole) (fun x hx => ?_)
  clear hx
  refine Ie.p rfl rfl rfl rfl ?_
  refine Ie.p rfl rfl rfl rfl ?_
  refine Ie.p rfl rfl rfl rfl ?_
  refine Ie.alloc rfl rfl rfl rfl zr59 (fun b10 hb10 => ?_)
  refine Ie.store rfl rfl rfl rfl rfl sz59 rfl (by first | exact .head | exact .tail .head | exact .tail (.tail .head) | exact .tail (.tail (.tail .head))) rfl ?_
  refine Ie.p rfl rfl rfl rfl ?_
  refine Ie.nil ?_
  refine Ne.seq ?_
  refine Ce.seq ?_
  refine Ce.seq ?_
  refine Ce.region ?_
  refine Ie.p rfl rfl rfl rfl ?_
  refine Ie.p rfl rfl rfl rfl ?_
  refine Ie.nil ?_
  refine Ne.seq ?_
  refine Ce.cond_false rfl ?_
  refine Ce.skip ?_
  refine Ne.seq ?_
  refine Ce.seq ?_
  refine Ce.block ?_
  refine Ce.seq ?_
  refine Ce.region ?_
  refine Ie.p rfl rfl rfl rfl ?_
  refine Ie.p rfl rfl rfl rfl ?_
  refine Ie.p rfl rfl rfl rfl ?_
  refine Ie.fieldAddr rfl rfl rfl rfl rfl fa59_2 ?_
  refine Ie.load rfl rfl rfl rfl rfl ag55 (by first | exact .head | exact .tail .head | exact .tail (.tail .head) | exact .tail (.tail (.tail .head)) | exact .base ‹_› ‹_› (by simp)) rfl ?_
  refine Ie.bin (v := .bool true) rfl rfl rfl rfl rfl rfl (by kernel_rfl) ?_
  refine Ie.p rfl rfl rfl rfl ?_
  refine Ie.p rfl rfl rfl rfl ?_
  refine Ie.nil ?_
  refine Ne.seq ?_
  refine Ce.cond_true rfl ?_
  refine Ce.seq ?_
  refine Ce.draw [⟨0, .p, false, true, 0⟩, ⟨1, .l, false, true, 1⟩, ⟨2, .p, true, true, 0⟩, ⟨3, .l, true, true, 4⟩, ⟨4, .p, true, true, 0⟩, ⟨5, .h, true, true, 28⟩, ⟨6, .p, false, false, 0⟩, ⟨7, .p, false, false, 64⟩, ⟨8, .p, false, false, 192⟩, ⟨9, .h, true, true, 511⟩, ⟨10, .p, true, true, 1023⟩, ⟨11, .p, true, true, 2047⟩] (by kernel_rfl) (by kernel_rfl) (fun base hbase hB => ?_)
  refine De.fieldAddr rfl rfl rfl rfl rfl rfl fa59_2 ?_
  refine De.loadOld rfl rfl rfl rfl rfl rfl ag55 (by first | exact .head | exact .tail .head | exact .tail (.tail .head) | exact .tail (.tail (.tail .head)) | exact .base ‹_› ‹_› (by simp)) rfl (by first | exact hB _ _ (.head _) | exact hB _ _ (.tail _ (.head _)) | exact hB _ _ (.tail _ (.tail _ (.head _))) | exact hB _ _ (.tail _ (.tail _ (.tail _ (.head _)))) | exact Nat.lt_of_lt_of_le ‹_› hbase) (fun _ => ?_)
  refine De.fieldAddr rfl rfl rfl rfl rfl rfl fa59_0 ?_
  refine De.load rfl rfl rfl rfl rfl rfl rfl rfl ag54 (by first | exact .head | exact .tail .head | exact .tail (.tail .head) | exact .tail (.tail (.tail .head)) | exact .base ‹_› ‹_› (by simp)) rfl ?_
  refine De.p rfl rfl rfl rfl rfl ?_
  refine De.call _ rfl rfl rfl rfl rfl rfl rfl rfl rfl (fun m hm => cl_i32_1 hm.lole ha) ?_
  refine De.p rfl rfl rfl rfl rfl ?_
  refine De.convInt rfl rfl rfl rfl rfl Tryz.underlying2 Tryz.underlying21 rfl ?_
  refine De.convInt rfl rfl rfl rfl rfl Tryz.underlying21 Tryz.underlying2 rfl ?_
  refine De.as 38 (.int .i64 (Int.ofNat j)) rfl (congrArg (Value.int .i64) ((wr64 _ _ (by decide) (by decide)).trans hy)) ?_
  refine De.call _ rfl rfl rfl rfl rfl rfl rfl rfl rfl (fun m hm => shl_in_i32 hm.lole (hm.has x _ (.tail _ (.head _))).1 (hm.has x _ (.tail _ (.head _))).2 (Fit.wr _ _) hj) ?_
  refine De.p rfl rfl rfl rfl rfl ?_
  refine De.p rfl rfl rfl rfl rfl ?_
  refine De.nil ?_
  refine Ne.seq ?_
  refine Ce.ret ?_
  refine Re.blk ?_
  refine Re.seq ?_
  exact Re.end_ rfl rfl (fun m hm => ⟨rfl, hm.ext⟩)

theorem Arith_i32_shr_big {a b : Int} {m : AW} (hm : m.lo ≤ m.next) (ha : Fit .i64 a) (hy : 0 ≤ wr .i32 b) (hy2 : 32 ≤ wr .i32 b) : Fc Tryz.prog 19 [.int .i64 2, .int .i64 9, .int .i64 a, .int .i64 b] m fun v m' => v = .tuple ⟨[.int .i64 (if wr .i32 a < 0 then -1 else 0), .int .i64 0]⟩ ∧ Ext m m' := by
  refine Fc.body (c := _) Tryz.func19 rfl rfl rfl rfl hm ?_
  refine Ce.seq ?_
  refine Ce.region ?_
  refine Ie.p rfl rfl rfl rfl ?_
  refine Ie.p rfl rfl rfl rfl ?_
  refine Ie.nil ?_
  refine Ne.seq ?_
  refine Ce.seq ?_
  refine Ce.region ?_
  refine Ie.p rfl rfl rfl rfl ?_
  refine Ie.calln _ _ _ rfl rfl rfl rfl rfl rfl (fun m hm => of_i32 hm.lole) (fun x hx => ?_)
  clear hx
  refine Ie.p rfl rfl rfl rfl ?_
  refine Ie.p rfl rfl rfl rfl ?_
  refine Ie.p rfl rfl rfl rfl ?_
  refine Ie.alloc rfl rfl rfl rfl zr59 (fun b10 hb10 => ?_)
  refine Ie.store rfl rfl rfl rfl rfl sz59 rfl (by first | exact .head | exact .tail .head | exact .tail (.tail .head) | exact .tail (.tail (.tail .head))) rfl ?_
  refine Ie.p rfl rfl rfl rfl ?_
  refine Ie.nil ?_
  refine Ne.seq ?_
  refine Ce.seq ?_
  refine Ce.seq ?_
  refine Ce.region ?_
  refine Ie.p rfl rfl rfl rfl ?_
  refine Ie.p rfl rfl rfl rfl ?_
  refine Ie.nil ?_
  refine Ne.seq ?_
  refine Ce.cond_false rfl ?_
  refine Ce.skip ?_
  refine Ne.seq ?_
  refine Ce.seq ?_
  refine Ce.block ?_
  refine Ce.seq ?_
  refine Ce.region ?_
  refine Ie.p rfl rfl rfl rfl ?_
  refine Ie.p rfl rfl rfl rfl ?_
  refine Ie.p rfl rfl rfl rfl ?_
  refine Ie.off rfl rfl rfl ?_
  refine Ie.off rfl rfl rfl ?_
  refine Ie.off rfl rfl rfl ?_
  refine Ie.p rfl rfl rfl rfl ?_
  refine Ie.p rfl rfl rfl rfl ?_
  refine Ie.nil ?_
  refine Ne.seq ?_
  refine Ce.cond_false rfl ?_
  refine Ce.seq ?_
  refine Ce.region ?_
  refine Ie.p rfl rfl rfl rfl ?_
  refine Ie.p rfl rfl rfl rfl ?_
  refine Ie.p rfl rfl rfl rfl ?_
  refine Ie.fieldAddr rfl rfl rfl rfl rfl fa59_3 ?_
  refine Ie.load rfl rfl rfl rfl rfl ag55 (by first | exact .head | exact .tail .head | exact .tail (.tail .head) | exact .tail (.tail (.tail .head)) | exact .base ‹_› ‹_› (by simp)) rfl ?_
  refine Ie.bin (v := .bool true) rfl rfl rfl rfl rfl rfl (by kernel_rfl) ?_
  refine Ie.p rfl rfl rfl rfl ?_
  refine Ie.p rfl rfl rfl rfl ?_
  refine Ie.nil ?_
  refine Ne.seq ?_
  refine Ce.cond_true rfl ?_
  refine Ce.seq ?_
  refine Ce.draw [⟨0, .p, false, true, 0⟩, ⟨1, .l, false, true, 1⟩, ⟨2, .p, true, true, 0⟩, ⟨3, .l, true, true, 4⟩, ⟨4, .p, true, true, 0⟩, ⟨5, .h, true, true, 28⟩, ⟨6, .p, false, false, 0⟩, ⟨7, .p, false, false, 64⟩, ⟨8, .p, false, false, 192⟩, ⟨9, .h, true, true, 511⟩, ⟨10, .p, true, true, 1023⟩, ⟨11, .p, true, true, 2047⟩] (by kernel_rfl) (by kernel_rfl) (fun base hbase hB => ?_)
  refine De.fieldAddr rfl rfl rfl rfl rfl rfl fa59_3 ?_
  refine De.loadOld rfl rfl rfl rfl rfl rfl ag55 (by first | exact .head | exact .tail .head | exact .tail (.tail .head) | exact .tail (.tail (.tail .head)) | exact .base ‹_› ‹_› (by simp)) rfl (by first | exact hB _ _ (.head _) | exact hB _ _ (.tail _ (.head _)) | exact hB _ _ (.tail _ (.tail _ (.head _))) | exact hB _ _ (.tail _ (.tail _ (.tail _ (.head _)))) | exact Nat.lt_of_lt_of_le ‹_› hbase) (fun _ => ?_)
  refine De.fieldAddr rfl rfl rfl rfl rfl rfl fa59_0 ?_
  refine De.load rfl rfl rfl rfl rfl rfl rfl rfl ag54 (by first | exact .head | exact .tail .head | exact .tail (.tail .head) | exact .tail (.tail (.tail .head)) | exact .base ‹_› ‹_› (by simp)) rfl ?_
  refine De.p rfl rfl rfl rfl rfl ?_
  refine De.call _ rfl rfl rfl rfl rfl rfl rfl rfl rfl (fun m hm => cl_i32_1 hm.lole ha) ?_
  refine De.p rfl rfl rfl rfl rfl ?_
  refine De.convInt rfl rfl rfl rfl rfl Tryz.underlying2 Tryz.underlying21 rfl ?_
  refine De.convInt rfl rfl rfl rfl rfl Tryz.underlying21 Tryz.underlying2 rfl ?_
  refine De.as 56 (.int .i64 (wr .i32 b)) rfl (congrArg (Value.int .i64) (wr64 _ _ (by decide) (by decide))) ?_
  refine De.call _ rfl rfl rfl rfl rfl rfl rfl rfl rfl (fun m hm => shr_big_i32 hm.lole (hm.has x _ (.tail _ (.head _))).1 (hm.has x _ (.tail _ (.head _))).2 (Fit.wr _ _) hy hy2) ?_
  refine De.p rfl rfl rfl rfl rfl ?_
  refine De.p rfl rfl rfl rfl rfl ?_
  refine De.nil ?_
  refine Ne.seq ?_
  refine Ce.ret ?_
  refine Re.blk ?_
  refine Re.seq ?_
  exact Re.end_ rfl rfl (fun m hm => ⟨rfl, hm.ext⟩)

theorem Arith_i32_shr_in {a b : Int} {m : AW} (hm : m.lo ≤ m.next) (ha : Fit .i64 a) {j : Nat} (hy : wr .i32 b = Int.ofNat j) (hj : j < 32) : Fc Tryz.prog 19 [.int .i64 2, .int .i64 9, .int .i64 a, .int .i64 b] m fun v m' => v = .tuple ⟨[.int .i64 ((wr .i32 a).fdiv (2 ^ j)), .int .i64 0]⟩ ∧ Ext m m' := by
  refine Fc.body (c := _) Tryz.func19 rfl rfl rfl rfl hm ?_
  refine Ce.seq ?_
  refine Ce.region ?_
  refine Ie.p rfl rfl rfl rfl ?_
  refine Ie.p rfl rfl rfl rfl ?_
  refine Ie.nil ?_
  refine Ne.seq ?_
  refine Ce.seq ?_
  refine Ce.region ?_
  refine Ie.p rfl rfl rfl rfl ?_
  refine Ie.calln _ _ _ rfl rfl rfl rfl rfl rfl (fun m hm => of_i32 hm.lole) (fun x hx => ?_)
  clear hx
  refine Ie.p rfl rfl rfl rfl ?_
  refine Ie.p rfl rfl rfl rfl ?_
  refine Ie.p rfl rfl rfl rfl ?_
  refine Ie.alloc rfl rfl rfl rfl zr59 (fun b10 hb10 => ?_)
  refine Ie.store rfl rfl rfl rfl rfl sz59 rfl (by first | exact .head | exact .tail .head | exact .tail (.tail .head) | exact .tail (.tail (.tail .head))) rfl ?_
  refine Ie.p rfl rfl rfl rfl ?_
  refine Ie.nil ?_
  refine Ne.seq ?_
  refine Ce.seq ?_
  refine Ce.seq ?_
  refine Ce.region ?_
  refine Ie.p rfl rfl rfl rfl ?_
  refine Ie.p rfl rfl rfl rfl ?_
  refine Ie.nil ?_
  refine Ne.seq ?_
  refine Ce.cond_false rfl ?_
  refine Ce.skip ?_
  refine Ne.seq ?_
  refine Ce.seq ?_
  refine Ce.block ?_
  refine Ce.seq ?_
  refine Ce.region ?_
  refine Ie.p rfl rfl rfl rfl ?_
  refine Ie.p rfl rfl rfl rfl ?_
  refine Ie.p rfl rfl rfl rfl ?_
  refine Ie.off rfl rfl rfl ?_
  refine Ie.off rfl rfl rfl ?_
  refine Ie.off rfl rfl rfl ?_
  refine Ie.p rfl rfl rfl rfl ?_
  refine Ie.p rfl rfl rfl rfl ?_
  refine Ie.nil ?_
  refine Ne.seq ?_
  refine Ce.cond_false rfl ?_
  refine Ce.seq ?_
  refine Ce.region ?_
  refine Ie.p rfl rfl rfl rfl ?_
  refine Ie.p rfl rfl rfl rfl ?_
  refine Ie.p rfl rfl rfl rfl ?_
  refine Ie.fieldAddr rfl rfl rfl rfl rfl fa59_3 ?_
  refine Ie.load rfl rfl rfl rfl rfl ag55 (by first | exact .head | exact .tail .head | exact .tail (.tail .head) | exact .tail (.tail (.tail .head)) | exact .base ‹_› ‹_› (by simp)) rfl ?_
  refine Ie.bin (v := .bool true) rfl rfl rfl rfl rfl rfl (by kernel_rfl) ?_
  refine Ie.p rfl rfl rfl rfl ?_
  refine Ie.p rfl rfl rfl rfl ?_
  refine Ie.nil ?_
  refine Ne.seq ?_
  refine Ce.cond_true rfl ?_
  refine Ce.seq ?_
  refine Ce.draw [⟨0, .p, false, true, 0⟩, ⟨1, .l, false, true, 1⟩, ⟨2, .p, true, true, 0⟩, ⟨3, .l, true, true, 4⟩, ⟨4, .p, true, true, 0⟩, ⟨5, .h, true, true, 28⟩, ⟨6, .p, false, false, 0⟩, ⟨7, .p, false, false, 64⟩, ⟨8, .p, false, false, 192⟩, ⟨9, .h, true, true, 511⟩, ⟨10, .p, true, true, 1023⟩, ⟨11, .p, true, true, 2047⟩] (by kernel_rfl) (by kernel_rfl) (fun base hbase hB => ?_)
  refine De.fieldAddr rfl rfl rfl rfl rfl rfl fa59_3 ?_
  refine De.loadOld rfl rfl rfl rfl rfl rfl ag55 (by first | exact .head | exact .tail .head | exact .tail (.tail .head) | exact .tail (.tail (.tail .head)) | exact .base ‹_› ‹_› (by simp)) rfl (by first | exact hB _ _ (.head _) | exact hB _ _ (.tail _ (.head _)) | exact hB _ _ (.tail _ (.tail _ (.head _))) | exact hB _ _ (.tail _ (.tail _ (.tail _ (.head _)))) | exact Nat.lt_of_lt_of_le ‹_› hbase) (fun _ => ?_)
  refine De.fieldAddr rfl rfl rfl rfl rfl rfl fa59_0 ?_
  refine De.load rfl rfl rfl rfl rfl rfl rfl rfl ag54 (by first | exact .head | exact .tail .head | exact .tail (.tail .head) | exact .tail (.tail (.tail .head)) | exact .base ‹_› ‹_› (by simp)) rfl ?_
  refine De.p rfl rfl rfl rfl rfl ?_
  refine De.call _ rfl rfl rfl rfl rfl rfl rfl rfl rfl (fun m hm => cl_i32_1 hm.lole ha) ?_
  refine De.p rfl rfl rfl rfl rfl ?_
  refine De.convInt rfl rfl rfl rfl rfl Tryz.underlying2 Tryz.underlying21 rfl ?_
  refine De.convInt rfl rfl rfl rfl rfl Tryz.underlying21 Tryz.underlying2 rfl ?_
  refine De.as 56 (.int .i64 (Int.ofNat j)) rfl (congrArg (Value.int .i64) ((wr64 _ _ (by decide) (by decide)).trans hy)) ?_
  refine De.call _ rfl rfl rfl rfl rfl rfl rfl rfl rfl (fun m hm => shr_in_i32 hm.lole (hm.has x _ (.tail _ (.head _))).1 (hm.has x _ (.tail _ (.head _))).2 (Fit.wr _ _) hj) ?_
  refine De.p rfl rfl rfl rfl rfl ?_
  refine De.p rfl rfl rfl rfl rfl ?_
  refine De.nil ?_
  refine Ne.seq ?_
  refine Ce.ret ?_
  refine Re.blk ?_
  refine Re.seq ?_
  exact Re.end_ rfl rfl (fun m hm => ⟨rfl, hm.ext⟩)

theorem Arith_i64_shl_in {a b : Int} {m : AW} (hm : m.lo ≤ m.next) (ha : Fit .i64 a) {j : Nat} (hy : wr .i32 b = Int.ofNat j) (hj : j < 64) : Fc Tryz.prog 19 [.int .i64 3, .int .i64 8, .int .i64 a, .int .i64 b] m fun v m' => v = .tuple ⟨[.int .i64 (wr .i64 (wr .i64 a * 2 ^ j)), .int .i64 0]⟩ ∧ Ext m m' := by
  refine Fc.body (c := _) Tryz.func19 rfl rfl rfl rfl hm ?_
  refine Ce.seq ?_
  refine Ce.region ?_
  refine Ie.p rfl rfl rfl rfl ?_
  refine Ie.p rfl rfl rfl rfl ?_
  refine Ie.nil ?_
  refine Ne.seq ?_
  refine Ce.seq ?_
  refine Ce.region ?_
  refine Ie.p rfl rfl rfl rfl ?_
  refine Ie.calln _ _ _ rfl rfl rfl rfl rfl rfl (fun m hm => of_i64 hm.lole) (fun x hx => ?_)
  clear hx
  refine Ie.p rfl rfl rfl rfl ?_
  refine Ie.p rfl rfl rfl rfl ?_
  refine Ie.p rfl rfl rfl rfl ?_
  refine Ie.alloc rfl rfl rfl rfl zr59 (fun b10 hb10 => ?_)
  refine Ie.store rfl rfl rfl rfl rfl sz59 rfl (by first | exact .head | exact .tail .head | exact .tail (.tail .head) | exact .tail (.tail (.tail .head))) rfl ?_
  refine Ie.p rfl rfl rfl rfl ?_
  refine Ie.nil ?_
  refine Ne.seq ?_
  refine Ce.seq ?_
  refine Ce.seq ?_
  refine Ce.region ?_
  refine Ie.p rfl rfl rfl rfl ?_
  refine Ie.p rfl rfl rfl rfl ?_
  refine Ie.nil ?_
  refine Ne.seq ?_
  refine Ce.cond_false rfl ?_
  refine Ce.skip ?_
  refine Ne.seq ?_
  refine Ce.seq ?_
  refine Ce.block ?_
  refine Ce.seq ?_
  refine Ce.region ?_
  refine Ie.p rfl rfl rfl rfl ?_
  refine Ie.p rfl rfl rfl rfl ?_
  refine Ie.p rfl rfl rfl rfl ?_
  refine Ie.fieldAddr rfl rfl rfl rfl rfl fa59_2 ?_
  refine Ie.load rfl rfl rfl rfl rfl ag55 (by first | exact .head | exact .tail .head | exact .tail (.tail .head) | exact .tail (.tail (.tail .head)) | exact .base ‹_› ‹_› (by simp)) rfl ?_
  refine Ie.bin (v := .bool true) rfl rfl rfl rfl rfl rfl (by kernel_rfl) ?_
  refine Ie.p rfl rfl rfl rfl ?_
  refine Ie.p rfl rfl rfl rfl ?_
  refine Ie.nil ?_
  refine Ne.seq ?_
  refine Ce.cond_true rfl ?_
  refine Ce.seq ?_
  refine Ce.draw [⟨0, .p, false, true, 0⟩, ⟨1, .l, false, true, 1⟩, ⟨2, .p, true, true, 0⟩, ⟨3, .l, true, true, 4⟩, ⟨4, .p, true, true, 0⟩, ⟨5, .h, true, true, 28⟩, ⟨6, .p, false, false, 0⟩, ⟨7, .p, false, false, 64⟩, ⟨8, .p, false, false, 192⟩, ⟨9, .h, true, true, 511⟩, ⟨10, .p, true, true, 1023⟩, ⟨11, .p, true, true, 2047⟩] (by kernel_rfl) (by kernel_rfl) (fun base hbase hB => ?_)
  refine De.fieldAddr rfl rfl rfl rfl rfl rfl fa59_2 ?_
  refine De.loadOld rfl rfl rfl rfl rfl rfl ag55 (by first | exact .head | exact .tail .head | exact .tail (.tail .head) | exact .tail (.tail (.tail .head)) | exact .base ‹_› ‹_› (by simp)) rfl (by first | exact hB _ _ (.head _) | exact hB _ _ (.tail _ (.head _)) | exact hB _ _ (.tail _ (.tail _ (.head _))) | exact hB _ _ (.tail _ (.tail _ (.tail _ (.head _)))) | exact Nat.lt_of_lt_of_le ‹_› hbase) (fun _ => ?_)
  refine De.fieldAddr rfl rfl rfl rfl rfl rfl fa59_0 ?_
  refine De.load rfl rfl rfl rfl rfl rfl rfl rfl ag54 (by first | exact .head | exact .tail .head | exact .tail (.tail .head) | exact .tail (.tail (.tail .head)) | exact .base ‹_› ‹_› (by simp)) rfl ?_
  refine De.p rfl rfl rfl rfl rfl ?_
  refine De.call _ rfl rfl rfl rfl rfl rfl rfl rfl rfl (fun m hm => cl_i64_1 hm.lole ha) ?_
  refine De.p rfl rfl rfl rfl rfl ?_
  refine De.convInt rfl rfl rfl rfl rfl Tryz.underlying2 Tryz.underlying21 rfl ?_
  refine De.convInt rfl rfl rfl rfl rfl Tryz.underlying21 Tryz.underlying2 rfl ?_
  refine De.as 38 (.int .i64 (Int.ofNat j)) rfl (congrArg (Value.int .i64) ((wr64 _ _ (by decide) (by decide)).trans hy)) ?_
  refine De.call _ rfl rfl rfl rfl rfl rfl rfl rfl rfl (fun m hm => shl_in_i64 hm.lole (hm.has x _ (.tail _ (.head _))).1 (hm.has x _ (.tail _ (.head _))).2 (Fit.wr _ _) hj) ?_
  refine De.p rfl rfl rfl rfl rfl ?_
  refine De.p rfl rfl rfl rfl rfl ?_
  refine De.nil ?_
  refine Ne.seq ?_
  refine Ce.ret ?_
  refine Re.blk ?_
  refine Re.seq ?_
  exact Re.end_ rfl rfl (fun m hm => ⟨rfl, hm.ext⟩)

theorem Arith_i64_shr_big {a b : Int} {m : AW} (hm : m.lo ≤ m.next) (ha : Fit .i64 a) (hy : 0 ≤ wr .i32 b) (hy2 : 64 ≤ wr .i32 b) : Fc Tryz.prog 19 [.int .i64 3, .int .i64 9, .int .i64 a, .int .i64 b] m fun v m' => v = .tuple ⟨[.int .i64 (if wr .i64 a < 0 then -1 else 0), .int .i64 0]⟩ ∧ Ext m m' := by
  refine Fc.body (c := _) Tryz.func19 rfl rfl rfl rfl hm ?_
  refine Ce.seq ?_
  refine Ce.region ?_
  refine Ie.p rfl rfl rfl rfl ?_
  refine Ie.p rfl rfl rfl rfl ?_
  refine Ie.nil ?_
  refine Ne.seq ?_
  refine Ce.seq ?_
  refine Ce.region ?_
  refine Ie.p rfl rfl rfl rfl ?_
  refine Ie.calln _ _ _ rfl rfl rfl rfl rfl rfl (fun m hm => of_i64 hm.lole) (fun x hx => ?_)
  clear hx
  refine Ie.p rfl rfl rfl rfl ?_
  refine Ie.p rfl rfl rfl rfl ?_
  refine Ie.p rfl rfl rfl rfl ?_
  refine Ie.alloc rfl rfl rfl rfl zr59 (fun b10 hb10 => ?_)
  refine Ie.store rfl rfl rfl rfl rfl sz59 rfl (by first | exact .head | exact .tail .head | exact .tail (.tail .head) | exact .tail (.tail (.tail .head))) rfl ?_
  refine Ie.p rfl rfl rfl rfl ?_
  refine Ie.nil ?_
  refine Ne.seq ?_
  refine Ce.seq ?_
  refine Ce.seq ?_
  refine Ce.region ?_
  refine Ie.p rfl rfl rfl rfl ?_
  refine Ie.p rfl rfl rfl rfl ?_
  refine Ie.nil ?_
  refine Ne.seq ?_
  refine Ce.cond_false rfl ?_
  refine Ce.skip ?_
  refine Ne.seq ?_
  refine Ce.seq ?_
  refine Ce.block ?_
  refine Ce.seq ?_
  refine Ce.region ?_
  refine Ie.p rfl rfl rfl rfl ?_
  refine Ie.p rfl rfl rfl rfl ?_
  refine Ie.p rfl rfl rfl rfl ?_
  refine Ie.off rfl rfl rfl ?_
  refine Ie.off rfl rfl rfl ?_
  refine Ie.off rfl rfl rfl ?_
  refine Ie.p rfl rfl rfl rfl ?_
  refine Ie.p rfl rfl rfl rfl ?_
  refine Ie.nil ?_
  refine Ne.seq ?_
  refine Ce.cond_false rfl ?_
  refine Ce.seq ?_
  refine Ce.region ?_
  refine Ie.p rfl rfl rfl rfl ?_
  refine Ie.p rfl rfl rfl rfl ?_
  refine Ie.p rfl rfl rfl rfl ?_
  refine Ie.fieldAddr rfl rfl rfl rfl rfl fa59_3 ?_
  refine Ie.load rfl rfl rfl rfl rfl ag55 (by first | exact .head | exact .tail .head | exact .tail (.tail .head) | exact .tail (.tail (.tail .head)) | exact .base ‹_› ‹_› (by simp)) rfl ?_
  refine Ie.bin (v := .bool true) rfl rfl rfl rfl rfl rfl (by kernel_rfl) ?_
  refine Ie.p rfl rfl rfl rfl ?_
  refine Ie.p rfl rfl rfl rfl ?_
  refine Ie.nil ?_
  refine Ne.seq ?_
  refine Ce.cond_true rfl ?_
  refine Ce.seq ?_
  refine Ce.draw [⟨0, .p, false, true, 0⟩, ⟨1, .l, false, true, 1⟩, ⟨2, .p, true, true, 0⟩, ⟨3, .l, true, true, 4⟩, ⟨4, .p, true, true, 0⟩, ⟨5, .h, true, true, 28⟩, ⟨6, .p, false, false, 0⟩, ⟨7, .p, false, false, 64⟩, ⟨8, .p, false, false, 192⟩, ⟨9, .h, true, true, 511⟩, ⟨10, .p, true, true, 1023⟩, ⟨11, .p, true, true, 2047⟩] (by kernel_rfl) (by kernel_rfl) (fun base hbase hB => ?_)
  refine De.fieldAddr rfl rfl rfl rfl rfl rfl fa59_3 ?_
  refine De.loadOld rfl rfl rfl rfl rfl rfl ag55 (by first | exact .head | exact .tail .head | exact .tail (.tail .head) | exact .tail (.tail (.tail .head)) | exact .base ‹_› ‹_› (by simp)) rfl (by first | exact hB _ _ (.head _) | exact hB _ _ (.tail _ (.head _)) | exact hB _ _ (.tail _ (.tail _ (.head _))) | exact hB _ _ (.tail _ (.tail _ (.tail _ (.head _)))) | exact Nat.lt_of_lt_of_le ‹_› hbase) (fun _ => ?_)
  refine De.fieldAddr rfl rfl rfl rfl rfl rfl fa59_0 ?_
  refine De.load rfl rfl rfl rfl rfl rfl rfl rfl ag54 (by first | exact .head | exact .tail .head | exact .tail (.tail .head) | exact .tail (.tail (.tail .head)) | exact .base ‹_› ‹_› (by simp)) rfl ?_
  refine De.p rfl rfl rfl rfl rfl ?_
  refine De.call _ rfl rfl rfl rfl rfl rfl rfl rfl rfl (fun m hm => cl_i64_1 hm.lole ha) ?_
  refine De.p rfl rfl rfl rfl rfl ?_
  refine De.convInt rfl rfl rfl rfl rfl Tryz.underlying2 Tryz.underlying21 rfl ?_
  refine De.convInt rfl rfl rfl rfl rfl Tryz.underlying21 Tryz.underlying2 rfl ?_
  refine De.as 56 (.int .i64 (wr .i32 b)) rfl (congrArg (Value.int .i64) (wr64 _ _ (by decide) (by decide))) ?_
  refine De.call _ rfl rfl rfl rfl rfl rfl rfl rfl rfl (fun m hm => shr_big_i64 hm.lole (hm.has x _ (.tail _ (.head _))).1 (hm.has x _ (.tail _ (.head _))).2 (Fit.wr _ _) hy hy2) ?_
  refine De.p rfl rfl rfl rfl rfl ?_
  refine De.p rfl rfl rfl rfl rfl ?_
  refine De.nil ?_
  refine Ne.seq ?_
  refine Ce.ret ?_
  refine Re.blk ?_
  refine Re.seq ?_
  exact Re.end_ rfl rfl (fun m hm => ⟨rfl, hm.ext⟩)

theorem Arith_i64_shr_in {a b : Int} {m : AW} (hm : m.lo ≤ m.next) (ha : Fit .i64 a) {j : Nat} (hy : wr .i32 b = Int.ofNat j) (hj : j < 64) : Fc Tryz.prog 19 [.int .i64 3, .int .i64 9, .int .i64 a, .int .i64 b] m fun v m' => v = .tuple ⟨[.int .i64 ((wr .i64 a).fdiv (2 ^ j)), .int .i64 0]⟩ ∧ Ext m m' := by
  refine Fc.body (c := _) Tryz.func19 rfl rfl rfl rfl hm ?_
  refine Ce.seq ?_
  refine Ce.region ?_
  refine Ie.p rfl rfl rfl rfl ?_
  refine Ie.p rfl rfl rfl rfl ?_
  refine Ie.nil ?_
  refine Ne.seq ?_
  refine Ce.seq ?_
  refine Ce.region ?_
  refine Ie.p rfl rfl rfl rfl ?_
  refine Ie.calln _ _ _ rfl rfl rfl rfl rfl rfl (fun m hm => of_i64 hm.lole) (fun x hx => ?_)
  clear hx
  refine Ie.p rfl rfl rfl rfl ?_
  refine Ie.p rfl rfl rfl rfl ?_
  refine Ie.p rfl rfl rfl rfl ?_
  refine Ie.alloc rfl rfl rfl rfl zr59 (fun b10 hb10 => ?_)
  refine Ie.store rfl rfl rfl rfl rfl sz59 rfl (by first | exact .head | exact .tail .head | exact .tail (.tail .head) | exact .tail (.tail (.tail .head))) rfl ?_
  refine Ie.p rfl rfl rfl rfl ?_
  refine Ie.nil ?_
  refine Ne.seq ?_
  refine Ce.seq ?_
  refine Ce.seq ?_
  refine Ce.region ?_
  refine Ie.p rfl rfl rfl rfl ?_
  refine Ie.p rfl rfl rfl rfl ?_
  refine Ie.nil ?_
  refine Ne.seq ?_
  refine Ce.cond_false rfl ?_
  refine Ce.skip ?_
  refine Ne.seq ?_
  refine Ce.seq ?_
  refine Ce.block ?_
  refine Ce.seq ?_
  refine Ce.region ?_
  refine Ie.p rfl rfl rfl rfl ?_
  refine Ie.p rfl rfl rfl rfl ?_
  refine Ie.p rfl rfl rfl rfl ?_
  refine Ie.off rfl rfl rfl ?_
  refine Ie.off rfl rfl rfl ?_
  refine Ie.off rfl rfl rfl ?_
  refine Ie.p rfl rfl rfl rfl ?_
  refine Ie.p rfl rfl rfl rfl ?_
  refine Ie.nil ?_
  refine Ne.seq ?_
  refine Ce.cond_false rfl ?_
  refine Ce.seq ?_
  refine Ce.region ?_
  refine Ie.p rfl rfl rfl rfl ?_
  refine Ie.p rfl rfl rfl rfl ?_
  refine Ie.p rfl rfl rfl rfl ?_
  refine Ie.fieldAddr rfl rfl rfl rfl rfl fa59_3 ?_
  refine Ie.load rfl rfl rfl rfl rfl ag55 (by first | exact .head | exact .tail .head | exact .tail (.tail .head) | exact .tail (.tail (.tail .head)) | exact .base ‹_› ‹_› (by simp)) rfl ?_
  refine Ie.bin (v := .bool true) rfl rfl rfl rfl rfl rfl (by kernel_rfl) ?_
  refine Ie.p rfl rfl rfl rfl ?_
  refine Ie.p rfl rfl rfl rfl ?_
  refine Ie.nil ?_
  refine Ne.seq ?_
  refine Ce.cond_true rfl ?_
  refine Ce.seq ?_
  refine Ce.draw [⟨0, .p, false, true, 0⟩, ⟨1, .l, false, true, 1⟩, ⟨2, .p, true, true, 0⟩, ⟨3, .l, true, true, 4⟩, ⟨4, .p, true, true, 0⟩, ⟨5, .h, true, true, 28⟩, ⟨6, .p, false, false, 0⟩, ⟨7, .p, false, false, 64⟩, ⟨8, .p, false, false, 192⟩, ⟨9, .h, true, true, 511⟩, ⟨10, .p, true, true, 1023⟩, ⟨11, .p, true, true, 2047⟩] (by kernel_rfl) (by kernel_rfl) (fun base hbase hB => ?_)
  refine De.fieldAddr rfl rfl rfl rfl rfl rfl fa59_3 ?_
  refine De.loadOld rfl rfl rfl rfl rfl rfl ag55 (by first | exact .head | exact .tail .head | exact .tail (.tail .head) | exact .tail (.tail (.tail .head)) | exact .base ‹_› ‹_› (by simp)) rfl (by first | exact hB _ _ (.head _) | exact hB _ _ (.tail _ (.head _)) | exact hB _ _ (.tail _ (.tail _ (.head _))) | exact hB _ _ (.tail _ (.tail _ (.tail _ (.head _)))) | exact Nat.lt_of_lt_of_le ‹_› hbase) (fun _ => ?_)
  refine De.fieldAddr rfl rfl rfl rfl rfl rfl fa59_0 ?_
  refine De.load rfl rfl rfl rfl rfl rfl rfl rfl ag54 (by first | exact .head | exact .tail .head | exact .tail (.tail .head) | exact .tail (.tail (.tail .head)) | exact .base ‹_› ‹_› (by simp)) rfl ?_
  refine De.p rfl rfl rfl rfl rfl ?_
  refine De.call _ rfl rfl rfl rfl rfl rfl rfl rfl rfl (fun m hm => cl_i64_1 hm.lole ha) ?_
  refine De.p rfl rfl rfl rfl rfl ?_
  refine De.convInt rfl rfl rfl rfl rfl Tryz.underlying2 Tryz.underlying21 rfl ?_
  refine De.convInt rfl rfl rfl rfl rfl Tryz.underlying21 Tryz.underlying2 rfl ?_
  refine De.as 56 (.int .i64 (Int.ofNat j)) rfl (congrArg (Value.int .i64) ((wr64 _ _ (by decide) (by decide)).trans hy)) ?_
  refine De.call _ rfl rfl rfl rfl rfl rfl rfl rfl rfl (fun m hm => shr_in_i64 hm.lole (hm.has x _ (.tail _ (.head _))).1 (hm.has x _ (.tail _ (.head _))).2 (Fit.wr _ _) hj) ?_
  refine De.p rfl rfl rfl rfl rfl ?_
  refine De.p rfl rfl rfl rfl rfl ?_
  refine De.nil ?_
  refine Ne.seq ?_
  refine Ce.ret ?_
  refine Re.blk ?_
  refine Re.seq ?_
  exact Re.end_ rfl rfl (fun m hm => ⟨rfl, hm.ext⟩)

theorem shifts_u8_0 {a : Int} {c : Nat} {m : AW} (hm : m.lo ≤ m.next) (hl : LaidAt lays m) (ha : Fit .i64 a) (hc : c < 256) (hn : c % 8 + 1 < 8) : Fc Tryz.prog 5 [.int .i64 1, .int .i64 a, .int .u8 (Int.ofNat c)] m fun v m' => v = .bool true ∧ Ext m m' := by
  refine Fc.body (c := _) Tryz.func5 rfl rfl rfl rfl hm ?_
  refine Ce.seq ?_
  refine Ce.region ?_
  refine Ie.p rfl rfl rfl rfl ?_
  refine Ie.nil ?_
  refine Ne.seq ?_
  refine Ce.seq ?_
  refine Ce.region ?_
  refine Ie.p rfl rfl rfl rfl ?_
  refine Ie.nil ?_
  refine Ne.seq ?_
  refine Ce.seq ?_
  refine Ce.seq ?_
  refine Ce.region ?_
  refine Ie.p rfl rfl rfl rfl ?_
  refine Ie.nil ?_
  refine Ne.seq ?_
  refine Ce.block ?_
  refine Ce.seq ?_
  refine Ce.region ?_
  refine Ie.p rfl rfl rfl rfl ?_
  refine Ie.p rfl rfl rfl rfl ?_
  refine Ie.nil ?_
  refine Ne.seq ?_
  refine Ce.cond_true rfl ?_
  refine Ce.region ?_
  refine Ie.p rfl rfl rfl rfl ?_
  refine Ie.nil ?_
  refine Ne.blk ?_
  refine Ne.seq ?_
  refine Ce.seq ?_
  refine Ce.seq ?_
  refine Ce.region ?_
  refine Ie.call _ rfl rfl rfl rfl rfl rfl (fun m hm => awake_ok (hl.kr hm)) ?_
  refine Ie.p rfl rfl rfl rfl ?_
  refine Ie.p rfl rfl rfl rfl ?_
  refine Ie.p rfl rfl rfl rfl ?_
  refine Ie.p rfl rfl rfl rfl ?_
  refine Ie.p rfl rfl rfl rfl ?_
  refine Ie.nil ?_
  refine Ne.seq ?_
  refine Ce.cond_false rfl ?_
  refine Ce.skip ?_
  refine Ne.seq ?_
  refine Ce.seq ?_
  refine Ce.region ?_
  refine Ie.p rfl rfl rfl rfl ?_
  refine Ie.convInt rfl rfl rfl rfl Tryz.underlying5 Tryz.underlying3 rfl ?_
  refine Ie.p rfl rfl rfl rfl ?_
  refine Ie.bin rfl rfl rfl rfl rfl rfl (binS_rem (by decide)) ?_
  refine Ie.as 36 (.int .i64 (Int.ofNat (c % 8))) rfl (congrArg (Value.int .i64) (modW c 8 (by decide) (by rw [wr_in] <;> simp [IntKind.min, IntKind.max, IntKind.signed, IntKind.bits] <;> omega))) ?_
  refine Ie.p rfl rfl rfl rfl ?_
  refine Ie.nil ?_
  refine Ne.seq ?_
  refine Ce.seq ?_
  refine Ce.region ?_
  refine Ie.p rfl rfl rfl rfl ?_
  refine Ie.p rfl rfl rfl rfl ?_
  refine Ie.p rfl rfl rfl rfl ?_
  refine Ie.call _ rfl rfl rfl rfl rfl rfl (fun m hm => Arith_u8_shl_in hm.lole ha (show wr .i32 (Int.ofNat (c % 8)) = Int.ofNat (c % 8) from by rw [wr_in] <;> simp [IntKind.min, IntKind.max, IntKind.signed, IntKind.bits] <;> omega) (Nat.mod_lt _ (by decide))) ?_
  refine Ie.p rfl rfl rfl rfl ?_
  refine Ie.p rfl rfl rfl rfl ?_
  refine Ie.p rfl rfl rfl rfl ?_
  refine Ie.p rfl rfl rfl rfl ?_
  refine Ie.p rfl rfl rfl rfl ?_
  refine Ie.nil ?_
  refine Ne.seq ?_
  refine Ce.seq ?_
  refine Ce.region ?_
  refine Ie.p rfl rfl rfl rfl ?_
  refine Ie.p rfl rfl rfl rfl ?_
  refine Ie.p rfl rfl rfl rfl ?_
  refine Ie.convInt rfl rfl rfl rfl Tryz.underlying2 Tryz.underlying35 rfl ?_
  refine Ie.as 48 (.int .u64 (Int.ofNat (c % 8))) rfl (congrArg (Value.int .u64) (by rw [wr_in] <;> simp [IntKind.min, IntKind.max, IntKind.signed, IntKind.bits] <;> omega)) ?_
  refine Ie.bin rfl rfl rfl rfl rfl rfl (binS_shl (by simp [IntKind.bits]; omega)) ?_
  refine Ie.convInt rfl rfl rfl rfl Tryz.underlying34 Tryz.underlying2 rfl ?_
  refine Ie.call _ rfl rfl rfl rfl rfl rfl (fun m hm => Arith_u8_2 hm.lole ha (Fit.wr .i64 _)) ?_
  refine Ie.p rfl rfl rfl rfl ?_
  refine Ie.p rfl rfl rfl rfl ?_
  refine Ie.p rfl rfl rfl rfl ?_
  refine Ie.p rfl rfl rfl rfl ?_
  refine Ie.p rfl rfl rfl rfl ?_
  refine Ie.nil ?_
  refine Ne.seq ?_
  refine Ce.seq ?_
  refine Ce.region ?_
  refine Ie.p rfl rfl rfl rfl ?_
  refine Ie.p rfl rfl rfl rfl ?_
  refine Ie.p rfl rfl rfl rfl ?_
  refine Ie.p rfl rfl rfl rfl ?_
  refine Ie.as 58 (.int .i64 (Int.ofNat (c % 8 + 1))) rfl (congrArg (Value.int .i64) (by rw [wr_in] <;> simp [IntKind.min, IntKind.max, IntKind.signed, IntKind.bits] <;> omega)) ?_
  refine Ie.call _ rfl rfl rfl rfl rfl rfl (fun m hm => Arith_u8_shr_in hm.lole ha (show wr .i32 (Int.ofNat (c % 8 + 1)) = Int.ofNat (c % 8 + 1) from by rw [wr_in] <;> simp [IntKind.min, IntKind.max, IntKind.signed, IntKind.bits] <;> omega) (by omega)) ?_
  refine Ie.p rfl rfl rfl rfl ?_
  refine Ie.p rfl rfl rfl rfl ?_
  refine Ie.p rfl rfl rfl rfl ?_
  refine Ie.p rfl rfl rfl rfl ?_
  refine Ie.p rfl rfl rfl rfl ?_
  refine Ie.nil ?_
  refine Ne.seq ?_
  refine Ce.seq ?_
  refine Ce.region ?_
  refine Ie.p rfl rfl rfl rfl ?_
  refine Ie.p rfl rfl rfl rfl ?_
  refine Ie.p rfl rfl rfl rfl ?_
  refine Ie.call _ rfl rfl rfl rfl rfl rfl (fun m hm => Arith_u8_shr_in hm.lole ha (show wr .i32 (Int.ofNat (c % 8)) = Int.ofNat (c % 8) from by rw [wr_in] <;> simp [IntKind.min, IntKind.max, IntKind.signed, IntKind.bits] <;> omega) (Nat.mod_lt _ (by decide))) ?_
  refine Ie.p rfl rfl rfl rfl ?_
  refine Ie.p rfl rfl rfl rfl ?_
  refine Ie.p rfl rfl rfl rfl ?_
  refine Ie.p rfl rfl rfl rfl ?_
  refine Ie.p rfl rfl rfl rfl ?_
  refine Ie.nil ?_
  refine Ne.seq ?_
  refine Ce.seq ?_
  refine Ce.region ?_
  refine Ie.p rfl rfl rfl rfl ?_
  refine Ie.p rfl rfl rfl rfl ?_
  refine Ie.call _ rfl rfl rfl rfl rfl rfl (fun m hm => Arith_u8_shr_in (b := 1) (j := 1) hm.lole ((fit_shr (Fit.wr .u8 a) _).le (by decide) (by decide)) rfl (by decide)) ?_
  refine Ie.p rfl rfl rfl rfl ?_
  refine Ie.p rfl rfl rfl rfl ?_
  refine Ie.p rfl rfl rfl rfl ?_
  refine Ie.p rfl rfl rfl rfl ?_
  refine Ie.p rfl rfl rfl rfl ?_
  refine Ie.nil ?_
  refine Ne.seq ?_
  refine Ce.seq ?_
  refine Ce.region ?_
  refine Ie.p rfl rfl rfl rfl ?_
  refine Ie.p rfl rfl rfl rfl ?_
  refine Ie.p rfl rfl rfl rfl ?_
  refine Ie.p rfl rfl rfl rfl ?_
  refine Ie.p rfl rfl rfl rfl ?_
  refine Ie.p rfl rfl rfl rfl ?_
  refine Ie.p rfl rfl rfl rfl ?_
  refine Ie.p rfl rfl rfl rfl ?_
  refine Ie.p rfl rfl rfl rfl ?_
  refine Ie.p rfl rfl rfl rfl ?_
  refine Ie.p rfl rfl rfl rfl ?_
  refine Ie.p rfl rfl rfl rfl ?_
  refine Ie.p rfl rfl rfl rfl ?_
  refine Ie.p rfl rfl rfl rfl ?_
  refine Ie.p rfl rfl rfl rfl ?_
  refine Ie.p rfl rfl rfl rfl ?_
  refine Ie.p rfl rfl rfl rfl ?_
  refine Ie.p rfl rfl rfl rfl ?_
  refine Ie.p rfl rfl rfl rfl ?_
  refine Ie.p rfl rfl rfl rfl ?_
  refine Ie.p rfl rfl rfl rfl ?_
  refine Ie.bin (v := .bool true) rfl rfl rfl rfl rfl rfl (binS_eql (shlMul (by decide) _ _)) ?_
  refine Ie.p rfl rfl rfl rfl ?_
  refine Ie.p rfl rfl rfl rfl ?_
  refine Ie.p rfl rfl rfl rfl ?_
  refine Ie.p rfl rfl rfl rfl ?_
  refine Ie.bin (v := .bool true) rfl rfl rfl rfl rfl rfl (binS_eql (shrTwice (Fit.wr _ _) _)) ?_
  refine Ie.p rfl rfl rfl rfl ?_
  refine Ie.p rfl rfl rfl rfl ?_
  refine Ie.nil ?_
  refine Ne.seq ?_
  refine Ce.ret ?_
  exact Re.end_ rfl rfl (fun m hm => ⟨rfl, hm.ext⟩)

theorem shifts_u8_1 {a : Int} {c : Nat} {m : AW} (hm : m.lo ≤ m.next) (hl : LaidAt lays m) (ha : Fit .i64 a) (hc : c < 256) (hn : c % 8 = 7) : Fc Tryz.prog 5 [.int .i64 1, .int .i64 a, .int .u8 (Int.ofNat c)] m fun v m' => v = .bool true ∧ Ext m m' := by
  refine Fc.body (c := _) Tryz.func5 rfl rfl rfl rfl hm ?_
  refine Ce.seq ?_
  refine Ce.region ?_
  refine Ie.p rfl rfl rfl rfl ?_
  refine Ie.nil ?_
  refine Ne.seq ?_
  refine Ce.seq ?_
  refine Ce.region ?_
  refine Ie.p rfl rfl rfl rfl ?_
  refine Ie.nil ?_
  refine Ne.seq ?_
  refine Ce.seq ?_
  refine Ce.seq ?_
  refine Ce.region ?_
  refine Ie.p rfl rfl rfl rfl ?_
  refine Ie.nil ?_
  refine Ne.seq ?_
  refine Ce.block ?_
  refine Ce.seq ?_
  refine Ce.region ?_
  refine Ie.p rfl rfl rfl rfl ?_
  refine Ie.p rfl rfl rfl rfl ?_
  refine Ie.nil ?_
  refine Ne.seq ?_
  refine Ce.cond_true rfl ?_
  refine Ce.region ?_
  refine Ie.p rfl rfl rfl rfl ?_
  refine Ie.nil ?_
  refine Ne.blk ?_
  refine Ne.seq ?_
  refine Ce.seq ?_
  refine Ce.seq ?_
  refine Ce.region ?_
  refine Ie.call _ rfl rfl rfl rfl rfl rfl (fun m hm => awake_ok (hl.kr hm)) ?_
  refine Ie.p rfl rfl rfl rfl ?_
  refine Ie.p rfl rfl rfl rfl ?_
  refine Ie.p rfl rfl rfl rfl ?_
  refine Ie.p rfl rfl rfl rfl ?_
  refine Ie.p rfl rfl rfl rfl ?_
  refine Ie.nil ?_
  refine Ne.seq ?_
  refine Ce.cond_false rfl ?_
  refine Ce.skip ?_
  refine Ne.seq ?_
  refine Ce.seq ?_
  refine Ce.region ?_
  refine Ie.p rfl rfl rfl rfl ?_
  refine Ie.convInt rfl rfl rfl rfl Tryz.underlying5 Tryz.underlying3 rfl ?_
  refine Ie.p rfl rfl rfl rfl ?_
  refine Ie.bin rfl rfl rfl rfl rfl rfl (binS_rem (by decide)) ?_
  refine Ie.as 36 (.int .i64 (Int.ofNat (c % 8))) rfl (congrArg (Value.int .i64) (modW c 8 (by decide) (by rw [wr_in] <;> simp [IntKind.min, IntKind.max, IntKind.signed, IntKind.bits] <;> omega))) ?_
  refine Ie.p rfl rfl rfl rfl ?_
  refine Ie.nil ?_
  refine Ne.seq ?_
  refine Ce.seq ?_
  refine Ce.region ?_
  refine Ie.p rfl rfl rfl rfl ?_
  refine Ie.p rfl rfl rfl rfl ?_
  refine Ie.p rfl rfl rfl rfl ?_
  refine Ie.call _ rfl rfl rfl rfl rfl rfl (fun m hm => Arith_u8_shl_in hm.lole ha (show wr .i32 (Int.ofNat (c % 8)) = Int.ofNat (c % 8) from by rw [wr_in] <;> simp [IntKind.min, IntKind.max, IntKind.signed, IntKind.bits] <;> omega) (Nat.mod_lt _ (by decide))) ?_
  refine Ie.p rfl rfl rfl rfl ?_
  refine Ie.p rfl rfl rfl rfl ?_
  refine Ie.p rfl rfl rfl rfl ?_
  refine Ie.p rfl rfl rfl rfl ?_
  refine Ie.p rfl rfl rfl rfl ?_
  refine Ie.nil ?_
  refine Ne.seq ?_
  refine Ce.seq ?_
  refine Ce.region ?_
  refine Ie.p rfl rfl rfl rfl ?_
  refine Ie.p rfl rfl rfl rfl ?_
  refine Ie.p rfl rfl rfl rfl ?_
  refine Ie.convInt rfl rfl rfl rfl Tryz.underlying2 Tryz.underlying35 rfl ?_
  refine Ie.as 48 (.int .u64 (Int.ofNat (c % 8))) rfl (congrArg (Value.int .u64) (by rw [wr_in] <;> simp [IntKind.min, IntKind.max, IntKind.signed, IntKind.bits] <;> omega)) ?_
  refine Ie.bin rfl rfl rfl rfl rfl rfl (binS_shl (by simp [IntKind.bits]; omega)) ?_
  refine Ie.convInt rfl rfl rfl rfl Tryz.underlying34 Tryz.underlying2 rfl ?_
  refine Ie.call _ rfl rfl rfl rfl rfl rfl (fun m hm => Arith_u8_2 hm.lole ha (Fit.wr .i64 _)) ?_
  refine Ie.p rfl rfl rfl rfl ?_
  refine Ie.p rfl rfl rfl rfl ?_
  refine Ie.p rfl rfl rfl rfl ?_
  refine Ie.p rfl rfl rfl rfl ?_
  refine Ie.p rfl rfl rfl rfl ?_
  refine Ie.nil ?_
  refine Ne.seq ?_
  refine Ce.seq ?_
  refine Ce.region ?_
  refine Ie.p rfl rfl rfl rfl ?_
  refine Ie.p rfl rfl rfl rfl ?_
  refine Ie.p rfl rfl rfl rfl ?_
  refine Ie.p rfl rfl rfl rfl ?_
  refine Ie.as 58 (.int .i64 (Int.ofNat (c % 8 + 1))) rfl (congrArg (Value.int .i64) (by rw [wr_in] <;> simp [IntKind.min, IntKind.max, IntKind.signed, IntKind.bits] <;> omega)) ?_
  refine Ie.call _ rfl rfl rfl rfl rfl rfl (fun m hm => Arith_u8_shr_big hm.lole ha (by rw [show wr .i32 (Int.ofNat (c % 8 + 1)) = Int.ofNat (c % 8 + 1) from by rw [wr_in] <;> simp [IntKind.min, IntKind.max, IntKind.signed, IntKind.bits] <;> omega]; simp; omega) (by rw [show wr .i32 (Int.ofNat (c % 8 + 1)) = Int.ofNat (c % 8 + 1) from by rw [wr_in] <;> simp [IntKind.min, IntKind.max, IntKind.signed, IntKind.bits] <;> omega]; simp; omega)) ?_
  refine Ie.p rfl rfl rfl rfl ?_
  refine Ie.p rfl rfl rfl rfl ?_
  refine Ie.p rfl rfl rfl rfl ?_
  refine Ie.p rfl rfl rfl rfl ?_
  refine Ie.p rfl rfl rfl rfl ?_
  refine Ie.nil ?_
  refine Ne.seq ?_
  refine Ce.seq ?_
  refine Ce.region ?_
  refine Ie.p rfl rfl rfl rfl ?_
  refine Ie.p rfl rfl rfl rfl ?_
  refine Ie.p rfl rfl rfl rfl ?_
  refine Ie.call _ rfl rfl rfl rfl rfl rfl (fun m hm => Arith_u8_shr_in hm.lole ha (show wr .i32 (Int.ofNat (c % 8)) = Int.ofNat (c % 8) from by rw [wr_in] <;> simp [IntKind.min, IntKind.max, IntKind.signed, IntKind.bits] <;> omega) (Nat.mod_lt _ (by decide))) ?_
  refine Ie.p rfl rfl rfl rfl ?_
  refine Ie.p rfl rfl rfl rfl ?_
  refine Ie.p rfl rfl rfl rfl ?_
  refine Ie.p rfl rfl rfl rfl ?_
  refine Ie.p rfl rfl rfl rfl ?_
  refine Ie.nil ?_
  refine Ne.seq ?_
  refine Ce.seq ?_
  refine Ce.region ?_
  refine Ie.p rfl rfl rfl rfl ?_
  refine Ie.p rfl rfl rfl rfl ?_
  refine Ie.call _ rfl rfl rfl rfl rfl rfl (fun m hm => Arith_u8_shr_in (b := 1) (j := 1) hm.lole ((fit_shr (Fit.wr .u8 a) _).le (by decide) (by decide)) rfl (by decide)) ?_
  refine Ie.p rfl rfl rfl rfl ?_
  refine Ie.p rfl rfl rfl rfl ?_
  refine Ie.p rfl rfl rfl rfl ?_
  refine Ie.p rfl rfl rfl rfl ?_
  refine Ie.p rfl rfl rfl rfl ?_
  refine Ie.nil ?_
  refine Ne.seq ?_
  refine Ce.seq ?_
  refine Ce.region ?_
  refine Ie.p rfl rfl rfl rfl ?_
  refine Ie.p rfl rfl rfl rfl ?_
  refine Ie.p rfl rfl rfl rfl ?_
  refine Ie.p rfl rfl rfl rfl ?_
  refine Ie.p rfl rfl rfl rfl ?_
  refine Ie.p rfl rfl rfl rfl ?_
  refine Ie.p rfl rfl rfl rfl ?_
  refine Ie.p rfl rfl rfl rfl ?_
  refine Ie.p rfl rfl rfl rfl ?_
  refine Ie.p rfl rfl rfl rfl ?_
  refine Ie.p rfl rfl rfl rfl ?_
  refine Ie.p rfl rfl rfl rfl ?_
  refine Ie.p rfl rfl rfl rfl ?_
  refine Ie.p rfl rfl rfl rfl ?_
  refine Ie.p rfl rfl rfl rfl ?_
  refine Ie.p rfl rfl rfl rfl ?_
  refine Ie.p rfl rfl rfl rfl ?_
  refine Ie.p rfl rfl rfl rfl ?_
  refine Ie.p rfl rfl rfl rfl ?_
  refine Ie.p rfl rfl rfl rfl ?_
  refine Ie.p rfl rfl rfl rfl ?_
  refine Ie.bin (v := .bool true) rfl rfl rfl rfl rfl rfl (binS_eql (shlMul (by decide) _ _)) ?_
  refine Ie.p rfl rfl rfl rfl ?_
  refine Ie.p rfl rfl rfl rfl ?_
  refine Ie.p rfl rfl rfl rfl ?_
  refine Ie.p rfl rfl rfl rfl ?_
  refine Ie.bin (v := .bool true) rfl rfl rfl rfl rfl rfl (binS_eql ((by rw [hn]; exact shrAll' (Fit.wr _ _) rfl rfl))) ?_
  refine Ie.p rfl rfl rfl rfl ?_
  refine Ie.p rfl rfl rfl rfl ?_
  refine Ie.nil ?_
  refine Ne.seq ?_
  refine Ce.ret ?_
  exact Re.end_ rfl rfl (fun m hm => ⟨rfl, hm.ext⟩)

theorem shifts_i32_0 {a : Int} {c : Nat} {m : AW} (hm : m.lo ≤ m.next) (hl : LaidAt lays m) (ha : Fit .i64 a) (hc : c < 256) (hn : c % 32 + 1 < 32) : Fc Tryz.prog 5 [.int .i64 2, .int .i64 a, .int .u8 (Int.ofNat c)] m fun v m' => v = .bool true ∧ Ext m m' := by
  refine Fc.body (c := _) Tryz.func5 rfl rfl rfl rfl hm ?_
  refine Ce.seq ?_
  refine Ce.region ?_
  refine Ie.p rfl rfl rfl rfl ?_
  refine Ie.nil ?_
  refine Ne.seq ?_
  refine Ce.seq ?_
  refine Ce.region ?_
  refine Ie.p rfl rfl rfl rfl ?_
  refine Ie.nil ?_
  refine Ne.seq ?_
  refine Ce.seq ?_
  refine Ce.seq ?_
  refine Ce.region ?_
  refine Ie.p rfl rfl rfl rfl ?_
  refine Ie.nil ?_
  refine Ne.seq ?_
  refine Ce.block ?_
  refine Ce.seq ?_
  refine Ce.region ?_
  refine Ie.p rfl rfl rfl rfl ?_
  refine Ie.p rfl rfl rfl rfl ?_
  refine Ie.nil ?_
  refine Ne.seq ?_
  refine Ce.cond_false rfl ?_
  refine Ce.seq ?_
  refine Ce.region ?_
  refine Ie.p rfl rfl rfl rfl ?_
  refine Ie.p rfl rfl rfl rfl ?_
  refine Ie.nil ?_
  refine Ne.seq ?_
  refine Ce.cond_true rfl ?_
  refine Ce.region ?_
  refine Ie.p rfl rfl rfl rfl ?_
  refine Ie.nil ?_
  refine Ne.blk ?_
  refine Ne.seq ?_
  refine Ce.seq ?_
  refine Ce.seq ?_
  refine Ce.region ?_
  refine Ie.call _ rfl rfl rfl rfl rfl rfl (fun m hm => awake_ok (hl.kr hm)) ?_
  refine Ie.p rfl rfl rfl rfl ?_
  refine Ie.p rfl rfl rfl rfl ?_
  refine Ie.p rfl rfl rfl rfl ?_
  refine Ie.p rfl rfl rfl rfl ?_
  refine Ie.p rfl rfl rfl rfl ?_
  refine Ie.nil ?_
  refine Ne.seq ?_
  refine Ce.cond_false rfl ?_
  refine Ce.skip ?_
  refine Ne.seq ?_
  refine Ce.seq ?_
  refine Ce.region ?_
  refine Ie.p rfl rfl rfl rfl ?_
  refine Ie.convInt rfl rfl rfl rfl Tryz.underlying5 Tryz.underlying3 rfl ?_
  refine Ie.p rfl rfl rfl rfl ?_
  refine Ie.bin rfl rfl rfl rfl rfl rfl (binS_rem (by decide)) ?_
  refine Ie.as 36 (.int .i64 (Int.ofNat (c % 32))) rfl (congrArg (Value.int .i64) (modW c 32 (by decide) (by rw [wr_in] <;> simp [IntKind.min, IntKind.max, IntKind.signed, IntKind.bits] <;> omega))) ?_
  refine Ie.p rfl rfl rfl rfl ?_
  refine Ie.nil ?_
  refine Ne.seq ?_
  refine Ce.seq ?_
  refine Ce.region ?_
  refine Ie.p rfl rfl rfl rfl ?_
  refine Ie.p rfl rfl rfl rfl ?_
  refine Ie.p rfl rfl rfl rfl ?_
  refine Ie.call _ rfl rfl rfl rfl rfl rfl (fun m hm => Arith_i32_shl_in hm.lole ha (show wr .i32 (Int.ofNat (c % 32)) = Int.ofNat (c % 32) from by rw [wr_in] <;> simp [IntKind.min, IntKind.max, IntKind.signed, IntKind.bits] <;> omega) (Nat.mod_lt _ (by decide))) ?_
  refine Ie.p rfl rfl rfl rfl ?_
  refine Ie.p rfl rfl rfl rfl ?_
  refine Ie.p rfl rfl rfl rfl ?_
  refine Ie.p rfl rfl rfl rfl ?_
  refine Ie.p rfl rfl rfl rfl ?_
  refine Ie.nil ?_
  refine Ne.seq ?_
  refine Ce.seq ?_
  refine Ce.region ?_
  refine Ie.p rfl rfl rfl rfl ?_
  refine Ie.p rfl rfl rfl rfl ?_
  refine Ie.p rfl rfl rfl rfl ?_
  refine Ie.convInt rfl rfl rfl rfl Tryz.underlying2 Tryz.underlying35 rfl ?_
  refine Ie.as 48 (.int .u64 (Int.ofNat (c % 32))) rfl (congrArg (Value.int .u64) (by rw [wr_in] <;> simp [IntKind.min, IntKind.max, IntKind.signed, IntKind.bits] <;> omega)) ?_
  refine Ie.bin rfl rfl rfl rfl rfl rfl (binS_shl (by simp [IntKind.bits]; omega)) ?_
  refine Ie.convInt rfl rfl rfl rfl Tryz.underlying34 Tryz.underlying2 rfl ?_
  refine Ie.call _ rfl rfl rfl rfl rfl rfl (fun m hm => Arith_i32_2 hm.lole ha (Fit.wr .i64 _)) ?_
  refine Ie.p rfl rfl rfl rfl ?_
  refine Ie.p rfl rfl rfl rfl ?_
  refine Ie.p rfl rfl rfl rfl ?_
  refine Ie.p rfl rfl rfl rfl ?_
  refine Ie.p rfl rfl rfl rfl ?_
  refine Ie.nil ?_
  refine Ne.seq ?_
  refine Ce.seq ?_
  refine Ce.region ?_
  refine Ie.p rfl rfl rfl rfl ?_
  refine Ie.p rfl rfl rfl rfl ?_
  refine Ie.p rfl rfl rfl rfl ?_
  refine Ie.p rfl rfl rfl rfl ?_
  refine Ie.as 58 (.int .i64 (Int.ofNat (c % 32 + 1))) rfl (congrArg (Value.int .i64) (by rw [wr_in] <;> simp [IntKind.min, IntKind.max, IntKind.signed, IntKind.bits] <;> omega)) ?_
  refine Ie.call _ rfl rfl rfl rfl rfl rfl (fun m hm => Arith_i32_shr_in hm.lole ha (show wr .i32 (Int.ofNat (c % 32 + 1)) = Int.ofNat (c % 32 + 1) from by rw [wr_in] <;> simp [IntKind.min, IntKind.max, IntKind.signed, IntKind.bits] <;> omega) (by omega)) ?_
  refine Ie.p rfl rfl rfl rfl ?_
  refine Ie.p rfl rfl rfl rfl ?_
  refine Ie.p rfl rfl rfl rfl ?_
  refine Ie.p rfl rfl rfl rfl ?_
  refine Ie.p rfl rfl rfl rfl ?_
  refine Ie.nil ?_
  refine Ne.seq ?_
  refine Ce.seq ?_
  refine Ce.region ?_
  refine Ie.p rfl rfl rfl rfl ?_
  refine Ie.p rfl rfl rfl rfl ?_
  refine Ie.p rfl rfl rfl rfl ?_
  refine Ie.call _ rfl rfl rfl rfl rfl rfl (fun m hm => Arith_i32_shr_in hm.lole ha (show wr .i32 (Int.ofNat (c % 32)) = Int.ofNat (c % 32) from by rw [wr_in] <;> simp [IntKind.min, IntKind.max, IntKind.signed, IntKind.bits] <;> omega) (Nat.mod_lt _ (by decide))) ?_
  refine Ie.p rfl rfl rfl rfl ?_
  refine Ie.p rfl rfl rfl rfl ?_
  refine Ie.p rfl rfl rfl rfl ?_
  refine Ie.p rfl rfl rfl rfl ?_
  refine Ie.p rfl rfl rfl rfl ?_
  refine Ie.nil ?_
  refine Ne.seq ?_
  refine Ce.seq ?_
  refine Ce.region ?_
  refine Ie.p rfl rfl rfl rfl ?_
  refine Ie.p rfl rfl rfl rfl ?_
  refine Ie.call _ rfl rfl rfl rfl rfl rfl (fun m hm => Arith_i32_shr_in (b := 1) (j := 1) hm.lole ((fit_shr (Fit.wr .i32 a) _).le (by decide) (by decide)) rfl (by decide)) ?_
  refine Ie.p rfl rfl rfl rfl ?_
  refine Ie.p rfl rfl rfl rfl ?_
  refine Ie.p rfl rfl rfl rfl ?_
  refine Ie.p rfl rfl rfl rfl ?_
  refine Ie.p rfl rfl rfl rfl ?_
  refine Ie.nil ?_
  refine Ne.seq ?_
  refine Ce.seq ?_
  refine Ce.region ?_
  refine Ie.p rfl rfl rfl rfl ?_
  refine Ie.p rfl rfl rfl rfl ?_
  refine Ie.p rfl rfl rfl rfl ?_
  refine Ie.p rfl rfl rfl rfl ?_
  refine Ie.p rfl rfl rfl rfl ?_
  refine Ie.p rfl rfl rfl rfl ?_
  refine Ie.p rfl rfl rfl rfl ?_
  refine Ie.p rfl rfl rfl rfl ?_
  refine Ie.p rfl rfl rfl rfl ?_
  refine Ie.p rfl rfl rfl rfl ?_
  refine Ie.p rfl rfl rfl rfl ?_
  refine Ie.p rfl rfl rfl rfl ?_
  refine Ie.p rfl rfl rfl rfl ?_
  refine Ie.p rfl rfl rfl rfl ?_
  refine Ie.p rfl rfl rfl rfl ?_
  refine Ie.p rfl rfl rfl rfl ?_
  refine Ie.p rfl rfl rfl rfl ?_
  refine Ie.p rfl rfl rfl rfl ?_
  refine Ie.p rfl rfl rfl rfl ?_
  refine Ie.p rfl rfl rfl rfl ?_
  refine Ie.p rfl rfl rfl rfl ?_
  refine Ie.bin (v := .bool true) rfl rfl rfl rfl rfl rfl (binS_eql (shlMul (by decide) _ _)) ?_
  refine Ie.p rfl rfl rfl rfl ?_
  refine Ie.p rfl rfl rfl rfl ?_
  refine Ie.p rfl rfl rfl rfl ?_
  refine Ie.p rfl rfl rfl rfl ?_
  refine Ie.bin (v := .bool true) rfl rfl rfl rfl rfl rfl (binS_eql (shrTwice (Fit.wr _ _) _)) ?_
  refine Ie.p rfl rfl rfl rfl ?_
  refine Ie.p rfl rfl rfl rfl ?_
  refine Ie.nil ?_
  refine Ne.seq ?_
  refine Ce.ret ?_
  exact Re.end_ rfl rfl (fun m hm => ⟨rfl, hm.ext⟩)

theorem shifts_i32_1 {a : Int} {c : Nat} {m : AW} (hm : m.lo ≤ m.next) (hl : LaidAt lays m) (ha : Fit .i64 a) (hc : c < 256) (hn : c % 32 = 31) : Fc Tryz.prog 5 [.int .i64 2, .int .i64 a, .int .u8 (Int.ofNat c)] m fun v m' => v = .bool true ∧ Ext m m' := by
  refine Fc.body (c := _) Tryz.func5 rfl rfl rfl rfl hm ?_
  refine Ce.seq ?_
  refine Ce.region ?_
  refine Ie.p rfl rfl rfl rfl ?_
  refine Ie.nil ?_
  refine Ne.seq ?_
  refine Ce.seq ?_
  refine Ce.region ?_
  refine Ie.p rfl rfl rfl rfl ?_
  refine Ie.nil ?_
  refine Ne.seq ?_
  refine Ce.seq ?_
  refine Ce.seq ?_
  refine Ce.region ?_
  refine Ie.p rfl rfl rfl rfl ?_
  refine Ie.nil ?_
  refine Ne.seq ?_
  refine Ce.block ?_
  refine Ce.seq ?_
  refine Ce.region ?_
  refine Ie.p rfl rfl rfl rfl ?_
  refine Ie.p rfl rfl rfl rfl ?_
  refine Ie.nil ?_
  refine Ne.seq ?_
  refine Ce.cond_false rfl ?_
  refine Ce.seq ?_
  refine Ce.region ?_
  refine Ie.p rfl rfl rfl rfl ?_
  refine Ie.p rfl rfl rfl rfl ?_
  refine Ie.nil ?_
  refine Ne.seq ?_
  refine Ce.cond_true rfl ?_
  refine Ce.region ?_
  refine Ie.p rfl rfl rfl rfl ?_
  refine Ie.nil ?_
  refine Ne.blk ?_
  refine Ne.seq ?_
  refine Ce.seq ?_
  refine Ce.seq ?_
  refine Ce.region ?_
  refine Ie.call _ rfl rfl rfl rfl rfl rfl (fun m hm => awake_ok (hl.kr hm)) ?_
  refine Ie.p rfl rfl rfl rfl ?_
  refine Ie.p rfl rfl rfl rfl ?_
  refine Ie.p rfl rfl rfl rfl ?_
  refine Ie.p rfl rfl rfl rfl ?_
  refine Ie.p rfl rfl rfl rfl ?_
  refine Ie.nil ?_
  refine Ne.seq ?_
  refine Ce.cond_false rfl ?_
  refine Ce.skip ?_
  refine Ne.seq ?_
  refine Ce.seq ?_
  refine Ce.region ?_
  refine Ie.p rfl rfl rfl rfl ?_
  refine Ie.convInt rfl rfl rfl rfl Tryz.underlying5 Tryz.underlying3 rfl ?_
  refine Ie.p rfl rfl rfl rfl ?_
  refine Ie.bin rfl rfl rfl rfl rfl rfl (binS_rem (by decide)) ?_
  refine Ie.as 36 (.int .i64 (Int.ofNat (c % 32))) rfl (congrArg (Value.int .i64) (modW c 32 (by decide) (by rw [wr_in] <;> simp [IntKind.min, IntKind.max, IntKind.signed, IntKind.bits] <;> omega))) ?_
  refine Ie.p rfl rfl rfl rfl ?_
  refine Ie.nil ?_
  refine Ne.seq ?_
  refine Ce.seq ?_
  refine Ce.region ?_
  refine Ie.p rfl rfl rfl rfl ?_
  refine Ie.p rfl rfl rfl rfl ?_
  refine Ie.p rfl rfl rfl rfl ?_
  refine Ie.call _ rfl rfl rfl rfl rfl rfl (fun m hm => Arith_i32_shl_in hm.lole ha (show wr .i32 (Int.ofNat (c % 32)) = Int.ofNat (c % 32) from by rw [wr_in] <;> simp [IntKind.min, IntKind.max, IntKind.signed, IntKind.bits] <;> omega) (Nat.mod_lt _ (by decide))) ?_
  refine Ie.p rfl rfl rfl rfl ?_
  refine Ie.p rfl rfl rfl rfl ?_
  refine Ie.p rfl rfl rfl rfl ?_
  refine Ie.p rfl rfl rfl rfl ?_
  refine Ie.p rfl rfl rfl rfl ?_
  refine Ie.nil ?_
  refine Ne.seq ?_
  refine Ce.seq ?_
  refine Ce.region ?_
  refine Ie.p rfl rfl rfl rfl ?_
  refine Ie.p rfl rfl rfl rfl ?_
  refine Ie.p rfl rfl rfl rfl ?_
  refine Ie.convInt rfl rfl rfl rfl Tryz.underlying2 Tryz.underlying35 rfl ?_
  refine Ie.as 48 (.int .u64 (Int.ofNat (c % 32))) rfl (congrArg (Value.int .u64) (by rw [wr_in] <;> simp [IntKind.min, IntKind.max, IntKind.signed, IntKind.bits] <;> omega)) ?_
  refine Ie.bin rfl rfl rfl rfl rfl rfl (binS_shl (by simp [IntKind.bits]; omega)) ?_
  refine Ie.convInt rfl rfl rfl rfl Tryz.underlying34 Tryz.underlying2 rfl ?_
  refine Ie.call _ rfl rfl rfl rfl rfl rfl (fun m hm => Arith_i32_2 hm.lole ha (Fit.wr .i64 _)) ?_
  refine Ie.p rfl rfl rfl rfl ?_
  refine Ie.p rfl rfl rfl rfl ?_
  refine Ie.p rfl rfl rfl rfl ?_
  refine Ie.p rfl rfl rfl rfl ?_
  refine Ie.p rfl rfl rfl rfl ?_
  refine Ie.nil ?_
  refine Ne.seq ?_
  refine Ce.seq ?_
  refine Ce.region ?_
  refine Ie.p rfl rfl rfl rfl ?_
  refine Ie.p rfl rfl rfl rfl ?_
  refine Ie.p rfl rfl rfl rfl ?_
  refine Ie.p rfl rfl rfl rfl ?_
  refine Ie.as 58 (.int .i64 (Int.ofNat (c % 32 + 1))) rfl (congrArg (Value.int .i64) (by rw [wr_in] <;> simp [IntKind.min, IntKind.max, IntKind.signed, IntKind.bits] <;> omega)) ?_
  refine Ie.call _ rfl rfl rfl rfl rfl rfl (fun m hm => Arith_i32_shr_big hm.lole ha (by rw [show wr .i32 (Int.ofNat (c % 32 + 1)) = Int.ofNat (c % 32 + 1) from by rw [wr_in] <;> simp [IntKind.min, IntKind.max, IntKind.signed, IntKind.bits] <;> omega]; simp; omega) (by rw [show wr .i32 (Int.ofNat (c % 32 + 1)) = Int.ofNat (c % 32 + 1) from by rw [wr_in] <;> simp [IntKind.min, IntKind.max, IntKind.signed, IntKind.bits] <;> omega]; simp; omega)) ?_
  refine Ie.p rfl rfl rfl rfl ?_
  refine Ie.p rfl rfl rfl rfl ?_
  refine Ie.p rfl rfl rfl rfl ?_
  refine Ie.p rfl rfl rfl rfl ?_
  refine Ie.p rfl rfl rfl rfl ?_
  refine Ie.nil ?_
  refine Ne.seq ?_
  refine Ce.seq ?_
  refine Ce.region ?_
  refine Ie.p rfl rfl rfl rfl ?_
  refine Ie.p rfl rfl rfl rfl ?_
  refine Ie.p rfl rfl rfl rfl ?_
  refine Ie.call _ rfl rfl rfl rfl rfl rfl (fun m hm => Arith_i32_shr_in hm.lole ha (show wr .i32 (Int.ofNat (c % 32)) = Int.ofNat (c % 32) from by rw [wr_in] <;> simp [IntKind.min, IntKind.max, IntKind.signed, IntKind.bits] <;> omega) (Nat.mod_lt _ (by decide))) ?_
  refine Ie.p rfl rfl rfl rfl ?_
  refine Ie.p rfl rfl rfl rfl ?_
  refine Ie.p rfl rfl rfl rfl ?_
  refine Ie.p rfl rfl rfl rfl ?_
  refine Ie.p rfl rfl rfl rfl ?_
  refine Ie.nil ?_
  refine Ne.seq ?_
  refine Ce.seq ?_
  refine Ce.region ?_
  refine Ie.p rfl rfl rfl rfl ?_
  refine Ie.p rfl rfl rfl rfl ?_
  refine Ie.call _ rfl rfl rfl rfl rfl rfl (fun m hm => Arith_i32_shr_in (b := 1) (j := 1) hm.lole ((fit_shr (Fit.wr .i32 a) _).le (by decide) (by decide)) rfl (by decide)) ?_
  refine Ie.p rfl rfl rfl rfl ?_
  refine Ie.p rfl rfl rfl rfl ?_
  refine Ie.p rfl rfl rfl rfl ?_
  refine Ie.p rfl rfl rfl rfl ?_
  refine Ie.p rfl rfl rfl rfl ?_
  refine Ie.nil ?_
  refine Ne.seq ?_
  refine Ce.seq ?_
  refine Ce.region ?_
  refine Ie.p rfl rfl rfl rfl ?_
  refine Ie.p rfl rfl rfl rfl ?_
  refine Ie.p rfl rfl rfl rfl ?_
  refine Ie.p rfl rfl rfl rfl ?_
  refine Ie.p rfl rfl rfl rfl ?_
  refine Ie.p rfl rfl rfl rfl ?_
  refine Ie.p rfl rfl rfl rfl ?_
  refine Ie.p rfl rfl rfl rfl ?_
  refine Ie.p rfl rfl rfl rfl ?_
  refine Ie.p rfl rfl rfl rfl ?_
  refine Ie.p rfl rfl rfl rfl ?_
  refine Ie.p rfl rfl rfl rfl ?_
  refine Ie.p rfl rfl rfl rfl ?_
  refine Ie.p rfl rfl rfl rfl ?_
  refine Ie.p rfl rfl rfl rfl ?_
  refine Ie.p rfl rfl rfl rfl ?_
  refine Ie.p rfl rfl rfl rfl ?_
  refine Ie.p rfl rfl rfl rfl ?_
  refine Ie.p rfl rfl rfl rfl ?_
  refine Ie.p rfl rfl rfl rfl ?_
  refine Ie.p rfl rfl rfl rfl ?_
  refine Ie.bin (v := .bool true) rfl rfl rfl rfl rfl rfl (binS_eql (shlMul (by decide) _ _)) ?_
  refine Ie.p rfl rfl rfl rfl ?_
  refine Ie.p rfl rfl rfl rfl ?_
  refine Ie.p rfl rfl rfl rfl ?_
  refine Ie.p rfl rfl rfl rfl ?_
  refine Ie.bin (v := .bool true) rfl rfl rfl rfl rfl rfl (binS_eql ((by rw [hn]; exact shrAll (Fit.wr _ _) rfl rfl))) ?_
  refine Ie.p rfl rfl rfl rfl ?_
  refine Ie.p rfl rfl rfl rfl ?_
  refine Ie.nil ?_
  refine Ne.seq ?_
  refine Ce.ret ?_
  exact Re.end_ rfl rfl (fun m hm => ⟨rfl, hm.ext⟩)

theorem shifts_i64_0 {a : Int} {c : Nat} {m : AW} (hm : m.lo ≤ m.next) (hl : LaidAt lays m) (ha : Fit .i64 a) (hc : c < 256) (hn : c % 64 + 1 < 64) : Fc Tryz.prog 5 [.int .i64 3, .int .i64 a, .int .u8 (Int.ofNat c)] m fun v m' => v = .bool true ∧ Ext m m' := by
  refine Fc.body (c := _) Tryz.func5 rfl rfl rfl rfl hm ?_
  refine Ce.seq ?_
  refine Ce.region ?_
  refine Ie.p rfl rfl rfl rfl ?_
  refine Ie.nil ?_
  refine Ne.seq ?_
  refine Ce.seq ?_
  refine Ce.region ?_
  refine Ie.p rfl rfl rfl rfl ?_
  refine Ie.nil ?_
  refine Ne.seq ?_
  refine Ce.seq ?_
  refine Ce.seq ?_
  refine Ce.region ?_
  refine Ie.p rfl rfl rfl rfl ?_
  refine Ie.nil ?_
  refine Ne.seq ?_
  refine Ce.block ?_
  refine Ce.seq ?_
  refine Ce.region ?_
  refine Ie.p rfl rfl rfl rfl ?_
  refine Ie.p rfl rfl rfl rfl ?_
  refine Ie.nil ?_
  refine Ne.seq ?_
  refine Ce.cond_false rfl ?_
  refine Ce.seq ?_
  refine Ce.region ?_
  refine Ie.p rfl rfl rfl rfl ?_
  refine Ie.p rfl rfl rfl rfl ?_
  refine Ie.nil ?_
  refine Ne.seq ?_
  refine Ce.cond_false rfl ?_
  refine Ce.seq ?_
  refine Ce.region ?_
  refine Ie.p rfl rfl rfl rfl ?_
  refine Ie.p rfl rfl rfl rfl ?_
  refine Ie.nil ?_
  refine Ne.seq ?_
  refine Ce.cond_true rfl ?_
  refine Ce.region ?_
  refine Ie.p rfl rfl rfl rfl ?_
  refine Ie.nil ?_
  refine Ne.blk ?_
  refine Ne.seq ?_
  refine Ce.seq ?_
  refine Ce.seq ?_
  refine Ce.region ?_
  refine Ie.call _ rfl rfl rfl rfl rfl rfl (fun m hm => awake_ok (hl.kr hm)) ?_
  refine Ie.p rfl rfl rfl rfl ?_
  refine Ie.p rfl rfl rfl rfl ?_
  refine Ie.p rfl rfl rfl rfl ?_
  refine Ie.p rfl rfl rfl rfl ?_
  refine Ie.p rfl rfl rfl rfl ?_
  refine Ie.nil ?_
  refine Ne.seq ?_
  refine Ce.cond_false rfl ?_
  refine Ce.skip ?_
  refine Ne.seq ?_
  refine Ce.seq ?_
  refine Ce.region ?_
  refine Ie.p rfl rfl rfl rfl ?_
  refine Ie.convInt rfl rfl rfl rfl Tryz.underlying5 Tryz.underlying3 rfl ?_
  refine Ie.p rfl rfl rfl rfl ?_
  refine Ie.bin rfl rfl rfl rfl rfl rfl (binS_rem (by decide)) ?_
  refine Ie.as 36 (.int .i64 (Int.ofNat (c % 64))) rfl (congrArg (Value.int .i64) (modW c 64 (by decide) (by rw [wr_in] <;> simp [IntKind.min, IntKind.max, IntKind.signed, IntKind.bits] <;> omega))) ?_
  refine Ie.p rfl rfl rfl rfl ?_
  refine Ie.nil ?_
  refine Ne.seq ?_
  refine Ce.seq ?_
  refine Ce.region ?_
  refine Ie.p rfl rfl rfl rfl ?_
  refine Ie.p rfl rfl rfl rfl ?_
  refine Ie.p rfl rfl rfl rfl ?_
  refine Ie.call _ rfl rfl rfl rfl rfl rfl (fun m hm => Arith_i64_shl_in hm.lole ha (show wr .i32 (Int.ofNat (c % 64)) = Int.ofNat (c % 64) from by rw [wr_in] <;> simp [IntKind.min, IntKind.max, IntKind.signed, IntKind.bits] <;> omega) (Nat.mod_lt _ (by decide))) ?_
  refine Ie.p rfl rfl rfl rfl ?_
  refine Ie.p rfl rfl rfl rfl ?_
  refine Ie.p rfl rfl rfl rfl ?_
  refine Ie.p rfl rfl rfl rfl ?_
  refine Ie.p rfl rfl rfl rfl ?_
  refine Ie.nil ?_
  refine Ne.seq ?_
  refine Ce.seq ?_
  refine Ce.region ?_
  refine Ie.p rfl rfl rfl rfl ?_
  refine Ie.p rfl rfl rfl rfl ?_
  refine Ie.p rfl rfl rfl rfl ?_
  refine Ie.convInt rfl rfl rfl rfl Tryz.underlying2 Tryz.underlying35 rfl ?_
  refine Ie.as 48 (.int .u64 (Int.ofNat (c % 64))) rfl (congrArg (Value.int .u64) (by rw [wr_in] <;> simp [IntKind.min, IntKind.max, IntKind.signed, IntKind.bits] <;> omega)) ?_
  refine Ie.bin rfl rfl rfl rfl rfl rfl (binS_shl (by simp [IntKind.bits]; omega)) ?_
  refine Ie.convInt rfl rfl rfl rfl Tryz.underlying34 Tryz.underlying2 rfl ?_
  refine Ie.call _ rfl rfl rfl rfl rfl rfl (fun m hm => Arith_i64_2 hm.lole ha (Fit.wr .i64 _)) ?_
  refine Ie.p rfl rfl rfl rfl ?_
  refine Ie.p rfl rfl rfl rfl ?_
  refine Ie.p rfl rfl rfl rfl ?_
  refine Ie.p rfl rfl rfl rfl ?_
  refine Ie.p rfl rfl rfl rfl ?_
  refine Ie.nil ?_
  refine Ne.seq ?_
  refine Ce.seq ?_
  refine Ce.region ?_
  refine Ie.p rfl rfl rfl rfl ?_
  refine Ie.p rfl rfl rfl rfl ?_
  refine Ie.p rfl rfl rfl rfl ?_
  refine Ie.p rfl rfl rfl rfl ?_
  refine Ie.as 58 (.int .i64 (Int.ofNat (c % 64 + 1))) rfl (congrArg (Value.int .i64) (by rw [wr_in] <;> simp [IntKind.min, IntKind.max, IntKind.signed, IntKind.bits] <;> omega)) ?_
  refine Ie.call _ rfl rfl rfl rfl rfl rfl (fun m hm => Arith_i64_shr_in hm.lole ha (show wr .i32 (Int.ofNat (c % 64 + 1)) = Int.ofNat (c % 64 + 1) from by rw [wr_in] <;> simp [IntKind.min, IntKind.max, IntKind.signed, IntKind.bits] <;> omega) (by omega)) ?_
  refine Ie.p rfl rfl rfl rfl ?_
  refine Ie.p rfl rfl rfl rfl ?_
  refine Ie.p rfl rfl rfl rfl ?_
  refine Ie.p rfl rfl rfl rfl ?_
  refine Ie.p rfl rfl rfl rfl ?_
  refine Ie.nil ?_
  refine Ne.seq ?_
  refine Ce.seq ?_
  refine Ce.region ?_
  refine Ie.p rfl rfl rfl rfl ?_
  refine Ie.p rfl rfl rfl rfl ?_
  refine Ie.p rfl rfl rfl rfl ?_
  refine Ie.call _ rfl rfl rfl rfl rfl rfl (fun m hm => Arith_i64_shr_in hm.lole ha (show wr .i32 (Int.ofNat (c % 64)) = Int.ofNat (c % 64) from by rw [wr_in] <;> simp [IntKind.min, IntKind.max, IntKind.signed, IntKind.bits] <;> omega) (Nat.mod_lt _ (by decide))) ?_
  refine Ie.p rfl rfl rfl rfl ?_
  refine Ie.p rfl rfl rfl rfl ?_
  refine Ie.p rfl rfl rfl rfl ?_
  refine Ie.p rfl rfl rfl rfl ?_
  refine Ie.p rfl rfl rfl rfl ?_
  refine Ie.nil ?_
  refine Ne.seq ?_
  refine Ce.seq ?_
  refine Ce.region ?_
  refine Ie.p rfl rfl rfl rfl ?_
  refine Ie.p rfl rfl rfl rfl ?_
  refine Ie.call _ rfl rfl rfl rfl rfl rfl (fun m hm => Arith_i64_shr_in (b := 1) (j := 1) hm.lole ((fit_shr (Fit.wr .i64 a) _).le (by decide) (by decide)) rfl (by decide)) ?_
  refine Ie.p rfl rfl rfl rfl ?_
  refine Ie.p rfl rfl rfl rfl ?_
  refine Ie.p rfl rfl rfl rfl ?_
  refine Ie.p rfl rfl rfl rfl ?_
  refine Ie.p rfl rfl rfl rfl ?_
  refine Ie.nil ?_
  refine Ne.seq ?_
  refine Ce.seq ?_
  refine Ce.region ?_
  refine Ie.p rfl rfl rfl rfl ?_
  refine Ie.p rfl rfl rfl rfl ?_
  refine Ie.p rfl rfl rfl rfl ?_
  refine Ie.p rfl rfl rfl rfl ?_
  refine Ie.p rfl rfl rfl rfl ?_
  refine Ie.p rfl rfl rfl rfl ?_
  refine Ie.p rfl rfl rfl rfl ?_
  refine Ie.p rfl rfl rfl rfl ?_
  refine Ie.p rfl rfl rfl rfl ?_
  refine Ie.p rfl rfl rfl rfl ?_
  refine Ie.p rfl rfl rfl rfl ?_
  refine Ie.p rfl rfl rfl rfl ?_
  refine Ie.p rfl rfl rfl rfl ?_
  refine Ie.p rfl rfl rfl rfl ?_
  refine Ie.p rfl rfl rfl rfl ?_
  refine Ie.p rfl rfl rfl rfl ?_
  refine Ie.p rfl rfl rfl rfl ?_
  refine Ie.p rfl rfl rfl rfl ?_
  refine Ie.p rfl rfl rfl rfl ?_
  refine Ie.p rfl rfl rfl rfl ?_
  refine Ie.p rfl rfl rfl rfl ?_
  refine Ie.bin (v := .bool true) rfl rfl rfl rfl rfl rfl (binS_eql (shlMul (by decide) _ _)) ?_
  refine Ie.p rfl rfl rfl rfl ?_
  refine Ie.p rfl rfl rfl rfl ?_
  refine Ie.p rfl rfl rfl rfl ?_
  refine Ie.p rfl rfl rfl rfl ?_
  refine Ie.bin (v := .bool true) rfl rfl rfl rfl rfl rfl (binS_eql (shrTwice (Fit.wr _ _) _)) ?_
  refine Ie.p rfl rfl rfl rfl ?_
  refine Ie.p rfl rfl rfl rfl ?_
  refine Ie.nil ?_
  refine Ne.seq ?_
  refine Ce.ret ?_
  exact Re.end_ rfl rfl (fun m hm => ⟨rfl, hm.ext⟩)

theorem shifts_i64_1 {a : Int} {c : Nat} {m : AW} (hm : m.lo ≤ m.next) (hl : LaidAt lays m) (ha : Fit .i64 a) (hc : c < 256) (hn : c % 64 = 63) : Fc Tryz.prog 5 [.int .i64 3, .int .i64 a, .int .u8 (Int.ofNat c)] m fun v m' => v = .bool true ∧ Ext m m' := by
  refine Fc.body (c := _) Tryz.func5 rfl rfl rfl rfl hm ?_
  refine Ce.seq ?_
  refine Ce.region ?_
  refine Ie.p rfl rfl rfl rfl ?_
  refine Ie.nil ?_
  refine Ne.seq ?_
  refine Ce.seq ?_
  refine Ce.region ?_
  refine Ie.p rfl rfl rfl rfl ?_
  refine Ie.nil ?_
  refine Ne.seq ?_
  refine Ce.seq ?_
  refine Ce.seq ?_
  refine Ce.region ?_
  refine Ie.p rfl rfl rfl rfl ?_
  refine Ie.nil ?_
  refine Ne.seq ?_
  refine Ce.block ?_
  refine Ce.seq ?_
  refine Ce.region ?_
  refine Ie.p rfl rfl rfl rfl ?_
  refine Ie.p rfl rfl rfl rfl ?_
  refine Ie.nil ?_
  refine Ne.seq ?_
  refine Ce.cond_false rfl ?_
  refine Ce.seq ?_
  refine Ce.region ?_
  refine Ie.p rfl rfl rfl rfl ?_
  refine Ie.p rfl rfl rfl rfl ?_
  refine Ie.nil ?_
  refine Ne.seq ?_
  refine Ce.cond_false rfl ?_
  refine Ce.seq ?_
  refine Ce.region ?_
  refine Ie.p rfl rfl rfl rfl ?_
  refine Ie.p rfl rfl rfl rfl ?_
  refine Ie.nil ?_
  refine Ne.seq ?_
  refine Ce.cond_true rfl ?_
  refine Ce.region ?_
  refine Ie.p rfl rfl rfl rfl ?_
  refine Ie.nil ?_
  refine Ne.blk ?_
  refine Ne.seq ?_
  refine Ce.seq ?_
  refine Ce.seq ?_
  refine Ce.region ?_
  refine Ie.call _ rfl rfl rfl rfl rfl rfl (fun m hm => awake_ok (hl.kr hm)) ?_
  refine Ie.p rfl rfl rfl rfl ?_
  refine Ie.p rfl rfl rfl rfl ?_
  refine Ie.p rfl rfl rfl rfl ?_
  refine Ie.p rfl rfl rfl rfl ?_
  refine Ie.p rfl rfl rfl rfl ?_
  refine Ie.nil ?_
  refine Ne.seq ?_
  refine Ce.cond_false rfl ?_
  refine Ce.skip ?_
  refine Ne.seq ?_
  refine Ce.seq ?_
  refine Ce.region ?_
  refine Ie.p rfl rfl rfl rfl ?_
  refine Ie.convInt rfl rfl rfl rfl Tryz.underlying5 Tryz.underlying3 rfl ?_
  refine Ie.p rfl rfl rfl rfl ?_
  refine Ie.bin rfl rfl rfl rfl rfl rfl (binS_rem (by decide)) ?_
  refine Ie.as 36 (.int .i64 (Int.ofNat (c % 64))) rfl (congrArg (Value.int .i64) (modW c 64 (by decide) (by rw [wr_in] <;> simp [IntKind.min, IntKind.max, IntKind.signed, IntKind.bits] <;> omega))) ?_
  refine Ie.p rfl rfl rfl rfl ?_
  refine Ie.nil ?_
  refine Ne.seq ?_
  refine Ce.seq ?_
  refine Ce.region ?_
  refine Ie.p rfl rfl rfl rfl ?_
  refine Ie.p rfl rfl rfl rfl ?_
  refine Ie.p rfl rfl rfl rfl ?_
  refine Ie.call _ rfl rfl rfl rfl rfl rfl (fun m hm => Arith_i64_shl_in hm.lole ha (show wr .i32 (Int.ofNat (c % 64)) = Int.ofNat (c % 64) from by rw [wr_in] <;> simp [IntKind.min, IntKind.max, IntKind.signed, IntKind.bits] <;> omega) (Nat.mod_lt _ (by decide))) ?_
  refine Ie.p rfl rfl rfl rfl ?_
  refine Ie.p rfl rfl rfl rfl ?_
  refine Ie.p rfl rfl rfl rfl ?_
  refine Ie.p rfl rfl rfl rfl ?_
  refine Ie.p rfl rfl rfl rfl ?_
  refine Ie.nil ?_
  refine Ne.seq ?_
  refine Ce.seq ?_
  refine Ce.region ?_
  refine Ie.p rfl rfl rfl rfl ?_
  refine Ie.p rfl rfl rfl rfl ?_
  refine Ie.p rfl rfl rfl rfl ?_
  refine Ie.convInt rfl rfl rfl rfl Tryz.underlying2 Tryz.underlying35 rfl ?_
  refine Ie.as 48 (.int .u64 (Int.ofNat (c % 64))) rfl (congrArg (Value.int .u64) (by rw [wr_in] <;> simp [IntKind.min, IntKind.max, IntKind.signed, IntKind.bits] <;> omega)) ?_
  refine Ie.bin rfl rfl rfl rfl rfl rfl (binS_shl (by simp [IntKind.bits]; omega)) ?_
  refine Ie.convInt rfl rfl rfl rfl Tryz.underlying34 Tryz.underlying2 rfl ?_
  refine Ie.call _ rfl rfl rfl rfl rfl rfl (fun m hm => Arith_i64_2 hm.lole ha (Fit.wr .i64 _)) ?_
  refine Ie.p rfl rfl rfl rfl ?_
  refine Ie.p rfl rfl rfl rfl ?_
  refine Ie.p rfl rfl rfl rfl ?_
  refine Ie.p rfl rfl rfl rfl ?_
  refine Ie.p rfl rfl rfl rfl ?_
  refine Ie.nil ?_
  refine Ne.seq ?_
  refine Ce.seq ?_
  refine Ce.region ?_
  refine Ie.p rfl rfl rfl rfl ?_
  refine Ie.p rfl rfl rfl rfl ?_
  refine Ie.p rfl rfl rfl rfl ?_
  refine Ie.p rfl rfl rfl rfl ?_
  refine Ie.as 58 (.int .i64 (Int.ofNat (c % 64 + 1))) rfl (congrArg (Value.int .i64) (by rw [wr_in] <;> simp [IntKind.min, IntKind.max, IntKind.signed, IntKind.bits] <;> omega)) ?_
  refine Ie.call _ rfl rfl rfl rfl rfl rfl (fun m hm => Arith_i64_shr_big hm.lole ha (by rw [show wr .i32 (Int.ofNat (c % 64 + 1)) = Int.ofNat (c % 64 + 1) from by rw [wr_in] <;> simp [IntKind.min, IntKind.max, IntKind.signed, IntKind.bits] <;> omega]; simp; omega) (by rw [show wr .i32 (Int.ofNat (c % 64 + 1)) = Int.ofNat (c % 64 + 1) from by rw [wr_in] <;> simp [IntKind.min, IntKind.max, IntKind.signed, IntKind.bits] <;> omega]; simp; omega)) ?_
  refine Ie.p rfl rfl rfl rfl ?_
  refine Ie.p rfl rfl rfl rfl ?_
  refine Ie.p rfl rfl rfl rfl ?_
  refine Ie.p rfl rfl rfl rfl ?_
  refine Ie.p rfl rfl rfl rfl ?_
  refine Ie.nil ?_
  refine Ne.seq ?_
  refine Ce.seq ?_
  refine Ce.region ?_
  refine Ie.p rfl rfl rfl rfl ?_
  refine Ie.p rfl rfl rfl rfl ?_
  refine Ie.p rfl rfl rfl rfl ?_
  refine Ie.call _ rfl rfl rfl rfl rfl rfl (fun m hm => Arith_i64_shr_in hm.lole ha (show wr .i32 (Int.ofNat (c % 64)) = Int.ofNat (c % 64) from by rw [wr_in] <;> simp [IntKind.min, IntKind.max, IntKind.signed, IntKind.bits] <;> omega) (Nat.mod_lt _ (by decide))) ?_
  refine Ie.p rfl rfl rfl rfl ?_
  refine Ie.p rfl rfl rfl rfl ?_
  refine Ie.p rfl rfl rfl rfl ?_
  refine Ie.p rfl rfl rfl rfl ?_
  refine Ie.p rfl rfl rfl rfl ?_
  refine Ie.nil ?_
  refine Ne.seq ?_
  refine Ce.seq ?_
  refine Ce.region ?_
  refine Ie.p rfl rfl rfl rfl ?_
  refine Ie.p rfl rfl rfl rfl ?_
  refine Ie.call _ rfl rfl rfl rfl rfl rfl (fun m hm => Arith_i64_shr_in (b := 1) (j := 1) hm.lole ((fit_shr (Fit.wr .i64 a) _).le (by decide) (by decide)) rfl (by decide)) ?_
  refine Ie.p rfl rfl rfl rfl ?_
  refine Ie.p rfl rfl rfl rfl ?_
  refine Ie.p rfl rfl rfl rfl ?_
  refine Ie.p rfl rfl rfl rfl ?_
  refine Ie.p rfl rfl rfl rfl ?_
  refine Ie.nil ?_
  refine Ne.seq ?_
  refine Ce.seq ?_
  refine Ce.region ?_
  refine Ie.p rfl rfl rfl rfl ?_
  refine Ie.p rfl rfl rfl rfl ?_
  refine Ie.p rfl rfl rfl rfl ?_
  refine Ie.p rfl rfl rfl rfl ?_
  refine Ie.p rfl rfl rfl rfl ?_
  refine Ie.p rfl rfl rfl rfl ?_
  refine Ie.p rfl rfl rfl rfl ?_
  refine Ie.p rfl rfl rfl rfl ?_
  refine Ie.p rfl rfl rfl rfl ?_
  refine Ie.p rfl rfl rfl rfl ?_
  refine Ie.p rfl rfl rfl rfl ?_
  refine Ie.p rfl rfl rfl rfl ?_
  refine Ie.p rfl rfl rfl rfl ?_
  refine Ie.p rfl rfl rfl rfl ?_
  refine Ie.p rfl rfl rfl rfl ?_
  refine Ie.p rfl rfl rfl rfl ?_
  refine Ie.p rfl rfl rfl rfl ?_
  refine Ie.p rfl rfl rfl rfl ?_
  refine Ie.p rfl rfl rfl rfl ?_
  refine Ie.p rfl rfl rfl rfl ?_
  refine Ie.p rfl rfl rfl rfl ?_
  refine Ie.bin (v := .bool true) rfl rfl rfl rfl rfl rfl (binS_eql (shlMul (by decide) _ _)) ?_
  refine Ie.p rfl rfl rfl rfl ?_
  refine Ie.p rfl rfl rfl rfl ?_
  refine Ie.p rfl rfl rfl rfl ?_
  refine Ie.p rfl rfl rfl rfl ?_
  refine Ie.bin (v := .bool true) rfl rfl rfl rfl rfl rfl (binS_eql ((by rw [hn]; exact shrAll (Fit.wr _ _) rfl rfl))) ?_
  refine Ie.p rfl rfl rfl rfl ?_
  refine Ie.p rfl rfl rfl rfl ?_
  refine Ie.nil ?_
  refine Ne.seq ?_
  refine Ce.ret ?_
  exact Re.end_ rfl rfl (fun m hm => ⟨rfl, hm.ext⟩)

theorem shifts_other {kind a c : Int} {m : AW} (hm : m.lo ≤ m.next) (hl : LaidAt lays m) (h1 : kind ≠ 1) (h2 : kind ≠ 2) (h3 : kind ≠ 3) : Fc Tryz.prog 5 [.int .i64 kind, .int .i64 a, .int .u8 c] m fun v m' => v = .bool true ∧ Ext m m' := by
  refine Fc.body (c := _) Tryz.func5 rfl rfl rfl rfl hm ?_
  refine Ce.seq ?_
  refine Ce.region ?_
  refine Ie.p rfl rfl rfl rfl ?_
  refine Ie.nil ?_
  refine Ne.seq ?_
  refine Ce.seq ?_
  refine Ce.region ?_
  refine Ie.p rfl rfl rfl rfl ?_
  refine Ie.nil ?_
  refine Ne.seq ?_
  refine Ce.seq ?_
  refine Ce.seq ?_
  refine Ce.region ?_
  refine Ie.p rfl rfl rfl rfl ?_
  refine Ie.nil ?_
  refine Ne.seq ?_
  refine Ce.block ?_
  refine Ce.seq ?_
  refine Ce.region ?_
  refine Ie.p rfl rfl rfl rfl ?_
  refine Ie.p rfl rfl rfl rfl ?_
  refine Ie.nil ?_
  refine Ne.seq ?_
  refine Ce.cond_false (by rw [eqI_eq]; simp only [h1, decide_false]; rfl) ?_
  refine Ce.seq ?_
  refine Ce.region ?_
  refine Ie.p rfl rfl rfl rfl ?_
  refine Ie.p rfl rfl rfl rfl ?_
  refine Ie.nil ?_
  refine Ne.seq ?_
  refine Ce.cond_false (by rw [eqI_eq]; simp only [h2, decide_false]; rfl) ?_
  refine Ce.seq ?_
  refine Ce.region ?_
  refine Ie.p rfl rfl rfl rfl ?_
  refine Ie.p rfl rfl rfl rfl ?_
  refine Ie.nil ?_
  refine Ne.seq ?_
  refine Ce.cond_false (by rw [eqI_eq]; simp only [h3, decide_false]; rfl) ?_
  refine Ce.skip ?_
  refine Ne.blk ?_
  refine Ne.seq ?_
  refine Ce.seq ?_
  refine Ce.seq ?_
  refine Ce.region ?_
  refine Ie.call _ rfl rfl rfl rfl rfl rfl (fun m hm => awake_ok (hl.kr hm)) ?_
  refine Ie.p rfl rfl rfl rfl ?_
  refine Ie.p rfl rfl rfl rfl ?_
  refine Ie.p rfl rfl rfl rfl ?_
  refine Ie.p rfl rfl rfl rfl ?_
  refine Ie.p rfl rfl rfl rfl ?_
  refine Ie.nil ?_
  refine Ne.seq ?_
  refine Ce.cond_true rfl ?_
  refine Ce.seq ?_
  refine Ce.region ?_
  refine Ie.call _ rfl rfl rfl rfl rfl rfl (fun m hm => awake_ok (hl.kr hm)) ?_
  refine Ie.p rfl rfl rfl rfl ?_
  refine Ie.nil ?_
  refine Ne.seq ?_
  refine Ce.ret ?_
  refine Re.seq ?_
  exact Re.end_ rfl rfl (fun m hm => ⟨rfl, hm.ext⟩)

end Go.Proofs.YtmcjihhfgmfcpaaGreatDoor
