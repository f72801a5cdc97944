/-
  NumberRing: the functions that it calls, followed, 0. Conditions: none.
-/
import Derived.Test.YtmcjihhfgmfcpaaGreatDoorAwk
import Derived.Test.YtmcjihhfgmfcpaaGreatDoorPla
namespace Go.Proofs.YtmcjihhfgmfcpaaGreatDoor
open Go Go.Ab
theorem ag54 : aggT Tryz.prog 54 = some false := by kernel_rfl
theorem ag55 : aggT Tryz.prog 55 = some false := by kernel_rfl
theorem ag59 : aggT Tryz.prog 59 = some true := by kernel_rfl
theorem fa59_0 : ∀ b off, fieldAddrA Tryz.prog 59 (.pointer (some ⟨b, off, none⟩)) 0 = some (.pointer (some ⟨b, off + 0, none⟩)) := fun _ _ => by kernel_rfl
theorem fa59_1 : ∀ b off, fieldAddrA Tryz.prog 59 (.pointer (some ⟨b, off, none⟩)) 1 = some (.pointer (some ⟨b, off + 1, none⟩)) := fun _ _ => by kernel_rfl
theorem sz55 : sizeT Tryz.prog 55 = some 1 := by kernel_rfl
theorem sz59 : sizeT Tryz.prog 59 = some 16 := by kernel_rfl
theorem zr59 : zeroT Tryz.prog 59 = some (.agg ⟨[.nilFunc, .nilFunc, .nilFunc, .nilFunc, .nilFunc, .nilFunc, .nilFunc, .nilFunc, .nilFunc, .nilFunc, .nilFunc, .nilFunc, .nilFunc, .nilFunc, .nilFunc, .int .i64 0]⟩) := by kernel_rfl
theorem cl_u8_1 {n : Int} {m : AW} (hm : m.lo ≤ m.next) (h : Fit .i64 n) : Fc Tryz.prog 82 [.int .i64 n] m fun v m' => v = .int .i64 (wr .u8 n) ∧ Ext m m' := by
  refine Fc.body (c := _) Tryz.func82 rfl rfl rfl rfl hm ?_
  refine Ce.seq ?_
  refine Ce.region ?_
  refine Ie.p rfl rfl rfl rfl ?_
  refine Ie.nil ?_
  refine Ne.seq ?_
  refine Ce.seq ?_
  refine Ce.region ?_
  refine Ie.p rfl rfl rfl rfl ?_
  refine Ie.convInt rfl rfl rfl rfl Tryz.underlying2 Tryz.underlying5 rfl ?_
  refine Ie.convInt rfl rfl rfl rfl Tryz.underlying5 Tryz.underlying2 rfl ?_
  refine Ie.p rfl rfl rfl rfl ?_
  refine Ie.nil ?_
  refine Ne.seq ?_
  refine Ce.ret ?_
  exact Re.end_ rfl rfl (fun m hm => ⟨congrArg (Value.int .i64) (wr64 _ _ (by decide) (by decide)), hm.ext⟩)

theorem cl_u8_2 {a b : Int} {m : AW} (hm : m.lo ≤ m.next) (ha : Fit .u8 a) (hb : Fit .u8 b) : Fc Tryz.prog 83 [.int .i64 a, .int .i64 b] m fun v m' => v = .int .i64 (wr .u8 (a + b)) ∧ Ext m m' := by
  refine Fc.body (c := _) Tryz.func83 rfl rfl rfl rfl hm ?_
  refine Ce.seq ?_
  refine Ce.region ?_
  refine Ie.p rfl rfl rfl rfl ?_
  refine Ie.nil ?_
  refine Ne.seq ?_
  refine Ce.seq ?_
  refine Ce.region ?_
  refine Ie.p rfl rfl rfl rfl ?_
  refine Ie.convInt rfl rfl rfl rfl Tryz.underlying2 Tryz.underlying5 rfl ?_
  refine Ie.p rfl rfl rfl rfl ?_
  refine Ie.convInt rfl rfl rfl rfl Tryz.underlying2 Tryz.underlying5 rfl ?_
  refine Ie.p rfl rfl rfl rfl ?_
  refine Ie.convInt rfl rfl rfl rfl Tryz.underlying5 Tryz.underlying2 rfl ?_
  refine Ie.p rfl rfl rfl rfl ?_
  refine Ie.nil ?_
  refine Ne.seq ?_
  refine Ce.ret ?_
  exact Re.end_ rfl rfl (fun m hm => ⟨congrArg (Value.int .i64) ((by rw [wr64 _ _ (by decide) (by decide)]; simp only [show wr .u8 a = a from ha, show wr .u8 b = b from hb])), hm.ext⟩)

theorem cl_u8_3 {a b : Int} {m : AW} (hm : m.lo ≤ m.next) (ha : Fit .u8 a) (hb : Fit .u8 b) : Fc Tryz.prog 84 [.int .i64 a, .int .i64 b] m fun v m' => v = .int .i64 (wr .u8 (a - b)) ∧ Ext m m' := by
  refine Fc.body (c := _) Tryz.func84 rfl rfl rfl rfl hm ?_
  refine Ce.seq ?_
  refine Ce.region ?_
  refine Ie.p rfl rfl rfl rfl ?_
  refine Ie.nil ?_
  refine Ne.seq ?_
  refine Ce.seq ?_
  refine Ce.region ?_
  refine Ie.p rfl rfl rfl rfl ?_
  refine Ie.convInt rfl rfl rfl rfl Tryz.underlying2 Tryz.underlying5 rfl ?_
  refine Ie.p rfl rfl rfl rfl ?_
  refine Ie.convInt rfl rfl rfl rfl Tryz.underlying2 Tryz.underlying5 rfl ?_
  refine Ie.p rfl rfl rfl rfl ?_
  refine Ie.convInt rfl rfl rfl rfl Tryz.underlying5 Tryz.underlying2 rfl ?_
  refine Ie.p rfl rfl rfl rfl ?_
  refine Ie.nil ?_
  refine Ne.seq ?_
  refine Ce.ret ?_
  exact Re.end_ rfl rfl (fun m hm => ⟨congrArg (Value.int .i64) ((by rw [wr64 _ _ (by decide) (by decide)]; simp only [show wr .u8 a = a from ha, show wr .u8 b = b from hb])), hm.ext⟩)

theorem cl_u8_4 {a b : Int} {m : AW} (hm : m.lo ≤ m.next) (ha : Fit .u8 a) (hb : Fit .u8 b) : Fc Tryz.prog 85 [.int .i64 a, .int .i64 b] m fun v m' => v = .int .i64 (wr .u8 (a * b)) ∧ Ext m m' := by
  refine Fc.body (c := _) Tryz.func85 rfl rfl rfl rfl hm ?_
  refine Ce.seq ?_
  refine Ce.region ?_
  refine Ie.p rfl rfl rfl rfl ?_
  refine Ie.nil ?_
  refine Ne.seq ?_
  refine Ce.seq ?_
  refine Ce.region ?_
  refine Ie.p rfl rfl rfl rfl ?_
  refine Ie.convInt rfl rfl rfl rfl Tryz.underlying2 Tryz.underlying5 rfl ?_
  refine Ie.p rfl rfl rfl rfl ?_
  refine Ie.convInt rfl rfl rfl rfl Tryz.underlying2 Tryz.underlying5 rfl ?_
  refine Ie.p rfl rfl rfl rfl ?_
  refine Ie.convInt rfl rfl rfl rfl Tryz.underlying5 Tryz.underlying2 rfl ?_
  refine Ie.p rfl rfl rfl rfl ?_
  refine Ie.nil ?_
  refine Ne.seq ?_
  refine Ce.ret ?_
  exact Re.end_ rfl rfl (fun m hm => ⟨congrArg (Value.int .i64) ((by rw [wr64 _ _ (by decide) (by decide)]; simp only [show wr .u8 a = a from ha, show wr .u8 b = b from hb])), hm.ext⟩)

theorem cl_u8_5 {a b : Int} {m : AW} (hm : m.lo ≤ m.next) (ha : Fit .u8 a) (hb : Fit .u8 b) (h0 : b ≠ 0) : Fc Tryz.prog 86 [.int .i64 a, .int .i64 b] m fun v m' => v = .int .i64 (wr .u8 (a.tdiv b)) ∧ Ext m m' := by
  refine Fc.body (c := _) Tryz.func86 rfl rfl rfl rfl hm ?_
  refine Ce.seq ?_
  refine Ce.region ?_
  refine Ie.p rfl rfl rfl rfl ?_
  refine Ie.nil ?_
  refine Ne.seq ?_
  refine Ce.seq ?_
  refine Ce.region ?_
  refine Ie.p rfl rfl rfl rfl ?_
  refine Ie.convInt rfl rfl rfl rfl Tryz.underlying2 Tryz.underlying5 rfl ?_
  refine Ie.p rfl rfl rfl rfl ?_
  refine Ie.convInt rfl rfl rfl rfl Tryz.underlying2 Tryz.underlying5 rfl ?_
  refine Ie.bin rfl rfl rfl rfl rfl rfl (binS_quo (by rw [show wr .u8 b = b from hb]; exact h0)) ?_
  refine Ie.convInt rfl rfl rfl rfl Tryz.underlying5 Tryz.underlying2 rfl ?_
  refine Ie.p rfl rfl rfl rfl ?_
  refine Ie.nil ?_
  refine Ne.seq ?_
  refine Ce.ret ?_
  exact Re.end_ rfl rfl (fun m hm => ⟨congrArg (Value.int .i64) ((by rw [wr64 _ _ (by decide) (by decide)]; simp only [show wr .u8 a = a from ha, show wr .u8 b = b from hb])), hm.ext⟩)

theorem cl_u8_6 {a b : Int} {m : AW} (hm : m.lo ≤ m.next) (ha : Fit .u8 a) (hb : Fit .u8 b) (h0 : b ≠ 0) : Fc Tryz.prog 87 [.int .i64 a, .int .i64 b] m fun v m' => v = .int .i64 (wr .u8 (a.tmod b)) ∧ Ext m m' := by
  refine Fc.body (c := _) Tryz.func87 rfl rfl rfl rfl hm ?_
  refine Ce.seq ?_
  refine Ce.region ?_
  refine Ie.p rfl rfl rfl rfl ?_
  refine Ie.nil ?_
  refine Ne.seq ?_
  refine Ce.seq ?_
  refine Ce.region ?_
  refine Ie.p rfl rfl rfl rfl ?_
  refine Ie.convInt rfl rfl rfl rfl Tryz.underlying2 Tryz.underlying5 rfl ?_
  refine Ie.p rfl rfl rfl rfl ?_
  refine Ie.convInt rfl rfl rfl rfl Tryz.underlying2 Tryz.underlying5 rfl ?_
  refine Ie.bin rfl rfl rfl rfl rfl rfl (binS_rem (by rw [show wr .u8 b = b from hb]; exact h0)) ?_
  refine Ie.convInt rfl rfl rfl rfl Tryz.underlying5 Tryz.underlying2 rfl ?_
  refine Ie.p rfl rfl rfl rfl ?_
  refine Ie.nil ?_
  refine Ne.seq ?_
  refine Ce.ret ?_
  exact Re.end_ rfl rfl (fun m hm => ⟨congrArg (Value.int .i64) ((by simp only [show wr .u8 a = a from ha, show wr .u8 b = b from hb]; rw [show wr .u8 (a.tmod b) = a.tmod b from fit_rem ha hb h0]; exact (fit_rem ha hb h0).le (by decide) (by decide))), hm.ext⟩)

theorem cl_i32_1 {n : Int} {m : AW} (hm : m.lo ≤ m.next) (h : Fit .i64 n) : Fc Tryz.prog 97 [.int .i64 n] m fun v m' => v = .int .i64 (wr .i32 n) ∧ Ext m m' := by
  refine Fc.body (c := _) Tryz.func97 rfl rfl rfl rfl hm ?_
  refine Ce.seq ?_
  refine Ce.region ?_
  refine Ie.p rfl rfl rfl rfl ?_
  refine Ie.nil ?_
  refine Ne.seq ?_
  refine Ce.seq ?_
  refine Ce.region ?_
  refine Ie.p rfl rfl rfl rfl ?_
  refine Ie.convInt rfl rfl rfl rfl Tryz.underlying2 Tryz.underlying21 rfl ?_
  refine Ie.convInt rfl rfl rfl rfl Tryz.underlying21 Tryz.underlying2 rfl ?_
  refine Ie.p rfl rfl rfl rfl ?_
  refine Ie.nil ?_
  refine Ne.seq ?_
  refine Ce.ret ?_
  exact Re.end_ rfl rfl (fun m hm => ⟨congrArg (Value.int .i64) (wr64 _ _ (by decide) (by decide)), hm.ext⟩)

theorem cl_i32_2 {a b : Int} {m : AW} (hm : m.lo ≤ m.next) (ha : Fit .i32 a) (hb : Fit .i32 b) : Fc Tryz.prog 98 [.int .i64 a, .int .i64 b] m fun v m' => v = .int .i64 (wr .i32 (a + b)) ∧ Ext m m' := by
  refine Fc.body (c := _) Tryz.func98 rfl rfl rfl rfl hm ?_
  refine Ce.seq ?_
  refine Ce.region ?_
  refine Ie.p rfl rfl rfl rfl ?_
  refine Ie.nil ?_
  refine Ne.seq ?_
  refine Ce.seq ?_
  refine Ce.region ?_
  refine Ie.p rfl rfl rfl rfl ?_
  refine Ie.convInt rfl rfl rfl rfl Tryz.underlying2 Tryz.underlying21 rfl ?_
  refine Ie.p rfl rfl rfl rfl ?_
  refine Ie.convInt rfl rfl rfl rfl Tryz.underlying2 Tryz.underlying21 rfl ?_
  refine Ie.p rfl rfl rfl rfl ?_
  refine Ie.convInt rfl rfl rfl rfl Tryz.underlying21 Tryz.underlying2 rfl ?_
  refine Ie.p rfl rfl rfl rfl ?_
  refine Ie.nil ?_
  refine Ne.seq ?_
  refine Ce.ret ?_
  exact Re.end_ rfl rfl (fun m hm => ⟨congrArg (Value.int .i64) ((by rw [wr64 _ _ (by decide) (by decide)]; simp only [show wr .i32 a = a from ha, show wr .i32 b = b from hb])), hm.ext⟩)

theorem cl_i32_3 {a b : Int} {m : AW} (hm : m.lo ≤ m.next) (ha : Fit .i32 a) (hb : Fit .i32 b) : Fc Tryz.prog 99 [.int .i64 a, .int .i64 b] m fun v m' => v = .int .i64 (wr .i32 (a - b)) ∧ Ext m m' := by
  refine Fc.body (c := _) Tryz.func99 rfl rfl rfl rfl hm ?_
  refine Ce.seq ?_
  refine Ce.region ?_
  refine Ie.p rfl rfl rfl rfl ?_
  refine Ie.nil ?_
  refine Ne.seq ?_
  refine Ce.seq ?_
  refine Ce.region ?_
  refine Ie.p rfl rfl rfl rfl ?_
  refine Ie.convInt rfl rfl rfl rfl Tryz.underlying2 Tryz.underlying21 rfl ?_
  refine Ie.p rfl rfl rfl rfl ?_
  refine Ie.convInt rfl rfl rfl rfl Tryz.underlying2 Tryz.underlying21 rfl ?_
  refine Ie.p rfl rfl rfl rfl ?_
  refine Ie.convInt rfl rfl rfl rfl Tryz.underlying21 Tryz.underlying2 rfl ?_
  refine Ie.p rfl rfl rfl rfl ?_
  refine Ie.nil ?_
  refine Ne.seq ?_
  refine Ce.ret ?_
  exact Re.end_ rfl rfl (fun m hm => ⟨congrArg (Value.int .i64) ((by rw [wr64 _ _ (by decide) (by decide)]; simp only [show wr .i32 a = a from ha, show wr .i32 b = b from hb])), hm.ext⟩)

theorem cl_i32_4 {a b : Int} {m : AW} (hm : m.lo ≤ m.next) (ha : Fit .i32 a) (hb : Fit .i32 b) : Fc Tryz.prog 100 [.int .i64 a, .int .i64 b] m fun v m' => v = .int .i64 (wr .i32 (a * b)) ∧ Ext m m' := by
  refine Fc.body (c := _) Tryz.func100 rfl rfl rfl rfl hm ?_
  refine Ce.seq ?_
  refine Ce.region ?_
  refine Ie.p rfl rfl rfl rfl ?_
  refine Ie.nil ?_
  refine Ne.seq ?_
  refine Ce.seq ?_
  refine Ce.region ?_
  refine Ie.p rfl rfl rfl rfl ?_
  refine Ie.convInt rfl rfl rfl rfl Tryz.underlying2 Tryz.underlying21 rfl ?_
  refine Ie.p rfl rfl rfl rfl ?_
  refine Ie.convInt rfl rfl rfl rfl Tryz.underlying2 Tryz.underlying21 rfl ?_
  refine Ie.p rfl rfl rfl rfl ?_
  refine Ie.convInt rfl rfl rfl rfl Tryz.underlying21 Tryz.underlying2 rfl ?_
  refine Ie.p rfl rfl rfl rfl ?_
  refine Ie.nil ?_
  refine Ne.seq ?_
  refine Ce.ret ?_
  exact Re.end_ rfl rfl (fun m hm => ⟨congrArg (Value.int .i64) ((by rw [wr64 _ _ (by decide) (by decide)]; simp only [show wr .i32 a = a from ha, show wr .i32 b = b from hb])), hm.ext⟩)

theorem cl_i32_5 {a b : Int} {m : AW} (hm : m.lo ≤ m.next) (ha : Fit .i32 a) (hb : Fit .i32 b) (h0 : b ≠ 0) : Fc Tryz.prog 101 [.int .i64 a, .int .i64 b] m fun v m' => v = .int .i64 (wr .i32 (a.tdiv b)) ∧ Ext m m' := by
  refine Fc.body (c := _) Tryz.func101 rfl rfl rfl rfl hm ?_
  refine Ce.seq ?_
  refine Ce.region ?_
  refine Ie.p rfl rfl rfl rfl ?_
  refine Ie.nil ?_
  refine Ne.seq ?_
  refine Ce.seq ?_
  refine Ce.region ?_
  refine Ie.p rfl rfl rfl rfl ?_
  refine Ie.convInt rfl rfl rfl rfl Tryz.underlying2 Tryz.underlying21 rfl ?_
  refine Ie.p rfl rfl rfl rfl ?_
  refine Ie.convInt rfl rfl rfl rfl Tryz.underlying2 Tryz.underlying21 rfl ?_
  refine Ie.bin rfl rfl rfl rfl rfl rfl (binS_quo (by rw [show wr .i32 b = b from hb]; exact h0)) ?_
  refine Ie.convInt rfl rfl rfl rfl Tryz.underlying21 Tryz.underlying2 rfl ?_
  refine Ie.p rfl rfl rfl rfl ?_
  refine Ie.nil ?_
  refine Ne.seq ?_
  refine Ce.ret ?_
  exact Re.end_ rfl rfl (fun m hm => ⟨congrArg (Value.int .i64) ((by rw [wr64 _ _ (by decide) (by decide)]; simp only [show wr .i32 a = a from ha, show wr .i32 b = b from hb])), hm.ext⟩)

theorem cl_i32_6 {a b : Int} {m : AW} (hm : m.lo ≤ m.next) (ha : Fit .i32 a) (hb : Fit .i32 b) (h0 : b ≠ 0) : Fc Tryz.prog 102 [.int .i64 a, .int .i64 b] m fun v m' => v = .int .i64 (wr .i32 (a.tmod b)) ∧ Ext m m' := by
  refine Fc.body (c := _) Tryz.func102 rfl rfl rfl rfl hm ?_
  refine Ce.seq ?_
  refine Ce.region ?_
  refine Ie.p rfl rfl rfl rfl ?_
  refine Ie.nil ?_
  refine Ne.seq ?_
  refine Ce.seq ?_
  refine Ce.region ?_
  refine Ie.p rfl rfl rfl rfl ?_
  refine Ie.convInt rfl rfl rfl rfl Tryz.underlying2 Tryz.underlying21 rfl ?_
  refine Ie.p rfl rfl rfl rfl ?_
  refine Ie.convInt rfl rfl rfl rfl Tryz.underlying2 Tryz.underlying21 rfl ?_
  refine Ie.bin rfl rfl rfl rfl rfl rfl (binS_rem (by rw [show wr .i32 b = b from hb]; exact h0)) ?_
  refine Ie.convInt rfl rfl rfl rfl Tryz.underlying21 Tryz.underlying2 rfl ?_
  refine Ie.p rfl rfl rfl rfl ?_
  refine Ie.nil ?_
  refine Ne.seq ?_
  refine Ce.ret ?_
  exact Re.end_ rfl rfl (fun m hm => ⟨congrArg (Value.int .i64) ((by simp only [show wr .i32 a = a from ha, show wr .i32 b = b from hb]; rw [show wr .i32 (a.tmod b) = a.tmod b from fit_rem ha hb h0]; exact (fit_rem ha hb h0).le (by decide) (by decide))), hm.ext⟩)

theorem cl_i64_1 {n : Int} {m : AW} (hm : m.lo ≤ m.next) (h : Fit .i64 n) : Fc Tryz.prog 112 [.int .i64 n] m fun v m' => v = .int .i64 (wr .i64 n) ∧ Ext m m' := by
  refine Fc.body (c := _) Tryz.func112 rfl rfl rfl rfl hm ?_
  refine Ce.seq ?_
  refine Ce.region ?_
  refine Ie.p rfl rfl rfl rfl ?_
  refine Ie.nil ?_
  refine Ne.seq ?_
  refine Ce.seq ?_
  refine Ce.region ?_
  refine Ie.p rfl rfl rfl rfl ?_
  refine Ie.p rfl rfl rfl rfl ?_
  refine Ie.nil ?_
  refine Ne.seq ?_
  refine Ce.ret ?_
  exact Re.end_ rfl rfl (fun m hm => ⟨congrArg (Value.int .i64) (h.symm), hm.ext⟩)

theorem cl_i64_2 {a b : Int} {m : AW} (hm : m.lo ≤ m.next) (ha : Fit .i64 a) (hb : Fit .i64 b) : Fc Tryz.prog 113 [.int .i64 a, .int .i64 b] m fun v m' => v = .int .i64 (wr .i64 (a + b)) ∧ Ext m m' := by
  refine Fc.body (c := _) Tryz.func113 rfl rfl rfl rfl hm ?_
  refine Ce.seq ?_
  refine Ce.region ?_
  refine Ie.p rfl rfl rfl rfl ?_
  refine Ie.nil ?_
  refine Ne.seq ?_
  refine Ce.seq ?_
  refine Ce.region ?_
  refine Ie.p rfl rfl rfl rfl ?_
  refine Ie.p rfl rfl rfl rfl ?_
  refine Ie.p rfl rfl rfl rfl ?_
  refine Ie.p rfl rfl rfl rfl ?_
  refine Ie.nil ?_
  refine Ne.seq ?_
  refine Ce.ret ?_
  exact Re.end_ rfl rfl (fun m hm => ⟨congrArg (Value.int .i64) (rfl), hm.ext⟩)

theorem cl_i64_3 {a b : Int} {m : AW} (hm : m.lo ≤ m.next) (ha : Fit .i64 a) (hb : Fit .i64 b) : Fc Tryz.prog 114 [.int .i64 a, .int .i64 b] m fun v m' => v = .int .i64 (wr .i64 (a - b)) ∧ Ext m m' := by
  refine Fc.body (c := _) Tryz.func114 rfl rfl rfl rfl hm ?_
  refine Ce.seq ?_
  refine Ce.region ?_
  refine Ie.p rfl rfl rfl rfl ?_
  refine Ie.nil ?_
  refine Ne.seq ?_
  refine Ce.seq ?_
  refine Ce.region ?_
  refine Ie.p rfl rfl rfl rfl ?_
  refine Ie.p rfl rfl rfl rfl ?_
  refine Ie.p rfl rfl rfl rfl ?_
  refine Ie.p rfl rfl rfl rfl ?_
  refine Ie.nil ?_
  refine Ne.seq ?_
  refine Ce.ret ?_
  exact Re.end_ rfl rfl (fun m hm => ⟨congrArg (Value.int .i64) (rfl), hm.ext⟩)

theorem cl_i64_4 {a b : Int} {m : AW} (hm : m.lo ≤ m.next) (ha : Fit .i64 a) (hb : Fit .i64 b) : Fc Tryz.prog 115 [.int .i64 a, .int .i64 b] m fun v m' => v = .int .i64 (wr .i64 (a * b)) ∧ Ext m m' := by
  refine Fc.body (c := _) Tryz.func115 rfl rfl rfl rfl hm ?_
  refine Ce.seq ?_
  refine Ce.region ?_
  refine Ie.p rfl rfl rfl rfl ?_
  refine Ie.nil ?_
  refine Ne.seq ?_
  refine Ce.seq ?_
  refine Ce.region ?_
  refine Ie.p rfl rfl rfl rfl ?_
  refine Ie.p rfl rfl rfl rfl ?_
  refine Ie.p rfl rfl rfl rfl ?_
  refine Ie.p rfl rfl rfl rfl ?_
  refine Ie.nil ?_
  refine Ne.seq ?_
  refine Ce.ret ?_
  exact Re.end_ rfl rfl (fun m hm => ⟨congrArg (Value.int .i64) (rfl), hm.ext⟩)

theorem cl_i64_5 {a b : Int} {m : AW} (hm : m.lo ≤ m.next) (ha : Fit .i64 a) (hb : Fit .i64 b) (h0 : b ≠ 0) : Fc Tryz.prog 116 [.int .i64 a, .int .i64 b] m fun v m' => v = .int .i64 (wr .i64 (a.tdiv b)) ∧ Ext m m' := by
  refine Fc.body (c := _) Tryz.func116 rfl rfl rfl rfl hm ?_
  refine Ce.seq ?_
  refine Ce.region ?_
  refine Ie.p rfl rfl rfl rfl ?_
  refine Ie.nil ?_
  refine Ne.seq ?_
  refine Ce.seq ?_
  refine Ce.region ?_
  refine Ie.p rfl rfl rfl rfl ?_
  refine Ie.p rfl rfl rfl rfl ?_
  refine Ie.bin rfl rfl rfl rfl rfl rfl (binS_quo h0) ?_
  refine Ie.p rfl rfl rfl rfl ?_
  refine Ie.nil ?_
  refine Ne.seq ?_
  refine Ce.ret ?_
  exact Re.end_ rfl rfl (fun m hm => ⟨congrArg (Value.int .i64) (rfl), hm.ext⟩)

theorem cl_i64_6 {a b : Int} {m : AW} (hm : m.lo ≤ m.next) (ha : Fit .i64 a) (hb : Fit .i64 b) (h0 : b ≠ 0) : Fc Tryz.prog 117 [.int .i64 a, .int .i64 b] m fun v m' => v = .int .i64 (wr .i64 (a.tmod b)) ∧ Ext m m' := by
  refine Fc.body (c := _) Tryz.func117 rfl rfl rfl rfl hm ?_
  refine Ce.seq ?_
  refine Ce.region ?_
  refine Ie.p rfl rfl rfl rfl ?_
  refine Ie.nil ?_
  refine Ne.seq ?_
  refine Ce.seq ?_
  refine Ce.region ?_
  refine Ie.p rfl rfl rfl rfl ?_
  refine Ie.p rfl rfl rfl rfl ?_
  refine Ie.bin rfl rfl rfl rfl rfl rfl (binS_rem h0) ?_
  refine Ie.p rfl rfl rfl rfl ?_
  refine Ie.nil ?_
  refine Ne.seq ?_
  refine Ce.ret ?_
  exact Re.end_ rfl rfl (fun m hm => ⟨congrArg (Value.int .i64) ((fit_rem ha hb h0).symm), hm.ext⟩)

def tab_u8 (b : Nat) : List Value := [.func (.func 82) ⟨[]⟩ ⟨[]⟩, .func (.func 83) ⟨[]⟩ ⟨[]⟩, .func (.func 84) ⟨[]⟩ ⟨[]⟩, .func (.func 85) ⟨[]⟩ ⟨[]⟩, .func (.func 86) ⟨[]⟩ ⟨[]⟩, .func (.func 87) ⟨[]⟩ ⟨[]⟩, .func (.func 88) ⟨[]⟩ ⟨[]⟩, .func (.func 89) ⟨[]⟩ ⟨[]⟩, .func (.func 90) ⟨[]⟩ ⟨[]⟩, .func (.func 91) ⟨[]⟩ ⟨[.pointer (some ⟨b, 0, none⟩)]⟩, .func (.func 92) ⟨[]⟩ ⟨[.pointer (some ⟨b, 0, none⟩)]⟩, .func (.func 93) ⟨[]⟩ ⟨[]⟩, .func (.func 94) ⟨[]⟩ ⟨[]⟩, .func (.func 95) ⟨[]⟩ ⟨[]⟩, .func (.func 96) ⟨[]⟩ ⟨[]⟩, .int .i64 1]
theorem ints_u8 {m : AW} (hm : m.lo ≤ m.next) : Fc Tryz.prog 59 [.int .i64 8] m fun v m' => ∃ b, True ∧ v = .agg ⟨tab_u8 b⟩ ∧ Ext m m' ∧ News m m' [(b, .cells [.int .i64 8] 2 false .plain none)] := by
  refine Fc.body (c := _) Tryz.func59 rfl rfl rfl rfl hm ?_
  refine Ce.seq ?_
  refine Ce.region ?_
  refine Ie.box rfl rfl rfl rfl rfl (fun b1 hb1 => ?_)
  refine Ie.alloc rfl rfl rfl rfl zr59 (fun b2 hb2 => ?_)
  refine Ie.nil ?_
  refine Ne.seq ?_
  refine Ce.seq ?_
  refine Ce.region ?_
  refine Ie.p (v := .agg ⟨[.func (.func 83) ⟨[]⟩ ⟨[]⟩, .func (.func 84) ⟨[]⟩ ⟨[]⟩, .func (.func 85) ⟨[]⟩ ⟨[]⟩, .func (.func 86) ⟨[]⟩ ⟨[]⟩, .func (.func 87) ⟨[]⟩ ⟨[]⟩, .func (.func 88) ⟨[]⟩ ⟨[]⟩, .func (.func 89) ⟨[]⟩ ⟨[]⟩, .func (.func 90) ⟨[]⟩ ⟨[]⟩]⟩) rfl rfl rfl (by kernel_rfl) ?_
  refine Ie.p rfl rfl rfl rfl ?_
  refine Ie.p rfl rfl rfl rfl ?_
  refine Ie.p (v := .agg ⟨tab_u8 b1⟩) rfl rfl rfl (by kernel_rfl) ?_
  refine Ie.store rfl rfl rfl rfl rfl sz59 rfl (by first | exact .head | exact .tail .head | exact .tail (.tail .head) | exact .tail (.tail (.tail .head))) rfl ?_
  refine Ie.nil ?_
  refine Ne.seq ?_
  refine Ce.ret ?_
  refine Re.endH rfl (.agg rfl ag59 sz59 (by first | exact .head | exact .tail .head | exact .tail (.tail .head) | exact .tail (.tail (.tail .head)) | exact .base ‹_› ‹_› (by simp)) (Nat.le_of_ble_eq_true rfl) rfl .nil) ?_
  exact fun m hm => ⟨b1, trivial, rfl, hm.ext, hm.news (.cons _ (.refl _))⟩

theorem of_u8 {m : AW} (hm : m.lo ≤ m.next) : Fc Tryz.prog 34 [.int .i64 1] m fun v m' => ∃ b, True ∧ v = .tuple ⟨[.agg ⟨tab_u8 b⟩, .int .i64 0]⟩ ∧ Ext m m' ∧ News m m' [(b, .cells [.int .i64 8] 2 false .plain none)] := by
  refine Fc.body (c := _) Tryz.func34 rfl rfl rfl rfl hm ?_
  refine Ce.seq ?_
  refine Ce.region ?_
  refine Ie.alloc rfl rfl rfl rfl zr59 (fun b2 hb2 => ?_)
  refine Ie.p rfl rfl rfl rfl ?_
  refine Ie.nil ?_
  refine Ne.seq ?_
  refine Ce.seq ?_
  refine Ce.seq ?_
  refine Ce.region ?_
  refine Ie.p rfl rfl rfl rfl ?_
  refine Ie.nil ?_
  refine Ne.seq ?_
  refine Ce.block ?_
  refine Ce.seq ?_
  refine Ce.region ?_
  refine Ie.p rfl rfl rfl rfl ?_
  refine Ie.p rfl rfl rfl rfl ?_
  refine Ie.nil ?_
  refine Ne.seq ?_
  refine Ce.cond_true rfl ?_
  refine Ce.seq ?_
  refine Ce.region ?_
  refine Ie.calln _ _ _ rfl rfl rfl rfl rfl rfl (fun m hm => ints_u8 hm.lole) (fun x hx => ?_)
  clear hx
  refine Ie.store rfl rfl rfl rfl rfl sz59 rfl (by first | exact .head | exact .tail .head | exact .tail (.tail .head) | exact .tail (.tail (.tail .head))) rfl ?_
  refine Ie.p rfl rfl rfl rfl ?_
  refine Ie.nil ?_
  refine Ne.seq ?_
  refine Ce.ret ?_
  refine Re.blk ?_
  refine Re.seq ?_
  refine Re.endH rfl (.agg rfl ag59 sz59 (by first | exact .head | exact .tail .head | exact .tail (.tail .head) | exact .tail (.tail (.tail .head)) | exact .base ‹_› ‹_› (by simp)) (Nat.le_of_ble_eq_true rfl) rfl (.tmp rfl .nil)) ?_
  exact fun m hm => ⟨x, trivial, rfl, hm.ext, hm.news (by first | exact .cons_cons _ (List.nil_sublist _) | exact .cons _ (.cons_cons _ (List.nil_sublist _)))⟩

def tab_i32 (b : Nat) : List Value := [.func (.func 97) ⟨[]⟩ ⟨[]⟩, .func (.func 98) ⟨[]⟩ ⟨[]⟩, .func (.func 99) ⟨[]⟩ ⟨[]⟩, .func (.func 100) ⟨[]⟩ ⟨[]⟩, .func (.func 101) ⟨[]⟩ ⟨[]⟩, .func (.func 102) ⟨[]⟩ ⟨[]⟩, .func (.func 103) ⟨[]⟩ ⟨[]⟩, .func (.func 104) ⟨[]⟩ ⟨[]⟩, .func (.func 105) ⟨[]⟩ ⟨[]⟩, .func (.func 106) ⟨[]⟩ ⟨[.pointer (some ⟨b, 0, none⟩)]⟩, .func (.func 107) ⟨[]⟩ ⟨[.pointer (some ⟨b, 0, none⟩)]⟩, .func (.func 108) ⟨[]⟩ ⟨[]⟩, .func (.func 109) ⟨[]⟩ ⟨[]⟩, .func (.func 110) ⟨[]⟩ ⟨[]⟩, .func (.func 111) ⟨[]⟩ ⟨[]⟩, .int .i64 1]
theorem ints_i32 {m : AW} (hm : m.lo ≤ m.next) : Fc Tryz.prog 60 [.int .i64 32] m fun v m' => ∃ b, True ∧ v = .agg ⟨tab_i32 b⟩ ∧ Ext m m' ∧ News m m' [(b, .cells [.int .i64 32] 2 false .plain none)] := by
  refine Fc.body (c := _) Tryz.func60 rfl rfl rfl rfl hm ?_
  refine Ce.seq ?_
  refine Ce.region ?_
  refine Ie.box rfl rfl rfl rfl rfl (fun b1 hb1 => ?_)
  refine Ie.alloc rfl rfl rfl rfl zr59 (fun b2 hb2 => ?_)
  refine Ie.nil ?_
  refine Ne.seq ?_
  refine Ce.seq ?_
  refine Ce.region ?_
  refine Ie.p (v := .agg ⟨[.func (.func 98) ⟨[]⟩ ⟨[]⟩, .func (.func 99) ⟨[]⟩ ⟨[]⟩, .func (.func 100) ⟨[]⟩ ⟨[]⟩, .func (.func 101) ⟨[]⟩ ⟨[]⟩, .func (.func 102) ⟨[]⟩ ⟨[]⟩, .func (.func 103) ⟨[]⟩ ⟨[]⟩, .func (.func 104) ⟨[]⟩ ⟨[]⟩, .func (.func 105) ⟨[]⟩ ⟨[]⟩]⟩) rfl rfl rfl (by kernel_rfl) ?_
  refine Ie.p rfl rfl rfl rfl ?_
  refine Ie.p rfl rfl rfl rfl ?_
  refine Ie.p (v := .agg ⟨tab_i32 b1⟩) rfl rfl rfl (by kernel_rfl) ?_
  refine Ie.store rfl rfl rfl rfl rfl sz59 rfl (by first | exact .head | exact .tail .head | exact .tail (.tail .head) | exact .tail (.tail (.tail .head))) rfl ?_
  refine Ie.nil ?_
  refine Ne.seq ?_
  refine Ce.ret ?_
  refine Re.endH rfl (.agg rfl ag59 sz59 (by first | exact .head | exact .tail .head | exact .tail (.tail .head) | exact .tail (.tail (.tail .head)) | exact .base ‹_› ‹_› (by simp)) (Nat.le_of_ble_eq_true rfl) rfl .nil) ?_
  exact fun m hm => ⟨b1, trivial, rfl, hm.ext, hm.news (.cons _ (.refl _))⟩

theorem of_i32 {m : AW} (hm : m.lo ≤ m.next) : Fc Tryz.prog 34 [.int .i64 2] m fun v m' => ∃ b, True ∧ v = .tuple ⟨[.agg ⟨tab_i32 b⟩, .int .i64 0]⟩ ∧ Ext m m' ∧ News m m' [(b, .cells [.int .i64 32] 2 false .plain none)] := by
  refine Fc.body (c := _) Tryz.func34 rfl rfl rfl rfl hm ?_
  refine Ce.seq ?_
  refine Ce.region ?_
  refine Ie.alloc rfl rfl rfl rfl zr59 (fun b2 hb2 => ?_)
  refine Ie.p rfl rfl rfl rfl ?_
  refine Ie.nil ?_
  refine Ne.seq ?_
  refine Ce.seq ?_
  refine Ce.seq ?_
  refine Ce.region ?_
  refine Ie.p rfl rfl rfl rfl ?_
  refine Ie.nil ?_
  refine Ne.seq ?_
  refine Ce.block ?_
  refine Ce.seq ?_
  refine Ce.region ?_
  refine Ie.p rfl rfl rfl rfl ?_
  refine Ie.p rfl rfl rfl rfl ?_
  refine Ie.nil ?_
  refine Ne.seq ?_
  refine Ce.cond_false rfl ?_
  refine Ce.seq ?_
  refine Ce.region ?_
  refine Ie.p rfl rfl rfl rfl ?_
  refine Ie.p rfl rfl rfl rfl ?_
  refine Ie.nil ?_
  refine Ne.seq ?_
  refine Ce.cond_true rfl ?_
  refine Ce.seq ?_
  refine Ce.region ?_
  refine Ie.calln _ _ _ rfl rfl rfl rfl rfl rfl (fun m hm => ints_i32 hm.lole) (fun x hx => ?_)
  clear hx
  refine Ie.store rfl rfl rfl rfl rfl sz59 rfl (by first | exact .head | exact .tail .head | exact .tail (.tail .head) | exact .tail (.tail (.tail .head))) rfl ?_
  refine Ie.p rfl rfl rfl rfl ?_
  refine Ie.nil ?_
  refine Ne.seq ?_
  refine Ce.ret ?_
  refine Re.blk ?_
  refine Re.seq ?_
  refine Re.endH rfl (.agg rfl ag59 sz59 (by first | exact .head | exact .tail .head | exact .tail (.tail .head) | exact .tail (.tail (.tail .head)) | exact .base ‹_› ‹_› (by simp)) (Nat.le_of_ble_eq_true rfl) rfl (.tmp rfl .nil)) ?_
  exact fun m hm => ⟨x, trivial, rfl, hm.ext, hm.news (by first | exact .cons_cons _ (List.nil_sublist _) | exact .cons _ (.cons_cons _ (List.nil_sublist _)))⟩

def tab_i64 (b : Nat) : List Value := [.func (.func 112) ⟨[]⟩ ⟨[]⟩, .func (.func 113) ⟨[]⟩ ⟨[]⟩, .func (.func 114) ⟨[]⟩ ⟨[]⟩, .func (.func 115) ⟨[]⟩ ⟨[]⟩, .func (.func 116) ⟨[]⟩ ⟨[]⟩, .func (.func 117) ⟨[]⟩ ⟨[]⟩, .func (.func 118) ⟨[]⟩ ⟨[]⟩, .func (.func 119) ⟨[]⟩ ⟨[]⟩, .func (.func 120) ⟨[]⟩ ⟨[]⟩, .func (.func 121) ⟨[]⟩ ⟨[.pointer (some ⟨b, 0, none⟩)]⟩, .func (.func 122) ⟨[]⟩ ⟨[.pointer (some ⟨b, 0, none⟩)]⟩, .func (.func 123) ⟨[]⟩ ⟨[]⟩, .func (.func 124) ⟨[]⟩ ⟨[]⟩, .func (.func 125) ⟨[]⟩ ⟨[]⟩, .func (.func 126) ⟨[]⟩ ⟨[]⟩, .int .i64 1]
theorem ints_i64 {m : AW} (hm : m.lo ≤ m.next) : Fc Tryz.prog 61 [.int .i64 64] m fun v m' => ∃ b, True ∧ v = .agg ⟨tab_i64 b⟩ ∧ Ext m m' ∧ News m m' [(b, .cells [.int .i64 64] 2 false .plain none)] := by
  refine Fc.body (c := _) Tryz.func61 rfl rfl rfl rfl hm ?_
  refine Ce.seq ?_
  refine Ce.region ?_
  refine Ie.box rfl rfl rfl rfl rfl (fun b1 hb1 => ?_)
  refine Ie.alloc rfl rfl rfl rfl zr59 (fun b2 hb2 => ?_)
  refine Ie.nil ?_
  refine Ne.seq ?_
  refine Ce.seq ?_
  refine Ce.region ?_
  refine Ie.p (v := .agg ⟨[.func (.func 113) ⟨[]⟩ ⟨[]⟩, .func (.func 114) ⟨[]⟩ ⟨[]⟩, .func (.func 115) ⟨[]⟩ ⟨[]⟩, .func (.func 116) ⟨[]⟩ ⟨[]⟩, .func (.func 117) ⟨[]⟩ ⟨[]⟩, .func (.func 118) ⟨[]⟩ ⟨[]⟩, .func (.func 119) ⟨[]⟩ ⟨[]⟩, .func (.func 120) ⟨[]⟩ ⟨[]⟩]⟩) rfl rfl rfl (by kernel_rfl) ?_
  refine Ie.p rfl rfl rfl rfl ?_
  refine Ie.p rfl rfl rfl rfl ?_
  refine Ie.p (v := .agg ⟨tab_i64 b1⟩) rfl rfl rfl (by kernel_rfl) ?_
  refine Ie.store rfl rfl rfl rfl rfl sz59 rfl (by first | exact .head | exact .tail .head | exact .tail (.tail .head) | exact .tail (.tail (.tail .head))) rfl ?_
  refine Ie.nil ?_
  refine Ne.seq ?_
  refine Ce.ret ?_
  refine Re.endH rfl (.agg rfl ag59 sz59 (by first | exact .head | exact .tail .head | exact .tail (.tail .head) | exact .tail (.tail (.tail .head)) | exact .base ‹_› ‹_› (by simp)) (Nat.le_of_ble_eq_true rfl) rfl .nil) ?_
  exact fun m hm => ⟨b1, trivial, rfl, hm.ext, hm.news (.cons _ (.refl _))⟩

theorem of_i64 {m : AW} (hm : m.lo ≤ m.next) : Fc Tryz.prog 34 [.int .i64 3] m fun v m' => ∃ b, True ∧ v = .tuple ⟨[.agg ⟨tab_i64 b⟩, .int .i64 0]⟩ ∧ Ext m m' ∧ News m m' [(b, .cells [.int .i64 64] 2 false .plain none)] := by
  refine Fc.body (c := _) Tryz.func34 rfl rfl rfl rfl hm ?_
  refine Ce.seq ?_
  refine Ce.region ?_
  refine Ie.alloc rfl rfl rfl rfl zr59 (fun b2 hb2 => ?_)
  refine Ie.p rfl rfl rfl rfl ?_
  refine Ie.nil ?_
  refine Ne.seq ?_
  refine Ce.seq ?_
  refine Ce.seq ?_
  refine Ce.region ?_
  refine Ie.p rfl rfl rfl rfl ?_
  refine Ie.nil ?_
  refine Ne.seq ?_
  refine Ce.block ?_
  refine Ce.seq ?_
  refine Ce.region ?_
  refine Ie.p rfl rfl rfl rfl ?_
  refine Ie.p rfl rfl rfl rfl ?_
  refine Ie.nil ?_
  refine Ne.seq ?_
  refine Ce.cond_false rfl ?_
  refine Ce.seq ?_
  refine Ce.region ?_
  refine Ie.p rfl rfl rfl rfl ?_
  refine Ie.p rfl rfl rfl rfl ?_
  refine Ie.nil ?_
  refine Ne.seq ?_
  refine Ce.cond_false rfl ?_
  refine Ce.seq ?_
  refine Ce.region ?_
  refine Ie.p rfl rfl rfl rfl ?_
  refine Ie.p rfl rfl rfl rfl ?_
  refine Ie.nil ?_
  refine Ne.seq ?_
  refine Ce.cond_true rfl ?_
  refine Ce.seq ?_
  refine Ce.region ?_
  refine Ie.calln _ _ _ rfl rfl rfl rfl rfl rfl (fun m hm => ints_i64 hm.lole) (fun x hx => ?_)
  clear hx
  refine Ie.store rfl rfl rfl rfl rfl sz59 rfl (by first | exact .head | exact .tail .head | exact .tail (.tail .head) | exact .tail (.tail (.tail .head))) rfl ?_
  refine Ie.p rfl rfl rfl rfl ?_
  refine Ie.nil ?_
  refine Ne.seq ?_
  refine Ce.ret ?_
  refine Re.blk ?_
  refine Re.seq ?_
  refine Re.endH rfl (.agg rfl ag59 sz59 (by first | exact .head | exact .tail .head | exact .tail (.tail .head) | exact .tail (.tail (.tail .head)) | exact .base ‹_› ‹_› (by simp)) (Nat.le_of_ble_eq_true rfl) rfl (.tmp rfl .nil)) ?_
  exact fun m hm => ⟨x, trivial, rfl, hm.ext, hm.news (by first | exact .cons_cons _ (List.nil_sublist _) | exact .cons _ (.cons_cons _ (List.nil_sublist _)))⟩

theorem arithmetic_0 {m : AW} (hm : m.lo ≤ m.next) : Fc Tryz.prog 51 [.int .i64 0] m fun v m' => v = .tuple ⟨[.int .i64 0, .bool true]⟩ ∧ Ext m m' := by
  refine Fc.body (c := _) Tryz.func51 rfl rfl rfl rfl hm ?_
  refine Ce.seq ?_
  refine Ce.region ?_
  refine Ie.p rfl rfl rfl rfl ?_
  refine Ie.p rfl rfl rfl rfl ?_
  refine Ie.nil ?_
  refine Ne.seq ?_
  refine Ce.seq ?_
  refine Ce.seq ?_
  refine Ce.region ?_
  refine Ie.p (v := .agg ⟨[.int .i64 0, .int .i64 1, .int .i64 2, .int .i64 3, .int .i64 4, .int .i64 5, .int .i64 6, .int .i64 7]⟩) rfl rfl rfl (by kernel_rfl) ?_
  refine Ie.p rfl rfl rfl rfl ?_
  refine Ie.nil ?_
  refine Ne.seq ?_
  refine Ce.block ?_
  refine Ce.unroll ?_
  refine Ce.seq ?_
  refine Ce.region ?_
  refine Ie.p rfl rfl rfl rfl ?_
  refine Ie.nil ?_
  refine Ne.seq ?_
  refine Ce.seq ?_
  refine Ce.cond_true rfl ?_
  refine Ce.skip ?_
  refine Ne.seq ?_
  refine Ce.seq ?_
  refine Ce.block ?_
  refine Ce.seq ?_
  refine Ce.region ?_
  refine Ie.p rfl rfl rfl rfl ?_
  refine Ie.p (v := .int .i64 0) rfl rfl rfl (by kernel_rfl) ?_
  refine Ie.p rfl rfl rfl rfl ?_
  refine Ie.p rfl rfl rfl rfl ?_
  refine Ie.nil ?_
  refine Ne.seq ?_
  refine Ce.seq ?_
  refine Ce.region ?_
  refine Ie.p rfl rfl rfl rfl ?_
  refine Ie.p rfl rfl rfl rfl ?_
  refine Ie.p rfl rfl rfl rfl ?_
  refine Ie.nil ?_
  refine Ne.seq ?_
  refine Ce.cond_true rfl ?_
  refine Ce.seq ?_
  refine Ce.region ?_
  refine Ie.p rfl rfl rfl rfl ?_
  refine Ie.p rfl rfl rfl rfl ?_
  refine Ie.p rfl rfl rfl rfl ?_
  refine Ie.nil ?_
  refine Ne.seq ?_
  refine Ce.ret ?_
  refine Re.blk ?_
  refine Re.seq ?_
  refine Re.seq ?_
  refine Re.blk ?_
  refine Re.seq ?_
  exact Re.end_ rfl rfl (fun m hm => ⟨rfl, hm.ext⟩)

theorem arithmetic_1 {m : AW} (hm : m.lo ≤ m.next) : Fc Tryz.prog 51 [.int .i64 1] m fun v m' => v = .tuple ⟨[.int .i64 1, .bool true]⟩ ∧ Ext m m' := by
  refine Fc.body (c := _) Tryz.func51 rfl rfl rfl rfl hm ?_
  refine Ce.seq ?_
  refine Ce.region ?_
  refine Ie.p rfl rfl rfl rfl ?_
  refine Ie.p rfl rfl rfl rfl ?_
  refine Ie.nil ?_
  refine Ne.seq ?_
  refine Ce.seq ?_
  refine Ce.seq ?_
  refine Ce.region ?_
  refine Ie.p (v := .agg ⟨[.int .i64 0, .int .i64 1, .int .i64 2, .int .i64 3, .int .i64 4, .int .i64 5, .int .i64 6, .int .i64 7]⟩) rfl rfl rfl (by kernel_rfl) ?_
  refine Ie.p rfl rfl rfl rfl ?_
  refine Ie.nil ?_
  refine Ne.seq ?_
  refine Ce.block ?_
  refine Ce.unroll ?_
  refine Ce.seq ?_
  refine Ce.region ?_
  refine Ie.p rfl rfl rfl rfl ?_
  refine Ie.nil ?_
  refine Ne.seq ?_
  refine Ce.seq ?_
  refine Ce.cond_true rfl ?_
  refine Ce.skip ?_
  refine Ne.seq ?_
  refine Ce.seq ?_
  refine Ce.block ?_
  refine Ce.seq ?_
  refine Ce.region ?_
  refine Ie.p rfl rfl rfl rfl ?_
  refine Ie.p (v := .int .i64 0) rfl rfl rfl (by kernel_rfl) ?_
  refine Ie.p rfl rfl rfl rfl ?_
  refine Ie.p rfl rfl rfl rfl ?_
  refine Ie.nil ?_
  refine Ne.seq ?_
  refine Ce.seq ?_
  refine Ce.region ?_
  refine Ie.p rfl rfl rfl rfl ?_
  refine Ie.p rfl rfl rfl rfl ?_
  refine Ie.p rfl rfl rfl rfl ?_
  refine Ie.nil ?_
  refine Ne.seq ?_
  refine Ce.cond_false rfl ?_
  refine Ce.skip ?_
  refine Ne.blk ?_
  refine Ne.seq ?_
  refine Ce.region ?_
  refine Ie.p rfl rfl rfl rfl ?_
  refine Ie.p rfl rfl rfl rfl ?_
  refine Ie.nil ?_
  refine Ne.seq ?_
  refine Ce.unroll ?_
  refine Ce.seq ?_
  refine Ce.region ?_
  refine Ie.p rfl rfl rfl rfl ?_
  refine Ie.nil ?_
  refine Ne.seq ?_
  refine Ce.seq ?_
  refine Ce.cond_true rfl ?_
  refine Ce.skip ?_
  refine Ne.seq ?_
  refine Ce.seq ?_
  refine Ce.block ?_
  refine Ce.seq ?_
  refine Ce.region ?_
  refine Ie.p rfl rfl rfl rfl ?_
  refine Ie.p (v := .int .i64 1) rfl rfl rfl (by kernel_rfl) ?_
  refine Ie.p rfl rfl rfl rfl ?_
  refine Ie.p rfl rfl rfl rfl ?_
  refine Ie.nil ?_
  refine Ne.seq ?_
  refine Ce.seq ?_
  refine Ce.region ?_
  refine Ie.p rfl rfl rfl rfl ?_
  refine Ie.p rfl rfl rfl rfl ?_
  refine Ie.p rfl rfl rfl rfl ?_
  refine Ie.nil ?_
  refine Ne.seq ?_
  refine Ce.cond_true rfl ?_
  refine Ce.seq ?_
  refine Ce.region ?_
  refine Ie.p rfl rfl rfl rfl ?_
  refine Ie.p rfl rfl rfl rfl ?_
  refine Ie.p rfl rfl rfl rfl ?_
  refine Ie.nil ?_
  refine Ne.seq ?_
  refine Ce.ret ?_
  refine Re.blk ?_
  refine Re.seq ?_
  refine Re.seq ?_
  refine Re.blk ?_
  refine Re.seq ?_
  exact Re.end_ rfl rfl (fun m hm => ⟨rfl, hm.ext⟩)

theorem arithmetic_2 {m : AW} (hm : m.lo ≤ m.next) : Fc Tryz.prog 51 [.int .i64 2] m fun v m' => v = .tuple ⟨[.int .i64 2, .bool true]⟩ ∧ Ext m m' := by
  refine Fc.body (c := _) Tryz.func51 rfl rfl rfl rfl hm ?_
  refine Ce.seq ?_
  refine Ce.region ?_
  refine Ie.p rfl rfl rfl rfl ?_
  refine Ie.p rfl rfl rfl rfl ?_
  refine Ie.nil ?_
  refine Ne.seq ?_
  refine Ce.seq ?_
  refine Ce.seq ?_
  refine Ce.region ?_
  refine Ie.p (v := .agg ⟨[.int .i64 0, .int .i64 1, .int .i64 2, .int .i64 3, .int .i64 4, .int .i64 5, .int .i64 6, .int .i64 7]⟩) rfl rfl rfl (by kernel_rfl) ?_
  refine Ie.p rfl rfl rfl rfl ?_
  refine Ie.nil ?_
  refine Ne.seq ?_
  refine Ce.block ?_
  refine Ce.unroll ?_
  refine Ce.seq ?_
  refine Ce.region ?_
  refine Ie.p rfl rfl rfl rfl ?_
  refine Ie.nil ?_
  refine Ne.seq ?_
  refine Ce.seq ?_
  refine Ce.cond_true rfl ?_
  refine Ce.skip ?_
  refine Ne.seq ?_
  refine Ce.seq ?_
  refine Ce.block ?_
  refine Ce.seq ?_
  refine Ce.region ?_
  refine Ie.p rfl rfl rfl rfl ?_
  refine Ie.p (v := .int .i64 0) rfl rfl rfl (by kernel_rfl) ?_
  refine Ie.p rfl rfl rfl rfl ?_
  refine Ie.p rfl rfl rfl rfl ?_
  refine Ie.nil ?_
  refine Ne.seq ?_
  refine Ce.seq ?_
  refine Ce.region ?_
  refine Ie.p rfl rfl rfl rfl ?_
  refine Ie.p rfl rfl rfl rfl ?_
  refine Ie.p rfl rfl rfl rfl ?_
  refine Ie.nil ?_
  refine Ne.seq ?_
  refine Ce.cond_false rfl ?_
  refine Ce.skip ?_
  refine Ne.blk ?_
  refine Ne.seq ?_
  refine Ce.region ?_
  refine Ie.p rfl rfl rfl rfl ?_
  refine Ie.p rfl rfl rfl rfl ?_
  refine Ie.nil ?_
  refine Ne.seq ?_
  refine Ce.unroll ?_
  refine Ce.seq ?_
  refine Ce.region ?_
  refine Ie.p rfl rfl rfl rfl ?_
  refine Ie.nil ?_
  refine Ne.seq ?_
  refine Ce.seq ?_
  refine Ce.cond_true rfl ?_
  refine Ce.skip ?_
  refine Ne.seq ?_
  refine Ce.seq ?_
  refine Ce.block ?_
  refine Ce.seq ?_
  refine Ce.region ?_
  refine Ie.p rfl rfl rfl rfl ?_
  refine Ie.p (v := .int .i64 1) rfl rfl rfl (by kernel_rfl) ?_
  refine Ie.p rfl rfl rfl rfl ?_
  refine Ie.p rfl rfl rfl rfl ?_
  refine Ie.nil ?_
  refine Ne.seq ?_
  refine Ce.seq ?_
  refine Ce.region ?_
  refine Ie.p rfl rfl rfl rfl ?_
  refine Ie.p rfl rfl rfl rfl ?_
  refine Ie.p rfl rfl rfl rfl ?_
  refine Ie.nil ?_
  refine Ne.seq ?_
  refine Ce.cond_false rfl ?_
  refine Ce.skip ?_
  refine Ne.blk ?_
  refine Ne.seq ?_
  refine Ce.region ?_
  refine Ie.p rfl rfl rfl rfl ?_
  refine Ie.p rfl rfl rfl rfl ?_
  refine Ie.nil ?_
  refine Ne.seq ?_
  refine Ce.unroll ?_
  refine Ce.seq ?_
  refine Ce.region ?_
  refine Ie.p rfl rfl rfl rfl ?_
  refine Ie.nil ?_
  refine Ne.seq ?_
  refine Ce.seq ?_
  refine Ce.cond_true rfl ?_
  refine Ce.skip ?_
  refine Ne.seq ?_
  refine Ce.seq ?_
  refine Ce.block ?_
  refine Ce.seq ?_
  refine Ce.region ?_
  refine Ie.p rfl rfl rfl rfl ?_
  refine Ie.p (v := .int .i64 2) rfl rfl rfl (by kernel_rfl) ?_
  refine Ie.p rfl rfl rfl rfl ?_
  refine Ie.p rfl rfl rfl rfl ?_
  refine Ie.nil ?_
  refine Ne.seq ?_
  refine Ce.seq ?_
  refine Ce.region ?_
  refine Ie.p rfl rfl rfl rfl ?_
  refine Ie.p rfl rfl rfl rfl ?_
  refine Ie.p rfl rfl rfl rfl ?_
  refine Ie.nil ?_
  refine Ne.seq ?_
  refine Ce.cond_true rfl ?_
  refine Ce.seq ?_
  refine Ce.region ?_
  refine Ie.p rfl rfl rfl rfl ?_
  refine Ie.p rfl rfl rfl rfl ?_
  refine Ie.p rfl rfl rfl rfl ?_
  refine Ie.nil ?_
  refine Ne.seq ?_
  refine Ce.ret ?_
  refine Re.blk ?_
  refine Re.seq ?_
  refine Re.seq ?_
  refine Re.blk ?_
  refine Re.seq ?_
  exact Re.end_ rfl rfl (fun m hm => ⟨rfl, hm.ext⟩)

theorem arithmetic_3 {m : AW} (hm : m.lo ≤ m.next) : Fc Tryz.prog 51 [.int .i64 3] m fun v m' => v = .tuple ⟨[.int .i64 3, .bool true]⟩ ∧ Ext m m' := by
  refine Fc.body (c := _) Tryz.func51 rfl rfl rfl rfl hm ?_
  refine Ce.seq ?_
  refine Ce.region ?_
  refine Ie.p rfl rfl rfl rfl ?_
  refine Ie.p rfl rfl rfl rfl ?_
  refine Ie.nil ?_
  refine Ne.seq ?_
  refine Ce.seq ?_
  refine Ce.seq ?_
  refine Ce.region ?_
  refine Ie.p (v := .agg ⟨[.int .i64 0, .int .i64 1, .int .i64 2, .int .i64 3, .int .i64 4, .int .i64 5, .int .i64 6, .int .i64 7]⟩) rfl rfl rfl (by kernel_rfl) ?_
  refine Ie.p rfl rfl rfl rfl ?_
  refine Ie.nil ?_
  refine Ne.seq ?_
  refine Ce.block ?_
  refine Ce.unroll ?_
  refine Ce.seq ?_
  refine Ce.region ?_
  refine Ie.p rfl rfl rfl rfl ?_
  refine Ie.nil ?_
  refine Ne.seq ?_
  refine Ce.seq ?_
  refine Ce.cond_true rfl ?_
  refine Ce.skip ?_
  refine Ne.seq ?_
  refine Ce.seq ?_
  refine Ce.block ?_
  refine Ce.seq ?_
  refine Ce.region ?_
  refine Ie.p rfl rfl rfl rfl ?_
  refine Ie.p (v := .int .i64 0) rfl rfl rfl (by kernel_rfl) ?_
  refine Ie.p rfl rfl rfl rfl ?_
  refine Ie.p rfl rfl rfl rfl ?_
  refine Ie.nil ?_
  refine Ne.seq ?_
  refine Ce.seq ?_
  refine Ce.region ?_
  refine Ie.p rfl rfl rfl rfl ?_
  refine Ie.p rfl rfl rfl rfl ?_
  refine Ie.p rfl rfl rfl rfl ?_
  refine Ie.nil ?_
  refine Ne.seq ?_
  refine Ce.cond_false rfl ?_
  refine Ce.skip ?_
  refine Ne.blk ?_
  refine Ne.seq ?_
  refine Ce.region ?_
  refine Ie.p rfl rfl rfl rfl ?_
  refine Ie.p rfl rfl rfl rfl ?_
  refine Ie.nil ?_
  refine Ne.seq ?_
  refine Ce.unroll ?_
  refine Ce.seq ?_
  refine Ce.region ?_
  refine Ie.p rfl rfl rfl rfl ?_
  refine Ie.nil ?_
  refine Ne.seq ?_
  refine Ce.seq ?_
  refine Ce.cond_true rfl ?_
  refine Ce.skip ?_
  refine Ne.seq ?_
  refine Ce.seq ?_
  refine Ce.block ?_
  refine Ce.seq ?_
  refine Ce.region ?_
  refine Ie.p rfl rfl rfl rfl ?_
  refine Ie.p (v := .int .i64 1) rfl rfl rfl (by kernel_rfl) ?_
  refine Ie.p rfl rfl rfl rfl ?_
  refine Ie.p rfl rfl rfl rfl ?_
  refine Ie.nil ?_
  refine Ne.seq ?_
  refine Ce.seq ?_
  refine Ce.region ?_
  refine Ie.p rfl rfl rfl rfl ?_
  refine Ie.p rfl rfl rfl rfl ?_
  refine Ie.p rfl rfl rfl rfl ?_
  refine Ie.nil ?_
  refine Ne.seq ?_
  refine Ce.cond_false rfl ?_
  refine Ce.skip ?_
  refine Ne.blk ?_
  refine Ne.seq ?_
  refine Ce.region ?_
  refine Ie.p rfl rfl rfl rfl ?_
  refine Ie.p rfl rfl rfl rfl ?_
  refine Ie.nil ?_
  refine Ne.seq ?_
  refine Ce.unroll ?_
  refine Ce.seq ?_
  refine Ce.region ?_
  refine Ie.p rfl rfl rfl rfl ?_
  refine Ie.nil ?_
  refine Ne.seq ?_
  refine Ce.seq ?_
  refine Ce.cond_true rfl ?_
  refine Ce.skip ?_
  refine Ne.seq ?_
  refine Ce.seq ?_
  refine Ce.block ?_
  refine Ce.seq ?_
  refine Ce.region ?_
  refine Ie.p rfl rfl rfl rfl ?_
  refine Ie.p (v := .int .i64 2) rfl rfl rfl (by kernel_rfl) ?_
  refine Ie.p rfl rfl rfl rfl ?_
  refine Ie.p rfl rfl rfl rfl ?_
  refine Ie.nil ?_
  refine Ne.seq ?_
  refine Ce.seq ?_
  refine Ce.region ?_
  refine Ie.p rfl rfl rfl rfl ?_
  refine Ie.p rfl rfl rfl rfl ?_
  refine Ie.p rfl rfl rfl rfl ?_
  refine Ie.nil ?_
  refine Ne.seq ?_
  refine Ce.cond_false rfl ?_
  refine Ce.skip ?_
  refine Ne.blk ?_
  refine Ne.seq ?_
  refine Ce.region ?_
  refine Ie.p rfl rfl rfl rfl ?_
  refine Ie.p rfl rfl rfl rfl ?_
  refine Ie.nil ?_
  refine Ne.seq ?_
  refine Ce.unroll ?_
  refine Ce.seq ?_
  refine Ce.region ?_
  refine Ie.p rfl rfl rfl rfl ?_
  refine Ie.nil ?_
  refine Ne.seq ?_
  refine Ce.seq ?_
  refine Ce.cond_true rfl ?_
  refine Ce.skip ?_
  refine Ne.seq ?_
  refine Ce.seq ?_
  refine Ce.block ?_
  refine Ce.seq ?_
  refine Ce.region ?_
  refine Ie.p rfl rfl rfl rfl ?_
  refine Ie.p (v := .int .i64 3) rfl rfl rfl (by kernel_rfl) ?_
  refine Ie.p rfl rfl rfl rfl ?_
  refine Ie.p rfl rfl rfl rfl ?_
  refine Ie.nil ?_
  refine Ne.seq ?_
  refine Ce.seq ?_
  refine Ce.region ?_
  refine Ie.p rfl rfl rfl rfl ?_
  refine Ie.p rfl rfl rfl rfl ?_
  refine Ie.p rfl rfl rfl rfl ?_
  refine Ie.nil ?_
  refine Ne.seq ?_
  refine Ce.cond_true rfl ?_
  refine Ce.seq ?_
  refine Ce.region ?_
  refine Ie.p rfl rfl rfl rfl ?_
  refine Ie.p rfl rfl rfl rfl ?_
  refine Ie.p rfl rfl rfl rfl ?_
  refine Ie.nil ?_
  refine Ne.seq ?_
  refine Ce.ret ?_
  refine Re.blk ?_
  refine Re.seq ?_
  refine Re.seq ?_
  refine Re.blk ?_
  refine Re.seq ?_
  exact Re.end_ rfl rfl (fun m hm => ⟨rfl, hm.ext⟩)

theorem arithmetic_4 {m : AW} (hm : m.lo ≤ m.next) : Fc Tryz.prog 51 [.int .i64 4] m fun v m' => v = .tuple ⟨[.int .i64 4, .bool true]⟩ ∧ Ext m m' := by
  refine Fc.body (c := _) Tryz.func51 rfl rfl rfl rfl hm ?_
  refine Ce.seq ?_
  refine Ce.region ?_
  refine Ie.p rfl rfl rfl rfl ?_
  refine Ie.p rfl rfl rfl rfl ?_
  refine Ie.nil ?_
  refine Ne.seq ?_
  refine Ce.seq ?_
  refine Ce.seq ?_
  refine Ce.region ?_
  refine Ie.p (v := .agg ⟨[.int .i64 0, .int .i64 1, .int .i64 2, .int .i64 3, .int .i64 4, .int .i64 5, .int .i64 6, .int .i64 7]⟩) rfl rfl rfl (by kernel_rfl) ?_
  refine Ie.p rfl rfl rfl rfl ?_
  refine Ie.nil ?_
  refine Ne.seq ?_
  refine Ce.block ?_
  refine Ce.unroll ?_
  refine Ce.seq ?_
  refine Ce.region ?_
  refine Ie.p rfl rfl rfl rfl ?_
  refine Ie.nil ?_
  refine Ne.seq ?_
  refine Ce.seq ?_
  refine Ce.cond_true rfl ?_
  refine Ce.skip ?_
  refine Ne.seq ?_
  refine Ce.seq ?_
  refine Ce.block ?_
  refine Ce.seq ?_
  refine Ce.region ?_
  refine Ie.p rfl rfl rfl rfl ?_
  refine Ie.p (v := .int .i64 0) rfl rfl rfl (by kernel_rfl) ?_
  refine Ie.p rfl rfl rfl rfl ?_
  refine Ie.p rfl rfl rfl rfl ?_
  refine Ie.nil ?_
  refine Ne.seq ?_
  refine Ce.seq ?_
  refine Ce.region ?_
  refine Ie.p rfl rfl rfl rfl ?_
  refine Ie.p rfl rfl rfl rfl ?_
  refine Ie.p rfl rfl rfl rfl ?_
  refine Ie.nil ?_
  refine Ne.seq ?_
  refine Ce.cond_false rfl ?_
  refine Ce.skip ?_
  refine Ne.blk ?_
  refine Ne.seq ?_
  refine Ce.region ?_
  refine Ie.p rfl rfl rfl rfl ?_
  refine Ie.p rfl rfl rfl rfl ?_
  refine Ie.nil ?_
  refine Ne.seq ?_
  refine Ce.unroll ?_
  refine Ce.seq ?_
  refine Ce.region ?_
  refine Ie.p rfl rfl rfl rfl ?_
  refine Ie.nil ?_
  refine Ne.seq ?_
  refine Ce.seq ?_
  refine Ce.cond_true rfl ?_
  refine Ce.skip ?_
  refine Ne.seq ?_
  refine Ce.seq ?_
  refine Ce.block ?_
  refine Ce.seq ?_
  refine Ce.region ?_
  refine Ie.p rfl rfl rfl rfl ?_
  refine Ie.p (v := .int .i64 1) rfl rfl rfl (by kernel_rfl) ?_
  refine Ie.p rfl rfl rfl rfl ?_
  refine Ie.p rfl rfl rfl rfl ?_
  refine Ie.nil ?_
  refine Ne.seq ?_
  refine Ce.seq ?_
  refine Ce.region ?_
  refine Ie.p rfl rfl rfl rfl ?_
  refine Ie.p rfl rfl rfl rfl ?_
  refine Ie.p rfl rfl rfl rfl ?_
  refine Ie.nil ?_
  refine Ne.seq ?_
  refine Ce.cond_false rfl ?_
  refine Ce.skip ?_
  refine Ne.blk ?_
  refine Ne.seq ?_
  refine Ce.region ?_
  refine Ie.p rfl rfl rfl rfl ?_
  refine Ie.p rfl rfl rfl rfl ?_
  refine Ie.nil ?_
  refine Ne.seq ?_
  refine Ce.unroll ?_
  refine Ce.seq ?_
  refine Ce.region ?_
  refine Ie.p rfl rfl rfl rfl ?_
  refine Ie.nil ?_
  refine Ne.seq ?_
  refine Ce.seq ?_
  refine Ce.cond_true rfl ?_
  refine Ce.skip ?_
  refine Ne.seq ?_
  refine Ce.seq ?_
  refine Ce.block ?_
  refine Ce.seq ?_
  refine Ce.region ?_
  refine Ie.p rfl rfl rfl rfl ?_
  refine Ie.p (v := .int .i64 2) rfl rfl rfl (by kernel_rfl) ?_
  refine Ie.p rfl rfl rfl rfl ?_
  refine Ie.p rfl rfl rfl rfl ?_
  refine Ie.nil ?_
  refine Ne.seq ?_
  refine Ce.seq ?_
  refine Ce.region ?_
  refine Ie.p rfl rfl rfl rfl ?_
  refine Ie.p rfl rfl rfl rfl ?_
  refine Ie.p rfl rfl rfl rfl ?_
  refine Ie.nil ?_
  refine Ne.seq ?_
  refine Ce.cond_false rfl ?_
  refine Ce.skip ?_
  refine Ne.blk ?_
  refine Ne.seq ?_
  refine Ce.region ?_
  refine Ie.p rfl rfl rfl rfl ?_
  refine Ie.p rfl rfl rfl rfl ?_
  refine Ie.nil ?_
  refine Ne.seq ?_
  refine Ce.unroll ?_
  refine Ce.seq ?_
  refine Ce.region ?_
  refine Ie.p rfl rfl rfl rfl ?_
  refine Ie.nil ?_
  refine Ne.seq ?_
  refine Ce.seq ?_
  refine Ce.cond_true rfl ?_
  refine Ce.skip ?_
  refine Ne.seq ?_
  refine Ce.seq ?_
  refine Ce.block ?_
  refine Ce.seq ?_
  refine Ce.region ?_
  refine Ie.p rfl rfl rfl rfl ?_
  refine Ie.p (v := .int .i64 3) rfl rfl rfl (by kernel_rfl) ?_
  refine Ie.p rfl rfl rfl rfl ?_
  refine Ie.p rfl rfl rfl rfl ?_
  refine Ie.nil ?_
  refine Ne.seq ?_
  refine Ce.seq ?_
  refine Ce.region ?_
  refine Ie.p rfl rfl rfl rfl ?_
  refine Ie.p rfl rfl rfl rfl ?_
  refine Ie.p rfl rfl rfl rfl ?_
  refine Ie.nil ?_
  refine Ne.seq ?_
  refine Ce.cond_false rfl ?_
  refine Ce.skip ?_
  refine Ne.blk ?_
  refine Ne.seq ?_
  refine Ce.region ?_
  refine Ie.p rfl rfl rfl rfl ?_
  refine Ie.p rfl rfl rfl rfl ?_
  refine Ie.nil ?_
  refine Ne.seq ?_
  refine Ce.unroll ?_
  refine Ce.seq ?_
  refine Ce.region ?_
  refine Ie.p rfl rfl rfl rfl ?_
  refine Ie.nil ?_
  refine Ne.seq ?_
  refine Ce.seq ?_
  refine Ce.cond_true rfl ?_
  refine Ce.skip ?_
  refine Ne.seq ?_
  refine Ce.seq ?_
  refine Ce.block ?_
  refine Ce.seq ?_
  refine Ce.region ?_
  refine Ie.p rfl rfl rfl rfl ?_
  refine Ie.p (v := .int .i64 4) rfl rfl rfl (by kernel_rfl) ?_
  refine Ie.p rfl rfl rfl rfl ?_
  refine Ie.p rfl rfl rfl rfl ?_
  refine Ie.nil ?_
  refine Ne.seq ?_
  refine Ce.seq ?_
  refine Ce.region ?_
  refine Ie.p rfl rfl rfl rfl ?_
  refine Ie.p rfl rfl rfl rfl ?_
  refine Ie.p rfl rfl rfl rfl ?_
  refine Ie.nil ?_
  refine Ne.seq ?_
  refine Ce.cond_true rfl ?_
  refine Ce.seq ?_
  refine Ce.region ?_
  refine Ie.p rfl rfl rfl rfl ?_
  refine Ie.p rfl rfl rfl rfl ?_
  refine Ie.p rfl rfl rfl rfl ?_
  refine Ie.nil ?_
  refine Ne.seq ?_
  refine Ce.ret ?_
  refine Re.blk ?_
  refine Re.seq ?_
  refine Re.seq ?_
  refine Re.blk ?_
  refine Re.seq ?_
  exact Re.end_ rfl rfl (fun m hm => ⟨rfl, hm.ext⟩)

theorem Wrap_u8 {n : Int} {m : AW} (hm : m.lo ≤ m.next) (h : Fit .i64 n) : Fc Tryz.prog 20 [.int .i64 1, .int .i64 n] m fun v m' => v = .tuple ⟨[.int .i64 (wr .u8 n), .int .i64 0]⟩ ∧ Ext m m' := by
  refine Fc.body (c := _) Tryz.func20 rfl rfl rfl rfl hm ?_
  refine Ce.seq ?_
  refine Ce.region ?_
  refine Ie.p rfl rfl rfl rfl ?_
  refine Ie.p rfl rfl rfl rfl ?_
  refine Ie.nil ?_
  refine Ne.seq ?_
  refine Ce.seq ?_
  refine Ce.region ?_
  refine Ie.p rfl rfl rfl rfl ?_
  refine Ie.calln _ _ _ rfl rfl rfl rfl rfl rfl (fun m hm => of_u8 hm.lole) (fun x hx => ?_)
  clear hx
  refine Ie.p rfl rfl rfl rfl ?_
  refine Ie.p rfl rfl rfl rfl ?_
  refine Ie.p rfl rfl rfl rfl ?_
  refine Ie.alloc rfl rfl rfl rfl zr59 (fun b6 hb6 => ?_)
  refine Ie.store rfl rfl rfl rfl rfl sz59 rfl (by first | exact .head | exact .tail .head | exact .tail (.tail .head) | exact .tail (.tail (.tail .head))) rfl ?_
  refine Ie.p rfl rfl rfl rfl ?_
  refine Ie.nil ?_
  refine Ne.seq ?_
  refine Ce.seq ?_
  refine Ce.seq ?_
  refine Ce.region ?_
  refine Ie.p rfl rfl rfl rfl ?_
  refine Ie.p rfl rfl rfl rfl ?_
  refine Ie.nil ?_
  refine Ne.seq ?_
  refine Ce.cond_false rfl ?_
  refine Ce.skip ?_
  refine Ne.seq ?_
  refine Ce.seq ?_
  refine Ce.region ?_
  refine Ie.fieldAddr rfl rfl rfl rfl rfl fa59_0 ?_
  refine Ie.load rfl rfl rfl rfl rfl ag54 (by first | exact .head | exact .tail .head | exact .tail (.tail .head) | exact .tail (.tail (.tail .head)) | exact .base ‹_› ‹_› (by simp)) rfl ?_
  refine Ie.p rfl rfl rfl rfl ?_
  refine Ie.call _ rfl rfl rfl rfl rfl rfl (fun m hm => cl_u8_1 hm.lole h) ?_
  refine Ie.p rfl rfl rfl rfl ?_
  refine Ie.p rfl rfl rfl rfl ?_
  refine Ie.nil ?_
  refine Ne.seq ?_
  refine Ce.ret ?_
  exact Re.end_ rfl rfl (fun m hm => ⟨rfl, hm.ext⟩)

theorem Arith_u8_0 {a b : Int} {m : AW} (hm : m.lo ≤ m.next) (ha : Fit .i64 a) (hb : Fit .i64 b) : Fc Tryz.prog 19 [.int .i64 1, .int .i64 0, .int .i64 a, .int .i64 b] m fun v m' => v = .tuple ⟨[.int .i64 (wr .u8 (wr .u8 a + wr .u8 b)), .int .i64 0]⟩ ∧ Ext m m' := by
  refine Fc.body (c := _) Tryz.func19 rfl rfl rfl rfl hm ?_
  refine Ce.seq ?_
  refine Ce.region ?_
  refine Ie.p rfl rfl rfl rfl ?_
  refine Ie.p rfl rfl rfl rfl ?_
  refine Ie.nil ?_
  refine Ne.seq ?_
  refine Ce.seq ?_
  refine Ce.region ?_
  refine Ie.p rfl rfl rfl rfl ?_
  refine Ie.calln _ _ _ rfl rfl rfl rfl rfl rfl (fun m hm => of_u8 hm.lole) (fun x hx => ?_)
  clear hx
  refine Ie.p rfl rfl rfl rfl ?_
  refine Ie.p rfl rfl rfl rfl ?_
  refine Ie.p rfl rfl rfl rfl ?_
  refine Ie.alloc rfl rfl rfl rfl zr59 (fun b10 hb10 => ?_)
  refine Ie.store rfl rfl rfl rfl rfl sz59 rfl (by first | exact .head | exact .tail .head | exact .tail (.tail .head) | exact .tail (.tail (.tail .head))) rfl ?_
  refine Ie.p rfl rfl rfl rfl ?_
  refine Ie.nil ?_
  refine Ne.seq ?_
  refine Ce.seq ?_
  refine Ce.seq ?_
  refine Ce.region ?_
  refine Ie.p rfl rfl rfl rfl ?_
  refine Ie.p rfl rfl rfl rfl ?_
  refine Ie.nil ?_
  refine Ne.seq ?_
  refine Ce.cond_false rfl ?_
  refine Ce.skip ?_
  refine Ne.seq ?_
  refine Ce.seq ?_
  refine Ce.block ?_
  refine Ce.seq ?_
  refine Ce.region ?_
  refine Ie.p rfl rfl rfl rfl ?_
  refine Ie.p rfl rfl rfl rfl ?_
  refine Ie.p rfl rfl rfl rfl ?_
  refine Ie.off rfl rfl rfl ?_
  refine Ie.off rfl rfl rfl ?_
  refine Ie.off rfl rfl rfl ?_
  refine Ie.p rfl rfl rfl rfl ?_
  refine Ie.p rfl rfl rfl rfl ?_
  refine Ie.nil ?_
  refine Ne.seq ?_
  refine Ce.cond_false rfl ?_
  refine Ce.seq ?_
  refine Ce.region ?_
  refine Ie.p rfl rfl rfl rfl ?_
  refine Ie.p rfl rfl rfl rfl ?_
  refine Ie.p rfl rfl rfl rfl ?_
  refine Ie.off rfl rfl rfl ?_
  refine Ie.off rfl rfl rfl ?_
  refine Ie.off rfl rfl rfl ?_
  refine Ie.p rfl rfl rfl rfl ?_
  refine Ie.p rfl rfl rfl rfl ?_
  refine Ie.nil ?_
  refine Ne.seq ?_
  refine Ce.cond_false rfl ?_
  refine Ce.skip ?_
  refine Ne.blk ?_
  refine Ne.seq ?_
  refine Ce.seq ?_
  refine Ce.region ?_
  refine Ie.p rfl rfl rfl rfl ?_
  refine Ie.call _ rfl rfl rfl rfl rfl rfl (fun m hm => arithmetic_0 hm.lole) ?_
  refine Ie.p rfl rfl rfl rfl ?_
  refine Ie.p rfl rfl rfl rfl ?_
  refine Ie.p rfl rfl rfl rfl ?_
  refine Ie.p rfl rfl rfl rfl ?_
  refine Ie.p rfl rfl rfl rfl ?_
  refine Ie.nil ?_
  refine Ne.seq ?_
  refine Ce.seq ?_
  refine Ce.seq ?_
  refine Ce.region ?_
  refine Ie.p rfl rfl rfl rfl ?_
  refine Ie.p rfl rfl rfl rfl ?_
  refine Ie.p rfl rfl rfl rfl ?_
  refine Ie.p rfl rfl rfl rfl ?_
  refine Ie.fieldAddr rfl rfl rfl rfl rfl fa59_1 ?_
  refine Ie.indexArr rfl rfl rfl rfl Tryz.underlying56 sz55 rfl rfl (by decide) ?_
  refine Ie.load rfl rfl rfl rfl rfl ag55 (by first | exact .head | exact .tail .head | exact .tail (.tail .head) | exact .tail (.tail (.tail .head)) | exact .base ‹_› ‹_› (by simp)) rfl ?_
  refine Ie.bin (v := .bool false) rfl rfl rfl rfl rfl rfl (by kernel_rfl) ?_
  refine Ie.p rfl rfl rfl rfl ?_
  refine Ie.nil ?_
  refine Ne.seq ?_
  refine Ce.cond_false rfl ?_
  refine Ce.skip ?_
  refine Ne.seq ?_
  refine Ce.seq ?_
  refine Ce.draw [⟨0, .p, true, true, 0⟩, ⟨1, .l, true, true, 1⟩, ⟨2, .p, true, true, 0⟩, ⟨3, .h, true, true, 7⟩, ⟨4, .p, false, false, 0⟩, ⟨5, .l, false, false, 16⟩, ⟨6, .p, false, false, 0⟩, ⟨7, .h, true, true, 127⟩, ⟨8, .p, true, true, 255⟩, ⟨9, .p, true, true, 511⟩] (by kernel_rfl) (by kernel_rfl) (fun base hbase hB => ?_)
  refine De.fieldAddr rfl rfl rfl rfl rfl rfl fa59_0 ?_
  refine De.load rfl rfl rfl rfl rfl rfl rfl rfl ag54 (by first | exact .head | exact .tail .head | exact .tail (.tail .head) | exact .tail (.tail (.tail .head)) | exact .base ‹_› ‹_› (by simp)) rfl ?_
  refine De.p rfl rfl rfl rfl rfl ?_
  refine De.call _ rfl rfl rfl rfl rfl rfl rfl rfl rfl (fun m hm => cl_u8_1 hm.lole ha) ?_
  refine De.fieldAddr rfl rfl rfl rfl rfl rfl fa59_0 ?_
  refine De.loadOld rfl rfl rfl rfl rfl rfl ag54 (by first | exact .head | exact .tail .head | exact .tail (.tail .head) | exact .tail (.tail (.tail .head)) | exact .base ‹_› ‹_› (by simp)) rfl (by first | exact hB _ _ (.head _) | exact hB _ _ (.tail _ (.head _)) | exact hB _ _ (.tail _ (.tail _ (.head _))) | exact hB _ _ (.tail _ (.tail _ (.tail _ (.head _)))) | exact Nat.lt_of_lt_of_le ‹_› hbase) (fun _ => ?_)
  refine De.p rfl rfl rfl rfl rfl ?_
  refine De.call _ rfl rfl rfl rfl rfl rfl rfl rfl rfl (fun m hm => cl_u8_1 hm.lole hb) ?_
  refine De.p rfl rfl rfl rfl rfl ?_
  refine De.p rfl rfl rfl rfl rfl ?_
  refine De.nil ?_
  refine Ne.seq ?_
  refine Ce.seq ?_
  refine Ce.seq ?_
  refine Ce.region ?_
  refine Ie.p rfl rfl rfl rfl ?_
  refine Ie.p rfl rfl rfl rfl ?_
  refine Ie.p rfl rfl rfl rfl ?_
  refine Ie.p rfl rfl rfl rfl ?_
  refine Ie.p rfl rfl rfl rfl ?_
  refine Ie.p rfl rfl rfl rfl ?_
  refine Ie.p rfl rfl rfl rfl ?_
  refine Ie.off rfl rfl rfl ?_
  refine Ie.off rfl rfl rfl ?_
  refine Ie.p rfl rfl rfl rfl ?_
  refine Ie.p rfl rfl rfl rfl ?_
  refine Ie.off rfl rfl rfl ?_
  refine Ie.off rfl rfl rfl ?_
  refine Ie.p rfl rfl rfl rfl ?_
  refine Ie.nil ?_
  refine Ne.seq ?_
  refine Ce.cond_false rfl ?_
  refine Ce.skip ?_
  refine Ne.seq ?_
  refine Ce.seq ?_
  refine Ce.region ?_
  refine Ie.p rfl rfl rfl rfl ?_
  refine Ie.fieldAddr rfl rfl rfl rfl rfl fa59_1 ?_
  refine Ie.indexArr rfl rfl rfl rfl Tryz.underlying56 sz55 rfl rfl (by decide) ?_
  refine Ie.load rfl rfl rfl rfl rfl ag55 (by first | exact .head | exact .tail .head | exact .tail (.tail .head) | exact .tail (.tail (.tail .head)) | exact .base ‹_› ‹_› (by simp)) rfl ?_
  refine Ie.p rfl rfl rfl rfl ?_
  refine Ie.p rfl rfl rfl rfl ?_
  refine Ie.call _ rfl rfl rfl rfl rfl rfl (fun m hm => cl_u8_2 hm.lole (Fit.wr .u8 a) (Fit.wr .u8 b)) ?_
  refine Ie.p rfl rfl rfl rfl ?_
  refine Ie.p rfl rfl rfl rfl ?_
  refine Ie.nil ?_
  refine Ne.seq ?_
  refine Ce.ret ?_
  exact Re.end_ rfl rfl (fun m hm => ⟨rfl, hm.ext⟩)

theorem Arith_u8_1 {a b : Int} {m : AW} (hm : m.lo ≤ m.next) (ha : Fit .i64 a) (hb : Fit .i64 b) : Fc Tryz.prog 19 [.int .i64 1, .int .i64 1, .int .i64 a, .int .i64 b] m fun v m' => v = .tuple ⟨[.int .i64 (wr .u8 (wr .u8 a - wr .u8 b)), .int .i64 0]⟩ ∧ Ext m m' := by
  refine Fc.body (c := _) Tryz.func19 rfl rfl rfl rfl hm ?_
  refine Ce.seq ?_
  refine Ce.region ?_
  refine Ie.p rfl rfl rfl rfl ?_
  refine Ie.p rfl rfl rfl rfl ?_
  refine Ie.nil ?_
  refine Ne.seq ?_
  refine Ce.seq ?_
  refine Ce.region ?_
  refine Ie.p rfl rfl rfl rfl ?_
  refine Ie.calln _ _ _ rfl rfl rfl rfl rfl rfl (fun m hm => of_u8 hm.lole) (fun x hx => ?_)
  clear hx
  refine Ie.p rfl rfl rfl rfl ?_
  refine Ie.p rfl rfl rfl rfl ?_
  refine Ie.p rfl rfl rfl rfl ?_
  refine Ie.alloc rfl rfl rfl rfl zr59 (fun b10 hb10 => ?_)
  refine Ie.store rfl rfl rfl rfl rfl sz59 rfl (by first | exact .head | exact .tail .head | exact .tail (.tail .head) | exact .tail (.tail (.tail .head))) rfl ?_
  refine Ie.p rfl rfl rfl rfl ?_
  refine Ie.nil ?_
  refine Ne.seq ?_
  refine Ce.seq ?_
  refine Ce.seq ?_
  refine Ce.region ?_
  refine Ie.p rfl rfl rfl rfl ?_
  refine Ie.p rfl rfl rfl rfl ?_
  refine Ie.nil ?_
  refine Ne.seq ?_
  refine Ce.cond_false rfl ?_
  refine Ce.skip ?_
  refine Ne.seq ?_
  refine Ce.seq ?_
  refine Ce.block ?_
  refine Ce.seq ?_
  refine Ce.region ?_
  refine Ie.p rfl rfl rfl rfl ?_
  refine Ie.p rfl rfl rfl rfl ?_
  refine Ie.p rfl rfl rfl rfl ?_
  refine Ie.off rfl rfl rfl ?_
  refine Ie.off rfl rfl rfl ?_
  refine Ie.off rfl rfl rfl ?_
  refine Ie.p rfl rfl rfl rfl ?_
  refine Ie.p rfl rfl rfl rfl ?_
  refine Ie.nil ?_
  refine Ne.seq ?_
  refine Ce.cond_false rfl ?_
  refine Ce.seq ?_
  refine Ce.region ?_
  refine Ie.p rfl rfl rfl rfl ?_
  refine Ie.p rfl rfl rfl rfl ?_
  refine Ie.p rfl rfl rfl rfl ?_
  refine Ie.off rfl rfl rfl ?_
  refine Ie.off rfl rfl rfl ?_
  refine Ie.off rfl rfl rfl ?_
  refine Ie.p rfl rfl rfl rfl ?_
  refine Ie.p rfl rfl rfl rfl ?_
  refine Ie.nil ?_
  refine Ne.seq ?_
  refine Ce.cond_false rfl ?_
  refine Ce.skip ?_
  refine Ne.blk ?_
  refine Ne.seq ?_
  refine Ce.seq ?_
  refine Ce.region ?_
  refine Ie.p rfl rfl rfl rfl ?_
  refine Ie.call _ rfl rfl rfl rfl rfl rfl (fun m hm => arithmetic_1 hm.lole) ?_
  refine Ie.p rfl rfl rfl rfl ?_
  refine Ie.p rfl rfl rfl rfl ?_
  refine Ie.p rfl rfl rfl rfl ?_
  refine Ie.p rfl rfl rfl rfl ?_
  refine Ie.p rfl rfl rfl rfl ?_
  refine Ie.nil ?_
  refine Ne.seq ?_
  refine Ce.seq ?_
  refine Ce.seq ?_
  refine Ce.region ?_
  refine Ie.p rfl rfl rfl rfl ?_
  refine Ie.p rfl rfl rfl rfl ?_
  refine Ie.p rfl rfl rfl rfl ?_
  refine Ie.p rfl rfl rfl rfl ?_
  refine Ie.fieldAddr rfl rfl rfl rfl rfl fa59_1 ?_
  refine Ie.indexArr rfl rfl rfl rfl Tryz.underlying56 sz55 rfl rfl (by decide) ?_
  refine Ie.load rfl rfl rfl rfl rfl ag55 (by first | exact .head | exact .tail .head | exact .tail (.tail .head) | exact .tail (.tail (.tail .head)) | exact .base ‹_› ‹_› (by simp)) rfl ?_
  refine Ie.bin (v := .bool false) rfl rfl rfl rfl rfl rfl (by kernel_rfl) ?_
  refine Ie.p rfl rfl rfl rfl ?_
  refine Ie.nil ?_
  refine Ne.seq ?_
  refine Ce.cond_false rfl ?_
  refine Ce.skip ?_
  refine Ne.seq ?_
  refine Ce.seq ?_
  refine Ce.draw [⟨0, .p, true, true, 0⟩, ⟨1, .l, true, true, 1⟩, ⟨2, .p, true, true, 0⟩, ⟨3, .h, true, true, 7⟩, ⟨4, .p, false, false, 0⟩, ⟨5, .l, false, false, 16⟩, ⟨6, .p, false, false, 0⟩, ⟨7, .h, true, true, 127⟩, ⟨8, .p, true, true, 255⟩, ⟨9, .p, true, true, 511⟩] (by kernel_rfl) (by kernel_rfl) (fun base hbase hB => ?_)
  refine De.fieldAddr rfl rfl rfl rfl rfl rfl fa59_0 ?_
  refine De.load rfl rfl rfl rfl rfl rfl rfl rfl ag54 (by first | exact .head | exact .tail .head | exact .tail (.tail .head) | exact .tail (.tail (.tail .head)) | exact .base ‹_› ‹_› (by simp)) rfl ?_
  refine De.p rfl rfl rfl rfl rfl ?_
  refine De.call _ rfl rfl rfl rfl rfl rfl rfl rfl rfl (fun m hm => cl_u8_1 hm.lole ha) ?_
  refine De.fieldAddr rfl rfl rfl rfl rfl rfl fa59_0 ?_
  refine De.loadOld rfl rfl rfl rfl rfl rfl ag54 (by first | exact .head | exact .tail .head | exact .tail (.tail .head) | exact .tail (.tail (.tail .head)) | exact .base ‹_› ‹_› (by simp)) rfl (by first | exact hB _ _ (.head _) | exact hB _ _ (.tail _ (.head _)) | exact hB _ _ (.tail _ (.tail _ (.head _))) | exact hB _ _ (.tail _ (.tail _ (.tail _ (.head _)))) | exact Nat.lt_of_lt_of_le ‹_› hbase) (fun _ => ?_)
  refine De.p rfl rfl rfl rfl rfl ?_
  refine De.call _ rfl rfl rfl rfl rfl rfl rfl rfl rfl (fun m hm => cl_u8_1 hm.lole hb) ?_
  refine De.p rfl rfl rfl rfl rfl ?_
  refine De.p rfl rfl rfl rfl rfl ?_
  refine De.nil ?_
  refine Ne.seq ?_
  refine Ce.seq ?_
  refine Ce.seq ?_
  refine Ce.region ?_
  refine Ie.p rfl rfl rfl rfl ?_
  refine Ie.p rfl rfl rfl rfl ?_
  refine Ie.p rfl rfl rfl rfl ?_
  refine Ie.p rfl rfl rfl rfl ?_
  refine Ie.p rfl rfl rfl rfl ?_
  refine Ie.p rfl rfl rfl rfl ?_
  refine Ie.p rfl rfl rfl rfl ?_
  refine Ie.off rfl rfl rfl ?_
  refine Ie.off rfl rfl rfl ?_
  refine Ie.p rfl rfl rfl rfl ?_
  refine Ie.p rfl rfl rfl rfl ?_
  refine Ie.off rfl rfl rfl ?_
  refine Ie.off rfl rfl rfl ?_
  refine Ie.p rfl rfl rfl rfl ?_
  refine Ie.nil ?_
  refine Ne.seq ?_
  refine Ce.cond_false rfl ?_
  refine Ce.skip ?_
  refine Ne.seq ?_
  refine Ce.seq ?_
  refine Ce.region ?_
  refine Ie.p rfl rfl rfl rfl ?_
  refine Ie.fieldAddr rfl rfl rfl rfl rfl fa59_1 ?_
  refine Ie.indexArr rfl rfl rfl rfl Tryz.underlying56 sz55 rfl rfl (by decide) ?_
  refine Ie.load rfl rfl rfl rfl rfl ag55 (by first | exact .head | exact .tail .head | exact .tail (.tail .head) | exact .tail (.tail (.tail .head)) | exact .base ‹_› ‹_› (by simp)) rfl ?_
  refine Ie.p rfl rfl rfl rfl ?_
  refine Ie.p rfl rfl rfl rfl ?_
  refine Ie.call _ rfl rfl rfl rfl rfl rfl (fun m hm => cl_u8_3 hm.lole (Fit.wr .u8 a) (Fit.wr .u8 b)) ?_
  refine Ie.p rfl rfl rfl rfl ?_
  refine Ie.p rfl rfl rfl rfl ?_
  refine Ie.nil ?_
  refine Ne.seq ?_
  refine Ce.ret ?_
  exact Re.end_ rfl rfl (fun m hm => ⟨rfl, hm.ext⟩)

theorem Arith_u8_2 {a b : Int} {m : AW} (hm : m.lo ≤ m.next) (ha : Fit .i64 a) (hb : Fit .i64 b) : Fc Tryz.prog 19 [.int .i64 1, .int .i64 2, .int .i64 a, .int .i64 b] m fun v m' => v = .tuple ⟨[.int .i64 (wr .u8 (wr .u8 a * wr .u8 b)), .int .i64 0]⟩ ∧ Ext m m' := by
  refine Fc.body (c := _) Tryz.func19 rfl rfl rfl rfl hm ?_
  refine Ce.seq ?_
  refine Ce.region ?_
  refine Ie.p rfl rfl rfl rfl ?_
  refine Ie.p rfl rfl rfl rfl ?_
  refine Ie.nil ?_
  refine Ne.seq ?_
  refine Ce.seq ?_
  refine Ce.region ?_
  refine Ie.p rfl rfl rfl rfl ?_
  refine Ie.calln _ _ _ rfl rfl rfl rfl rfl rfl (fun m hm => of_u8 hm.lole) (fun x hx => ?_)
  clear hx
  refine Ie.p rfl rfl rfl rfl ?_
  refine Ie.p rfl rfl rfl rfl ?_
  refine Ie.p rfl rfl rfl rfl ?_
  refine Ie.alloc rfl rfl rfl rfl zr59 (fun b10 hb10 => ?_)
  refine Ie.store rfl rfl rfl rfl rfl sz59 rfl (by first | exact .head | exact .tail .head | exact .tail (.tail .head) | exact .tail (.tail (.tail .head))) rfl ?_
  refine Ie.p rfl rfl rfl rfl ?_
  refine Ie.nil ?_
  refine Ne.seq ?_
  refine Ce.seq ?_
  refine Ce.seq ?_
  refine Ce.region ?_
  refine Ie.p rfl rfl rfl rfl ?_
  refine Ie.p rfl rfl rfl rfl ?_
  refine Ie.nil ?_
  refine Ne.seq ?_
  refine Ce.cond_false rfl ?_
  refine Ce.skip ?_
  refine Ne.seq ?_
  refine Ce.seq ?_
  refine Ce.block ?_
  refine Ce.seq ?_
  refine Ce.region ?_
  refine Ie.p rfl rfl rfl rfl ?_
  refine Ie.p rfl rfl rfl rfl ?_
  refine Ie.p rfl rfl rfl rfl ?_
  refine Ie.off rfl rfl rfl ?_
  refine Ie.off rfl rfl rfl ?_
  refine Ie.off rfl rfl rfl ?_
  refine Ie.p rfl rfl rfl rfl ?_
  refine Ie.p rfl rfl rfl rfl ?_
  refine Ie.nil ?_
  refine Ne.seq ?_
  refine Ce.cond_false rfl ?_
  refine Ce.seq ?_
  refine Ce.region ?_
  refine Ie.p rfl rfl rfl rfl ?_
  refine Ie.p rfl rfl rfl rfl ?_
  refine Ie.p rfl rfl rfl rfl ?_
  refine Ie.off rfl rfl rfl ?_
  refine Ie.off rfl rfl rfl ?_
  refine Ie.off rfl rfl rfl ?_
  refine Ie.p rfl rfl rfl rfl ?_
  refine Ie.p rfl rfl rfl rfl ?_
  refine Ie.nil ?_
  refine Ne.seq ?_
  refine Ce.cond_false rfl ?_
  refine Ce.skip ?_
  refine Ne.blk ?_
  refine Ne.seq ?_
  refine Ce.seq ?_
  refine Ce.region ?_
  refine Ie.p rfl rfl rfl rfl ?_
  refine Ie.call _ rfl rfl rfl rfl rfl rfl (fun m hm => arithmetic_2 hm.lole) ?_
  refine Ie.p rfl rfl rfl rfl ?_
  refine Ie.p rfl rfl rfl rfl ?_
  refine Ie.p rfl rfl rfl rfl ?_
  refine Ie.p rfl rfl rfl rfl ?_
  refine Ie.p rfl rfl rfl rfl ?_
  refine Ie.nil ?_
  refine Ne.seq ?_
  refine Ce.seq ?_
  refine Ce.seq ?_
  refine Ce.region ?_
  refine Ie.p rfl rfl rfl rfl ?_
  refine Ie.p rfl rfl rfl rfl ?_
  refine Ie.p rfl rfl rfl rfl ?_
  refine Ie.p rfl rfl rfl rfl ?_
  refine Ie.fieldAddr rfl rfl rfl rfl rfl fa59_1 ?_
  refine Ie.indexArr rfl rfl rfl rfl Tryz.underlying56 sz55 rfl rfl (by decide) ?_
  refine Ie.load rfl rfl rfl rfl rfl ag55 (by first | exact .head | exact .tail .head | exact .tail (.tail .head) | exact .tail (.tail (.tail .head)) | exact .base ‹_› ‹_› (by simp)) rfl ?_
  refine Ie.bin (v := .bool false) rfl rfl rfl rfl rfl rfl (by kernel_rfl) ?_
  refine Ie.p rfl rfl rfl rfl ?_
  refine Ie.nil ?_
  refine Ne.seq ?_
  refine Ce.cond_false rfl ?_
  refine Ce.skip ?_
  refine Ne.seq ?_
  refine Ce.seq ?_
  refine Ce.draw [⟨0, .p, true, true, 0⟩, ⟨1, .l, true, true, 1⟩, ⟨2, .p, true, true, 0⟩, ⟨3, .h, true, true, 7⟩, ⟨4, .p, false, false, 0⟩, ⟨5, .l, false, false, 16⟩, ⟨6, .p, false, false, 0⟩, ⟨7, .h, true, true, 127⟩, ⟨8, .p, true, true, 255⟩, ⟨9, .p, true, true, 511⟩] (by kernel_rfl) (by kernel_rfl) (fun base hbase hB => ?_)
  refine De.fieldAddr rfl rfl rfl rfl rfl rfl fa59_0 ?_
  refine De.load rfl rfl rfl rfl rfl rfl rfl rfl ag54 (by first | exact .head | exact .tail .head | exact .tail (.tail .head) | exact .tail (.tail (.tail .head)) | exact .base ‹_› ‹_› (by simp)) rfl ?_
  refine De.p rfl rfl rfl rfl rfl ?_
  refine De.call _ rfl rfl rfl rfl rfl rfl rfl rfl rfl (fun m hm => cl_u8_1 hm.lole ha) ?_
  refine De.fieldAddr rfl rfl rfl rfl rfl rfl fa59_0 ?_
  refine De.loadOld rfl rfl rfl rfl rfl rfl ag54 (by first | exact .head | exact .tail .head | exact .tail (.tail .head) | exact .tail (.tail (.tail .head)) | exact .base ‹_› ‹_› (by simp)) rfl (by first | exact hB _ _ (.head _) | exact hB _ _ (.tail _ (.head _)) | exact hB _ _ (.tail _ (.tail _ (.head _))) | exact hB _ _ (.tail _ (.tail _ (.tail _ (.head _)))) | exact Nat.lt_of_lt_of_le ‹_› hbase) (fun _ => ?_)
  refine De.p rfl rfl rfl rfl rfl ?_
  refine De.call _ rfl rfl rfl rfl rfl rfl rfl rfl rfl (fun m hm => cl_u8_1 hm.lole hb) ?_
  refine De.p rfl rfl rfl rfl rfl ?_
  refine De.p rfl rfl rfl rfl rfl ?_
  refine De.nil ?_
  refine Ne.seq ?_
  refine Ce.seq ?_
  refine Ce.seq ?_
  refine Ce.region ?_
  refine Ie.p rfl rfl rfl rfl ?_
  refine Ie.p rfl rfl rfl rfl ?_
  refine Ie.p rfl rfl rfl rfl ?_
  refine Ie.p rfl rfl rfl rfl ?_
  refine Ie.p rfl rfl rfl rfl ?_
  refine Ie.p rfl rfl rfl rfl ?_
  refine Ie.p rfl rfl rfl rfl ?_
  refine Ie.off rfl rfl rfl ?_
  refine Ie.off rfl rfl rfl ?_
  refine Ie.p rfl rfl rfl rfl ?_
  refine Ie.p rfl rfl rfl rfl ?_
  refine Ie.off rfl rfl rfl ?_
  refine Ie.off rfl rfl rfl ?_
  refine Ie.p rfl rfl rfl rfl ?_
  refine Ie.nil ?_
  refine Ne.seq ?_
  refine Ce.cond_false rfl ?_
  refine Ce.skip ?_
  refine Ne.seq ?_
  refine Ce.seq ?_
  refine Ce.region ?_
  refine Ie.p rfl rfl rfl rfl ?_
  refine Ie.fieldAddr rfl rfl rfl rfl rfl fa59_1 ?_
  refine Ie.indexArr rfl rfl rfl rfl Tryz.underlying56 sz55 rfl rfl (by decide) ?_
  refine Ie.load rfl rfl rfl rfl rfl ag55 (by first | exact .head | exact .tail .head | exact .tail (.tail .head) | exact .tail (.tail (.tail .head)) | exact .base ‹_› ‹_› (by simp)) rfl ?_
  refine Ie.p rfl rfl rfl rfl ?_
  refine Ie.p rfl rfl rfl rfl ?_
  refine Ie.call _ rfl rfl rfl rfl rfl rfl (fun m hm => cl_u8_4 hm.lole (Fit.wr .u8 a) (Fit.wr .u8 b)) ?_
  refine Ie.p rfl rfl rfl rfl ?_
  refine Ie.p rfl rfl rfl rfl ?_
  refine Ie.nil ?_
  refine Ne.seq ?_
  refine Ce.ret ?_
  exact Re.end_ rfl rfl (fun m hm => ⟨rfl, hm.ext⟩)

theorem Arith_u8_3 {a b : Int} {m : AW} (hm : m.lo ≤ m.next) (ha : Fit .i64 a) (hb : Fit .i64 b) (h0 : wr .u8 b ≠ 0) : Fc Tryz.prog 19 [.int .i64 1, .int .i64 3, .int .i64 a, .int .i64 b] m fun v m' => v = .tuple ⟨[.int .i64 (wr .u8 ((wr .u8 a).tdiv (wr .u8 b))), .int .i64 0]⟩ ∧ Ext m m' := by
  refine Fc.body (c := _) Tryz.func19 rfl rfl rfl rfl hm ?_
  refine Ce.seq ?_
  refine Ce.region ?_
  refine Ie.p rfl rfl rfl rfl ?_
  refine Ie.p rfl rfl rfl rfl ?_
  refine Ie.nil ?_
  refine Ne.seq ?_
  refine Ce.seq ?_
  refine Ce.region ?_
  refine Ie.p rfl rfl rfl rfl ?_
  refine Ie.calln _ _ _ rfl rfl rfl rfl rfl rfl (fun m hm => of_u8 hm.lole) (fun x hx => ?_)
  clear hx
  refine Ie.p rfl rfl rfl rfl ?_
  refine Ie.p rfl rfl rfl rfl ?_
  refine Ie.p rfl rfl rfl rfl ?_
  refine Ie.alloc rfl rfl rfl rfl zr59 (fun b10 hb10 => ?_)
  refine Ie.store rfl rfl rfl rfl rfl sz59 rfl (by first | exact .head | exact .tail .head | exact .tail (.tail .head) | exact .tail (.tail (.tail .head))) rfl ?_
  refine Ie.p rfl rfl rfl rfl ?_
  refine Ie.nil ?_
  refine Ne.seq ?_
  refine Ce.seq ?_
  refine Ce.seq ?_
  refine Ce.region ?_
  refine Ie.p rfl rfl rfl rfl ?_
  refine Ie.p rfl rfl rfl rfl ?_
  refine Ie.nil ?_
  refine Ne.seq ?_
  refine Ce.cond_false rfl ?_
  refine Ce.skip ?_
  refine Ne.seq ?_
  refine Ce.seq ?_
  refine Ce.block ?_
  refine Ce.seq ?_
  refine Ce.region ?_
  refine Ie.p rfl rfl rfl rfl ?_
  refine Ie.p rfl rfl rfl rfl ?_
  refine Ie.p rfl rfl rfl rfl ?_
  refine Ie.off rfl rfl rfl ?_
  refine Ie.off rfl rfl rfl ?_
  refine Ie.off rfl rfl rfl ?_
  refine Ie.p rfl rfl rfl rfl ?_
  refine Ie.p rfl rfl rfl rfl ?_
  refine Ie.nil ?_
  refine Ne.seq ?_
  refine Ce.cond_false rfl ?_
  refine Ce.seq ?_
  refine Ce.region ?_
  refine Ie.p rfl rfl rfl rfl ?_
  refine Ie.p rfl rfl rfl rfl ?_
  refine Ie.p rfl rfl rfl rfl ?_
  refine Ie.off rfl rfl rfl ?_
  refine Ie.off rfl rfl rfl ?_
  refine Ie.off rfl rfl rfl ?_
  refine Ie.p rfl rfl rfl rfl ?_
  refine Ie.p rfl rfl rfl rfl ?_
  refine Ie.nil ?_
  refine Ne.seq ?_
  refine Ce.cond_false rfl ?_
  refine Ce.skip ?_
  refine Ne.blk ?_
  refine Ne.seq ?_
  refine Ce.seq ?_
  refine Ce.region ?_
  refine Ie.p rfl rfl rfl rfl ?_
  refine Ie.call _ rfl rfl rfl rfl rfl rfl (fun m hm => arithmetic_3 hm.lole) ?_
  refine Ie.p rfl rfl rfl rfl ?_
  refine Ie.p rfl rfl rfl rfl ?_
  refine Ie.p rfl rfl rfl rfl ?_
  refine Ie.p rfl rfl rfl rfl ?_
  refine Ie.p rfl rfl rfl rfl ?_
  refine Ie.nil ?_
  refine Ne.seq ?_
  refine Ce.seq ?_
  refine Ce.seq ?_
  refine Ce.region ?_
  refine Ie.p rfl rfl rfl rfl ?_
  refine Ie.p rfl rfl rfl rfl ?_
  refine Ie.p rfl rfl rfl rfl ?_
  refine Ie.p rfl rfl rfl rfl ?_
  refine Ie.fieldAddr rfl rfl rfl rfl rfl fa59_1 ?_
  refine Ie.indexArr rfl rfl rfl rfl Tryz.underlying56 sz55 rfl rfl (by decide) ?_
  refine Ie.load rfl rfl rfl rfl rfl ag55 (by first | exact .head | exact .tail .head | exact .tail (.tail .head) | exact .tail (.tail (.tail .head)) | exact .base ‹_› ‹_› (by simp)) rfl ?_
  refine Ie.bin (v := .bool false) rfl rfl rfl rfl rfl rfl (by kernel_rfl) ?_
  refine Ie.p rfl rfl rfl rfl ?_
  refine Ie.nil ?_
  refine Ne.seq ?_
  refine Ce.cond_false rfl ?_
  refine Ce.skip ?_
  refine Ne.seq ?_
  refine Ce.seq ?_
  refine Ce.draw [⟨0, .p, true, true, 0⟩, ⟨1, .l, true, true, 1⟩, ⟨2, .p, true, true, 0⟩, ⟨3, .h, true, true, 7⟩, ⟨4, .p, false, false, 0⟩, ⟨5, .l, false, false, 16⟩, ⟨6, .p, false, false, 0⟩, ⟨7, .h, true, true, 127⟩, ⟨8, .p, true, true, 255⟩, ⟨9, .p, true, true, 511⟩] (by kernel_rfl) (by kernel_rfl) (fun base hbase hB => ?_)
  refine De.fieldAddr rfl rfl rfl rfl rfl rfl fa59_0 ?_
  refine De.load rfl rfl rfl rfl rfl rfl rfl rfl ag54 (by first | exact .head | exact .tail .head | exact .tail (.tail .head) | exact .tail (.tail (.tail .head)) | exact .base ‹_› ‹_› (by simp)) rfl ?_
  refine De.p rfl rfl rfl rfl rfl ?_
  refine De.call _ rfl rfl rfl rfl rfl rfl rfl rfl rfl (fun m hm => cl_u8_1 hm.lole ha) ?_
  refine De.fieldAddr rfl rfl rfl rfl rfl rfl fa59_0 ?_
  refine De.loadOld rfl rfl rfl rfl rfl rfl ag54 (by first | exact .head | exact .tail .head | exact .tail (.tail .head) | exact .tail (.tail (.tail .head)) | exact .base ‹_› ‹_› (by simp)) rfl (by first | exact hB _ _ (.head _) | exact hB _ _ (.tail _ (.head _)) | exact hB _ _ (.tail _ (.tail _ (.head _))) | exact hB _ _ (.tail _ (.tail _ (.tail _ (.head _)))) | exact Nat.lt_of_lt_of_le ‹_› hbase) (fun _ => ?_)
  refine De.p rfl rfl rfl rfl rfl ?_
  refine De.call _ rfl rfl rfl rfl rfl rfl rfl rfl rfl (fun m hm => cl_u8_1 hm.lole hb) ?_
  refine De.p rfl rfl rfl rfl rfl ?_
  refine De.p rfl rfl rfl rfl rfl ?_
  refine De.nil ?_
  refine Ne.seq ?_
  refine Ce.seq ?_
  refine Ce.seq ?_
  refine Ce.region ?_
  refine Ie.p rfl rfl rfl rfl ?_
  refine Ie.p rfl rfl rfl rfl ?_
  refine Ie.p rfl rfl rfl rfl ?_
  refine Ie.off rfl rfl rfl ?_
  refine Ie.off rfl rfl rfl ?_
  refine Ie.p rfl rfl rfl rfl ?_
  refine Ie.p rfl rfl rfl rfl ?_
  refine Ie.p rfl rfl rfl rfl ?_
  refine Ie.p rfl rfl rfl rfl ?_
  refine Ie.p rfl rfl rfl rfl ?_
  refine Ie.p rfl rfl rfl rfl ?_
  refine Ie.p rfl rfl rfl rfl ?_
  refine Ie.p rfl rfl rfl rfl ?_
  refine Ie.p rfl rfl rfl rfl ?_
  refine Ie.nil ?_
  refine Ne.seq ?_
  refine Ce.cond_false (by rw [eqI_eq, decide_eq_false h0]; rfl) ?_
  refine Ce.skip ?_
  refine Ne.seq ?_
  refine Ce.seq ?_
  refine Ce.region ?_
  refine Ie.p rfl rfl rfl rfl ?_
  refine Ie.fieldAddr rfl rfl rfl rfl rfl fa59_1 ?_
  refine Ie.indexArr rfl rfl rfl rfl Tryz.underlying56 sz55 rfl rfl (by decide) ?_
  refine Ie.load rfl rfl rfl rfl rfl ag55 (by first | exact .head | exact .tail .head | exact .tail (.tail .head) | exact .tail (.tail (.tail .head)) | exact .base ‹_› ‹_› (by simp)) rfl ?_
  refine Ie.p rfl rfl rfl rfl ?_
  refine Ie.p rfl rfl rfl rfl ?_
  refine Ie.call _ rfl rfl rfl rfl rfl rfl (fun m hm => cl_u8_5 hm.lole (Fit.wr .u8 a) (Fit.wr .u8 b) h0) ?_
  refine Ie.p rfl rfl rfl rfl ?_
  refine Ie.p rfl rfl rfl rfl ?_
  refine Ie.nil ?_
  refine Ne.seq ?_
  refine Ce.ret ?_
  exact Re.end_ rfl rfl (fun m hm => ⟨rfl, hm.ext⟩)

theorem Arith_u8_3z {a b : Int} {m : AW} (hm : m.lo ≤ m.next) (ha : Fit .i64 a) (hb : Fit .i64 b) (h0 : wr .u8 b = 0) : Fc Tryz.prog 19 [.int .i64 1, .int .i64 3, .int .i64 a, .int .i64 b] m fun v m' => v = .tuple ⟨[.int .i64 0, .int .i64 11]⟩ ∧ Ext m m' := by
  refine Fc.body (c := _) Tryz.func19 rfl rfl rfl rfl hm ?_
  refine Ce.seq ?_
  refine Ce.region ?_
  refine Ie.p rfl rfl rfl rfl ?_
  refine Ie.p rfl rfl rfl rfl ?_
  refine Ie.nil ?_
  refine Ne.seq ?_
  refine Ce.seq ?_
  refine Ce.region ?_
  refine Ie.p rfl rfl rfl rfl ?_
  refine Ie.calln _ _ _ rfl rfl rfl rfl rfl rfl (fun m hm => of_u8 hm.lole) (fun x hx => ?_)
  clear hx
  refine Ie.p rfl rfl rfl rfl ?_
  refine Ie.p rfl rfl rfl rfl ?_
  refine Ie.p rfl rfl rfl rfl ?_
  refine Ie.alloc rfl rfl rfl rfl zr59 (fun b10 hb10 => ?_)
  refine Ie.store rfl rfl rfl rfl rfl sz59 rfl (by first | exact .head | exact .tail .head | exact .tail (.tail .head) | exact .tail (.tail (.tail .head))) rfl ?_
  refine Ie.p rfl rfl rfl rfl ?_
  refine Ie.nil ?_
  refine Ne.seq ?_
  refine Ce.seq ?_
  refine Ce.seq ?_
  refine Ce.region ?_
  refine Ie.p rfl rfl rfl rfl ?_
  refine Ie.p rfl rfl rfl rfl ?_
  refine Ie.nil ?_
  refine Ne.seq ?_
  refine Ce.cond_false rfl ?_
  refine Ce.skip ?_
  refine Ne.seq ?_
  refine Ce.seq ?_
  refine Ce.block ?_
  refine Ce.seq ?_
  refine Ce.region ?_
  refine Ie.p rfl rfl rfl rfl ?_
  refine Ie.p rfl rfl rfl rfl ?_
  refine Ie.p rfl rfl rfl rfl ?_
  refine Ie.off rfl rfl rfl ?_
  refine Ie.off rfl rfl rfl ?_
  refine Ie.off rfl rfl rfl ?_
  refine Ie.p rfl rfl rfl rfl ?_
  refine Ie.p rfl rfl rfl rfl ?_
  refine Ie.nil ?_
  refine Ne.seq ?_
  refine Ce.cond_false rfl ?_
  refine Ce.seq ?_
  refine Ce.region ?_
  refine Ie.p rfl rfl rfl rfl ?_
  refine Ie.p rfl rfl rfl rfl ?_
  refine Ie.p rfl rfl rfl rfl ?_
  refine Ie.off rfl rfl rfl ?_
  refine Ie.off rfl rfl rfl ?_
  refine Ie.off rfl rfl rfl ?_
  refine Ie.p rfl rfl rfl rfl ?_
  refine Ie.p rfl rfl rfl rfl ?_
  refine Ie.nil ?_
  refine Ne.seq ?_
  refine Ce.cond_false rfl ?_
  refine Ce.skip ?_
  refine Ne.blk ?_
  refine Ne.seq ?_
  refine Ce.seq ?_
  refine Ce.region ?_
  refine Ie.p rfl rfl rfl rfl ?_
  refine Ie.call _ rfl rfl rfl rfl rfl rfl (fun m hm => arithmetic_3 hm.lole) ?_
  refine Ie.p rfl rfl rfl rfl ?_
  refine Ie.p rfl rfl rfl rfl ?_
  refine Ie.p rfl rfl rfl rfl ?_
  refine Ie.p rfl rfl rfl rfl ?_
  refine Ie.p rfl rfl rfl rfl ?_
  refine Ie.nil ?_
  refine Ne.seq ?_
  refine Ce.seq ?_
  refine Ce.seq ?_
  refine Ce.region ?_
  refine Ie.p rfl rfl rfl rfl ?_
  refine Ie.p rfl rfl rfl rfl ?_
  refine Ie.p rfl rfl rfl rfl ?_
  refine Ie.p rfl rfl rfl rfl ?_
  refine Ie.fieldAddr rfl rfl rfl rfl rfl fa59_1 ?_
  refine Ie.indexArr rfl rfl rfl rfl Tryz.underlying56 sz55 rfl rfl (by decide) ?_
  refine Ie.load rfl rfl rfl rfl rfl ag55 (by first | exact .head | exact .tail .head | exact .tail (.tail .head) | exact .tail (.tail (.tail .head)) | exact .base ‹_› ‹_› (by simp)) rfl ?_
  refine Ie.bin (v := .bool false) rfl rfl rfl rfl rfl rfl (by kernel_rfl) ?_
  refine Ie.p rfl rfl rfl rfl ?_
  refine Ie.nil ?_
  refine Ne.seq ?_
  refine Ce.cond_false rfl ?_
  refine Ce.skip ?_
  refine Ne.seq ?_
  refine Ce.seq ?_
  refine Ce.draw [⟨0, .p, true, true, 0⟩, ⟨1, .l, true, true, 1⟩, ⟨2, .p, true, true, 0⟩, ⟨3, .h, true, true, 7⟩, ⟨4, .p, false, false, 0⟩, ⟨5, .l, false, false, 16⟩, ⟨6, .p, false, false, 0⟩, ⟨7, .h, true, true, 127⟩, ⟨8, .p, true, true, 255⟩, ⟨9, .p, true, true, 511⟩] (by kernel_rfl) (by kernel_rfl) (fun base hbase hB => ?_)
  refine De.fieldAddr rfl rfl rfl rfl rfl rfl fa59_0 ?_
  refine De.load rfl rfl rfl rfl rfl rfl rfl rfl ag54 (by first | exact .head | exact .tail .head | exact .tail (.tail .head) | exact .tail (.tail (.tail .head)) | exact .base ‹_› ‹_› (by simp)) rfl ?_
  refine De.p rfl rfl rfl rfl rfl ?_
  refine De.call _ rfl rfl rfl rfl rfl rfl rfl rfl rfl (fun m hm => cl_u8_1 hm.lole ha) ?_
  refine De.fieldAddr rfl rfl rfl rfl rfl rfl fa59_0 ?_
  refine De.loadOld rfl rfl rfl rfl rfl rfl ag54 (by first | exact .head | exact .tail .head | exact .tail (.tail .head) | exact .tail (.tail (.tail .head)) | exact .base ‹_› ‹_› (by simp)) rfl (by first | exact hB _ _ (.head _) | exact hB _ _ (.tail _ (.head _)) | exact hB _ _ (.tail _ (.tail _ (.head _))) | exact hB _ _ (.tail _ (.tail _ (.tail _ (.head _)))) | exact Nat.lt_of_lt_of_le ‹_› hbase) (fun _ => ?_)
  refine De.p rfl rfl rfl rfl rfl ?_
  refine De.call _ rfl rfl rfl rfl rfl rfl rfl rfl rfl (fun m hm => cl_u8_1 hm.lole hb) ?_
  refine De.p rfl rfl rfl rfl rfl ?_
  refine De.p rfl rfl rfl rfl rfl ?_
  refine De.nil ?_
  refine Ne.seq ?_
  refine Ce.seq ?_
  refine Ce.seq ?_
  refine Ce.region ?_
  refine Ie.p rfl rfl rfl rfl ?_
  refine Ie.p rfl rfl rfl rfl ?_
  refine Ie.p rfl rfl rfl rfl ?_
  refine Ie.off rfl rfl rfl ?_
  refine Ie.off rfl rfl rfl ?_
  refine Ie.p rfl rfl rfl rfl ?_
  refine Ie.p rfl rfl rfl rfl ?_
  refine Ie.p rfl rfl rfl rfl ?_
  refine Ie.p rfl rfl rfl rfl ?_
  refine Ie.p rfl rfl rfl rfl ?_
  refine Ie.p rfl rfl rfl rfl ?_
  refine Ie.p rfl rfl rfl rfl ?_
  refine Ie.p rfl rfl rfl rfl ?_
  refine Ie.p rfl rfl rfl rfl ?_
  refine Ie.nil ?_
  refine Ne.seq ?_
  refine Ce.cond_true (by rw [eqI_eq, decide_eq_true h0]; rfl) ?_
  refine Ce.seq ?_
  refine Ce.region ?_
  refine Ie.p rfl rfl rfl rfl ?_
  refine Ie.p rfl rfl rfl rfl ?_
  refine Ie.nil ?_
  refine Ne.seq ?_
  refine Ce.ret ?_
  refine Re.seq ?_
  exact Re.end_ rfl rfl (fun m hm => ⟨rfl, hm.ext⟩)

theorem Arith_u8_4 {a b : Int} {m : AW} (hm : m.lo ≤ m.next) (ha : Fit .i64 a) (hb : Fit .i64 b) (h0 : wr .u8 b ≠ 0) : Fc Tryz.prog 19 [.int .i64 1, .int .i64 4, .int .i64 a, .int .i64 b] m fun v m' => v = .tuple ⟨[.int .i64 (wr .u8 ((wr .u8 a).tmod (wr .u8 b))), .int .i64 0]⟩ ∧ Ext m m' := by
  refine Fc.body (c := _) Tryz.func19 rfl rfl rfl rfl hm ?_
  refine Ce.seq ?_
  refine Ce.region ?_
  refine Ie.p rfl rfl rfl rfl ?_
  refine Ie.p rfl rfl rfl rfl ?_
  refine Ie.nil ?_
  refine Ne.seq ?_
  refine Ce.seq ?_
  refine Ce.region ?_
  refine Ie.p rfl rfl rfl rfl ?_
  refine Ie.calln _ _ _ rfl rfl rfl rfl rfl rfl (fun m hm => of_u8 hm.lole) (fun x hx => ?_)
  clear hx
  refine Ie.p rfl rfl rfl rfl ?_
  refine Ie.p rfl rfl rfl rfl ?_
  refine Ie.p rfl rfl rfl rfl ?_
  refine Ie.alloc rfl rfl rfl rfl zr59 (fun b10 hb10 => ?_)
  refine Ie.store rfl rfl rfl rfl rfl sz59 rfl (by first | exact .head | exact .tail .head | exact .tail (.tail .head) | exact .tail (.tail (.tail .head))) rfl ?_
  refine Ie.p rfl rfl rfl rfl ?_
  refine Ie.nil ?_
  refine Ne.seq ?_
  refine Ce.seq ?_
  refine Ce.seq ?_
  refine Ce.region ?_
  refine Ie.p rfl rfl rfl rfl ?_
  refine Ie.p rfl rfl rfl rfl ?_
  refine Ie.nil ?_
  refine Ne.seq ?_
  refine Ce.cond_false rfl ?_
  refine Ce.skip ?_
  refine Ne.seq ?_
  refine Ce.seq ?_
  refine Ce.block ?_
  refine Ce.seq ?_
  refine Ce.region ?_
  refine Ie.p rfl rfl rfl rfl ?_
  refine Ie.p rfl rfl rfl rfl ?_
  refine Ie.p rfl rfl rfl rfl ?_
  refine Ie.off rfl rfl rfl ?_
  refine Ie.off rfl rfl rfl ?_
  refine Ie.off rfl rfl rfl ?_
  refine Ie.p rfl rfl rfl rfl ?_
  refine Ie.p rfl rfl rfl rfl ?_
  refine Ie.nil ?_
  refine Ne.seq ?_
  refine Ce.cond_false rfl ?_
  refine Ce.seq ?_
  refine Ce.region ?_
  refine Ie.p rfl rfl rfl rfl ?_
  refine Ie.p rfl rfl rfl rfl ?_
  refine Ie.p rfl rfl rfl rfl ?_
  refine Ie.off rfl rfl rfl ?_
  refine Ie.off rfl rfl rfl ?_
  refine Ie.off rfl rfl rfl ?_
  refine Ie.p rfl rfl rfl rfl ?_
  refine Ie.p rfl rfl rfl rfl ?_
  refine Ie.nil ?_
  refine Ne.seq ?_
  refine Ce.cond_false rfl ?_
  refine Ce.skip ?_
  refine Ne.blk ?_
  refine Ne.seq ?_
  refine Ce.seq ?_
  refine Ce.region ?_
  refine Ie.p rfl rfl rfl rfl ?_
  refine Ie.call _ rfl rfl rfl rfl rfl rfl (fun m hm => arithmetic_4 hm.lole) ?_
  refine Ie.p rfl rfl rfl rfl ?_
  refine Ie.p rfl rfl rfl rfl ?_
  refine Ie.p rfl rfl rfl rfl ?_
  refine Ie.p rfl rfl rfl rfl ?_
  refine Ie.p rfl rfl rfl rfl ?_
  refine Ie.nil ?_
  refine Ne.seq ?_
  refine Ce.seq ?_
  refine Ce.seq ?_
  refine Ce.region ?_
  refine Ie.p rfl rfl rfl rfl ?_
  refine Ie.p rfl rfl rfl rfl ?_
  refine Ie.p rfl rfl rfl rfl ?_
  refine Ie.p rfl rfl rfl rfl ?_
  refine Ie.fieldAddr rfl rfl rfl rfl rfl fa59_1 ?_
  refine Ie.indexArr rfl rfl rfl rfl Tryz.underlying56 sz55 rfl rfl (by decide) ?_
  refine Ie.load rfl rfl rfl rfl rfl ag55 (by first | exact .head | exact .tail .head | exact .tail (.tail .head) | exact .tail (.tail (.tail .head)) | exact .base ‹_› ‹_› (by simp)) rfl ?_
  refine Ie.bin (v := .bool false) rfl rfl rfl rfl rfl rfl (by kernel_rfl) ?_
  refine Ie.p rfl rfl rfl rfl ?_
  refine Ie.nil ?_
  refine Ne.seq ?_
  refine Ce.cond_false rfl ?_
  refine Ce.skip ?_
  refine Ne.seq ?_
  refine Ce.seq ?_
  refine Ce.draw [⟨0, .p, true, true, 0⟩, ⟨1, .l, true, true, 1⟩, ⟨2, .p, true, true, 0⟩, ⟨3, .h, true, true, 7⟩, ⟨4, .p, false, false, 0⟩, ⟨5, .l, false, false, 16⟩, ⟨6, .p, false, false, 0⟩, ⟨7, .h, true, true, 127⟩, ⟨8, .p, true, true, 255⟩, ⟨9, .p, true, true, 511⟩] (by kernel_rfl) (by kernel_rfl) (fun base hbase hB => ?_)
  refine De.fieldAddr rfl rfl rfl rfl rfl rfl fa59_0 ?_
  refine De.load rfl rfl rfl rfl rfl rfl rfl rfl ag54 (by first | exact .head | exact .tail .head | exact .tail (.tail .head) | exact .tail (.tail (.tail .head)) | exact .base ‹_› ‹_› (by simp)) rfl ?_
  refine De.p rfl rfl rfl rfl rfl ?_
  refine De.call _ rfl rfl rfl rfl rfl rfl rfl rfl rfl (fun m hm => cl_u8_1 hm.lole ha) ?_
  refine De.fieldAddr rfl rfl rfl rfl rfl rfl fa59_0 ?_
  refine De.loadOld rfl rfl rfl rfl rfl rfl ag54 (by first | exact .head | exact .tail .head | exact .tail (.tail .head) | exact .tail (.tail (.tail .head)) | exact .base ‹_› ‹_› (by simp)) rfl (by first | exact hB _ _ (.head _) | exact hB _ _ (.tail _ (.head _)) | exact hB _ _ (.tail _ (.tail _ (.head _))) | exact hB _ _ (.tail _ (.tail _ (.tail _ (.head _)))) | exact Nat.lt_of_lt_of_le ‹_› hbase) (fun _ => ?_)
  refine De.p rfl rfl rfl rfl rfl ?_
  refine De.call _ rfl rfl rfl rfl rfl rfl rfl rfl rfl (fun m hm => cl_u8_1 hm.lole hb) ?_
  refine De.p rfl rfl rfl rfl rfl ?_
  refine De.p rfl rfl rfl rfl rfl ?_
  refine De.nil ?_
  refine Ne.seq ?_
  refine Ce.seq ?_
  refine Ce.seq ?_
  refine Ce.region ?_
  refine Ie.p rfl rfl rfl rfl ?_
  refine Ie.p rfl rfl rfl rfl ?_
  refine Ie.p rfl rfl rfl rfl ?_
  refine Ie.p rfl rfl rfl rfl ?_
  refine Ie.p rfl rfl rfl rfl ?_
  refine Ie.p rfl rfl rfl rfl ?_
  refine Ie.p rfl rfl rfl rfl ?_
  refine Ie.p rfl rfl rfl rfl ?_
  refine Ie.p rfl rfl rfl rfl ?_
  refine Ie.p rfl rfl rfl rfl ?_
  refine Ie.p rfl rfl rfl rfl ?_
  refine Ie.p rfl rfl rfl rfl ?_
  refine Ie.p rfl rfl rfl rfl ?_
  refine Ie.p rfl rfl rfl rfl ?_
  refine Ie.nil ?_
  refine Ne.seq ?_
  refine Ce.cond_false (by rw [eqI_eq, decide_eq_false h0]; rfl) ?_
  refine Ce.skip ?_
  refine Ne.seq ?_
  refine Ce.seq ?_
  refine Ce.region ?_
  refine Ie.p rfl rfl rfl rfl ?_
  refine Ie.fieldAddr rfl rfl rfl rfl rfl fa59_1 ?_
  refine Ie.indexArr rfl rfl rfl rfl Tryz.underlying56 sz55 rfl rfl (by decide) ?_
  refine Ie.load rfl rfl rfl rfl rfl ag55 (by first | exact .head | exact .tail .head | exact .tail (.tail .head) | exact .tail (.tail (.tail .head)) | exact .base ‹_› ‹_› (by simp)) rfl ?_
  refine Ie.p rfl rfl rfl rfl ?_
  refine Ie.p rfl rfl rfl rfl ?_
  refine Ie.call _ rfl rfl rfl rfl rfl rfl (fun m hm => cl_u8_6 hm.lole (Fit.wr .u8 a) (Fit.wr .u8 b) h0) ?_
  refine Ie.p rfl rfl rfl rfl ?_
  refine Ie.p rfl rfl rfl rfl ?_
  refine Ie.nil ?_
  refine Ne.seq ?_
  refine Ce.ret ?_
  exact Re.end_ rfl rfl (fun m hm => ⟨rfl, hm.ext⟩)

theorem Arith_u8_4z {a b : Int} {m : AW} (hm : m.lo ≤ m.next) (ha : Fit .i64 a) (hb : Fit .i64 b) (h0 : wr .u8 b = 0) : Fc Tryz.prog 19 [.int .i64 1, .int .i64 4, .int .i64 a, .int .i64 b] m fun v m' => v = .tuple ⟨[.int .i64 0, .int .i64 11]⟩ ∧ Ext m m' := by
  refine Fc.body (c := _) Tryz.func19 rfl rfl rfl rfl hm ?_
  refine Ce.seq ?_
  refine Ce.region ?_
  refine Ie.p rfl rfl rfl rfl ?_
  refine Ie.p rfl rfl rfl rfl ?_
  refine Ie.nil ?_
  refine Ne.seq ?_
  refine Ce.seq ?_
  refine Ce.region ?_
  refine Ie.p rfl rfl rfl rfl ?_
  refine Ie.calln _ _ _ rfl rfl rfl rfl rfl rfl (fun m hm => of_u8 hm.lole) (fun x hx => ?_)
  clear hx
  refine Ie.p rfl rfl rfl rfl ?_
  refine Ie.p rfl rfl rfl rfl ?_
  refine Ie.p rfl rfl rfl rfl ?_
  refine Ie.alloc rfl rfl rfl rfl zr59 (fun b10 hb10 => ?_)
  refine Ie.store rfl rfl rfl rfl rfl sz59 rfl (by first | exact .head | exact .tail .head | exact .tail (.tail .head) | exact .tail (.tail (.tail .head))) rfl ?_
  refine Ie.p rfl rfl rfl rfl ?_
  refine Ie.nil ?_
  refine Ne.seq ?_
  refine Ce.seq ?_
  refine Ce.seq ?_
  refine Ce.region ?_
  refine Ie.p rfl rfl rfl rfl ?_
  refine Ie.p rfl rfl rfl rfl ?_
  refine Ie.nil ?_
  refine Ne.seq ?_
  refine Ce.cond_false rfl ?_
  refine Ce.skip ?_
  refine Ne.seq ?_
  refine Ce.seq ?_
  refine Ce.block ?_
  refine Ce.seq ?_
  refine Ce.region ?_
  refine Ie.p rfl rfl rfl rfl ?_
  refine Ie.p rfl rfl rfl rfl ?_
  refine Ie.p rfl rfl rfl rfl ?_
  refine Ie.off rfl rfl rfl ?_
  refine Ie.off rfl rfl rfl ?_
  refine Ie.off rfl rfl rfl ?_
  refine Ie.p rfl rfl rfl rfl ?_
  refine Ie.p rfl rfl rfl rfl ?_
  refine Ie.nil ?_
  refine Ne.seq ?_
  refine Ce.cond_false rfl ?_
  refine Ce.seq ?_
  refine Ce.region ?_
  refine Ie.p rfl rfl rfl rfl ?_
  refine Ie.p rfl rfl rfl rfl ?_
  refine Ie.p rfl rfl rfl rfl ?_
  refine Ie.off rfl rfl rfl ?_
  refine Ie.off rfl rfl rfl ?_
  refine Ie.off rfl rfl rfl ?_
  refine Ie.p rfl rfl rfl rfl ?_
  refine Ie.p rfl rfl rfl rfl ?_
  refine Ie.nil ?_
  refine Ne.seq ?_
  refine Ce.cond_false rfl ?_
  refine Ce.skip ?_
  refine Ne.blk ?_
  refine Ne.seq ?_
  refine Ce.seq ?_
  refine Ce.region ?_
  refine Ie.p rfl rfl rfl rfl ?_
  refine Ie.call _ rfl rfl rfl rfl rfl rfl (fun m hm => arithmetic_4 hm.lole) ?_
  refine Ie.p rfl rfl rfl rfl ?_
  refine Ie.p rfl rfl rfl rfl ?_
  refine Ie.p rfl rfl rfl rfl ?_
  refine Ie.p rfl rfl rfl rfl ?_
  refine Ie.p rfl rfl rfl rfl ?_
  refine Ie.nil ?_
  refine Ne.seq ?_
  refine Ce.seq ?_
  refine Ce.seq ?_
  refine Ce.region ?_
  refine Ie.p rfl rfl rfl rfl ?_
  refine Ie.p rfl rfl rfl rfl ?_
  refine Ie.p rfl rfl rfl rfl ?_
  refine Ie.p rfl rfl rfl rfl ?_
  refine Ie.fieldAddr rfl rfl rfl rfl rfl fa59_1 ?_
  refine Ie.indexArr rfl rfl rfl rfl Tryz.underlying56 sz55 rfl rfl (by decide) ?_
  refine Ie.load rfl rfl rfl rfl rfl ag55 (by first | exact .head | exact .tail .head | exact .tail (.tail .head) | exact .tail (.tail (.tail .head)) | exact .base ‹_› ‹_› (by simp)) rfl ?_
  refine Ie.bin (v := .bool false) rfl rfl rfl rfl rfl rfl (by kernel_rfl) ?_
  refine Ie.p rfl rfl rfl rfl ?_
  refine Ie.nil ?_
  refine Ne.seq ?_
  refine Ce.cond_false rfl ?_
  refine Ce.skip ?_
  refine Ne.seq ?_
  refine Ce.seq ?_
  refine Ce.draw [⟨0, .p, true, true, 0⟩, ⟨1, .l, true, true, 1⟩, ⟨2, .p, true, true, 0⟩, ⟨3, .h, true, true, 7⟩, ⟨4, .p, false, false, 0⟩, ⟨5, .l, false, false, 16⟩, ⟨6, .p, false, false, 0⟩, ⟨7, .h, true, true, 127⟩, ⟨8, .p, true, true, 255⟩, ⟨9, .p, true, true, 511⟩] (by kernel_rfl) (by kernel_rfl) (fun base hbase hB => ?_)
  refine De.fieldAddr rfl rfl rfl rfl rfl rfl fa59_0 ?_
  refine De.load rfl rfl rfl rfl rfl rfl rfl rfl ag54 (by first | exact .head | exact .tail .head | exact .tail (.tail .head) | exact .tail (.tail (.tail .head)) | exact .base ‹_› ‹_› (by simp)) rfl ?_
  refine De.p rfl rfl rfl rfl rfl ?_
  refine De.call _ rfl rfl rfl rfl rfl rfl rfl rfl rfl (fun m hm => cl_u8_1 hm.lole ha) ?_
  refine De.fieldAddr rfl rfl rfl rfl rfl rfl fa59_0 ?_
  refine De.loadOld rfl rfl rfl rfl rfl rfl ag54 (by first | exact .head | exact .tail .head | exact .tail (.tail .head) | exact .tail (.tail (.tail .head)) | exact .base ‹_› ‹_› (by simp)) rfl (by first | exact hB _ _ (.head _) | exact hB _ _ (.tail _ (.head _)) | exact hB _ _ (.tail _ (.tail _ (.head _))) | exact hB _ _ (.tail _ (.tail _ (.tail _ (.head _)))) | exact Nat.lt_of_lt_of_le ‹_› hbase) (fun _ => ?_)
  refine De.p rfl rfl rfl rfl rfl ?_
  refine De.call _ rfl rfl rfl rfl rfl rfl rfl rfl rfl (fun m hm => cl_u8_1 hm.lole hb) ?_
  refine De.p rfl rfl rfl rfl rfl ?_
  refine De.p rfl rfl rfl rfl rfl ?_
  refine De.nil ?_
  refine Ne.seq ?_
  refine Ce.seq ?_
  refine Ce.seq ?_
  refine Ce.region ?_
  refine Ie.p rfl rfl rfl rfl ?_
  refine Ie.p rfl rfl rfl rfl ?_
  refine Ie.p rfl rfl rfl rfl ?_
  refine Ie.p rfl rfl rfl rfl ?_
  refine Ie.p rfl rfl rfl rfl ?_
  refine Ie.p rfl rfl rfl rfl ?_
  refine Ie.p rfl rfl rfl rfl ?_
  refine Ie.p rfl rfl rfl rfl ?_
  refine Ie.p rfl rfl rfl rfl ?_
  refine Ie.p rfl rfl rfl rfl ?_
  refine Ie.p rfl rfl rfl rfl ?_
  refine Ie.p rfl rfl rfl rfl ?_
  refine Ie.p rfl rfl rfl rfl ?_
  refine Ie.p rfl rfl rfl rfl ?_
  refine Ie.nil ?_
  refine Ne.seq ?_
  refine Ce.cond_true (by rw [eqI_eq, decide_eq_true h0]; rfl) ?_
  refine Ce.seq ?_
  refine Ce.region ?_
  refine Ie.p rfl rfl rfl rfl ?_
  refine Ie.p rfl rfl rfl rfl ?_
  refine Ie.nil ?_
  refine Ne.seq ?_
  refine Ce.ret ?_
  refine Re.seq ?_
  exact Re.end_ rfl rfl (fun m hm => ⟨rfl, hm.ext⟩)

theorem ArithF_u8_0 {a b : Int} {m : AW} (hm : m.lo ≤ m.next) (ha : Fit .u8 a) (hb : Fit .u8 b) : Fc Tryz.prog 19 [.int .i64 1, .int .i64 0, .int .i64 a, .int .i64 b] m fun v m' => v = .tuple ⟨[.int .i64 (wr .u8 (a + b)), .int .i64 0]⟩ ∧ Ext m m' := by
  have h := Arith_u8_0 hm (ha.le (by decide) (by decide)) (hb.le (by decide) (by decide))
  rw [show wr .u8 a = a from ha, show wr .u8 b = b from hb] at h
  exact h

theorem ArithF_u8_1 {a b : Int} {m : AW} (hm : m.lo ≤ m.next) (ha : Fit .u8 a) (hb : Fit .u8 b) : Fc Tryz.prog 19 [.int .i64 1, .int .i64 1, .int .i64 a, .int .i64 b] m fun v m' => v = .tuple ⟨[.int .i64 (wr .u8 (a - b)), .int .i64 0]⟩ ∧ Ext m m' := by
  have h := Arith_u8_1 hm (ha.le (by decide) (by decide)) (hb.le (by decide) (by decide))
  rw [show wr .u8 a = a from ha, show wr .u8 b = b from hb] at h
  exact h

theorem ArithF_u8_2 {a b : Int} {m : AW} (hm : m.lo ≤ m.next) (ha : Fit .u8 a) (hb : Fit .u8 b) : Fc Tryz.prog 19 [.int .i64 1, .int .i64 2, .int .i64 a, .int .i64 b] m fun v m' => v = .tuple ⟨[.int .i64 (wr .u8 (a * b)), .int .i64 0]⟩ ∧ Ext m m' := by
  have h := Arith_u8_2 hm (ha.le (by decide) (by decide)) (hb.le (by decide) (by decide))
  rw [show wr .u8 a = a from ha, show wr .u8 b = b from hb] at h
  exact h

theorem ArithF_u8_3 {a b : Int} {m : AW} (hm : m.lo ≤ m.next) (ha : Fit .u8 a) (hb : Fit .u8 b) (h0 : b ≠ 0) : Fc Tryz.prog 19 [.int .i64 1, .int .i64 3, .int .i64 a, .int .i64 b] m fun v m' => v = .tuple ⟨[.int .i64 (wr .u8 (a.tdiv b)), .int .i64 0]⟩ ∧ Ext m m' := by
  have h := Arith_u8_3 hm (ha.le (by decide) (by decide)) (hb.le (by decide) (by decide)) (by rw [show wr .u8 b = b from hb]; exact h0)
  rw [show wr .u8 a = a from ha, show wr .u8 b = b from hb] at h
  exact h

theorem ArithZ_u8_3 {a : Int} {m : AW} (hm : m.lo ≤ m.next) (ha : Fit .u8 a) : Fc Tryz.prog 19 [.int .i64 1, .int .i64 3, .int .i64 a, .int .i64 0] m fun v m' => v = .tuple ⟨[.int .i64 0, .int .i64 11]⟩ ∧ Ext m m' :=
  Arith_u8_3z hm (ha.le (by decide) (by decide)) (show wr .i64 0 = 0 from rfl) rfl

theorem ArithF_u8_4 {a b : Int} {m : AW} (hm : m.lo ≤ m.next) (ha : Fit .u8 a) (hb : Fit .u8 b) (h0 : b ≠ 0) : Fc Tryz.prog 19 [.int .i64 1, .int .i64 4, .int .i64 a, .int .i64 b] m fun v m' => v = .tuple ⟨[.int .i64 (wr .u8 (a.tmod b)), .int .i64 0]⟩ ∧ Ext m m' := by
  have h := Arith_u8_4 hm (ha.le (by decide) (by decide)) (hb.le (by decide) (by decide)) (by rw [show wr .u8 b = b from hb]; exact h0)
  rw [show wr .u8 a = a from ha, show wr .u8 b = b from hb] at h
  exact h

theorem ArithZ_u8_4 {a : Int} {m : AW} (hm : m.lo ≤ m.next) (ha : Fit .u8 a) : Fc Tryz.prog 19 [.int .i64 1, .int .i64 4, .int .i64 a, .int .i64 0] m fun v m' => v = .tuple ⟨[.int .i64 0, .int .i64 11]⟩ ∧ Ext m m' :=
  Arith_u8_4z hm (ha.le (by decide) (by decide)) (show wr .i64 0 = 0 from rfl) rfl

theorem Wrap_i32 {n : Int} {m : AW} (hm : m.lo ≤ m.next) (h : Fit .i64 n) : Fc Tryz.prog 20 [.int .i64 2, .int .i64 n] m fun v m' => v = .tuple ⟨[.int .i64 (wr .i32 n), .int .i64 0]⟩ ∧ Ext m m' := by
  refine Fc.body (c := _) Tryz.func20 rfl rfl rfl rfl hm ?_
  refine Ce.seq ?_
  refine Ce.region ?_
  refine Ie.p rfl rfl rfl rfl ?_
  refine Ie.p rfl rfl rfl rfl ?_
  refine Ie.nil ?_
  refine Ne.seq ?_
  refine Ce.seq ?_
  refine Ce.region ?_
  refine Ie.p rfl rfl rfl rfl ?_
  refine Ie.calln _ _ _ rfl rfl rfl rfl rfl rfl (fun m hm => of_i32 hm.lole) (fun x hx => ?_)
  clear hx
  refine Ie.p rfl rfl rfl rfl ?_
  refine Ie.p rfl rfl rfl rfl ?_
  refine Ie.p rfl rfl rfl rfl ?_
  refine Ie.alloc rfl rfl rfl rfl zr59 (fun b6 hb6 => ?_)
  refine Ie.store rfl rfl rfl rfl rfl sz59 rfl (by first | exact .head | exact .tail .head | exact .tail (.tail .head) | exact .tail (.tail (.tail .head))) rfl ?_
  refine Ie.p rfl rfl rfl rfl ?_
  refine Ie.nil ?_
  refine Ne.seq ?_
  refine Ce.seq ?_
  refine Ce.seq ?_
  refine Ce.region ?_
  refine Ie.p rfl rfl rfl rfl ?_
  refine Ie.p rfl rfl rfl rfl ?_
  refine Ie.nil ?_
  refine Ne.seq ?_
  refine Ce.cond_false rfl ?_
  refine Ce.skip ?_
  refine Ne.seq ?_
  refine Ce.seq ?_
  refine Ce.region ?_
  refine Ie.fieldAddr rfl rfl rfl rfl rfl fa59_0 ?_
  refine Ie.load rfl rfl rfl rfl rfl ag54 (by first | exact .head | exact .tail .head | exact .tail (.tail .head) | exact .tail (.tail (.tail .head)) | exact .base ‹_› ‹_› (by simp)) rfl ?_
  refine Ie.p rfl rfl rfl rfl ?_
  refine Ie.call _ rfl rfl rfl rfl rfl rfl (fun m hm => cl_i32_1 hm.lole h) ?_
  refine Ie.p rfl rfl rfl rfl ?_
  refine Ie.p rfl rfl rfl rfl ?_
  refine Ie.nil ?_
  refine Ne.seq ?_
  refine Ce.ret ?_
  exact Re.end_ rfl rfl (fun m hm => ⟨rfl, hm.ext⟩)

theorem Arith_i32_0 {a b : Int} {m : AW} (hm : m.lo ≤ m.next) (ha : Fit .i64 a) (hb : Fit .i64 b) : Fc Tryz.prog 19 [.int .i64 2, .int .i64 0, .int .i64 a, .int .i64 b] m fun v m' => v = .tuple ⟨[.int .i64 (wr .i32 (wr .i32 a + wr .i32 b)), .int .i64 0]⟩ ∧ Ext m m' := by
  refine Fc.body (c := _) Tryz.func19 rfl rfl rfl rfl hm ?_
  refine Ce.seq ?_
  refine Ce.region ?_
  refine Ie.p rfl rfl rfl rfl ?_
  refine Ie.p rfl rfl rfl rfl ?_
  refine Ie.nil ?_
  refine Ne.seq ?_
  refine Ce.seq ?_
  refine Ce.region ?_
  refine Ie.p rfl rfl rfl rfl ?_
  refine Ie.calln _ _ _ rfl rfl rfl rfl rfl rfl (fun m hm => of_i32 hm.lole) (fun x hx => ?_)
  clear hx
  refine Ie.p rfl rfl rfl rfl ?_
  refine Ie.p rfl rfl rfl rfl ?_
  refine Ie.p rfl rfl rfl rfl ?_
  refine Ie.alloc rfl rfl rfl rfl zr59 (fun b10 hb10 => ?_)
  refine Ie.store rfl rfl rfl rfl rfl sz59 rfl (by first | exact .head | exact .tail .head | exact .tail (.tail .head) | exact .tail (.tail (.tail .head))) rfl ?_
  refine Ie.p rfl rfl rfl rfl ?_
  refine Ie.nil ?_
  refine Ne.seq ?_
  refine Ce.seq ?_
  refine Ce.seq ?_
  refine Ce.region ?_
  refine Ie.p rfl rfl rfl rfl ?_
  refine Ie.p rfl rfl rfl rfl ?_
  refine Ie.nil ?_
  refine Ne.seq ?_
  refine Ce.cond_false rfl ?_
  refine Ce.skip ?_
  refine Ne.seq ?_
  refine Ce.seq ?_
  refine Ce.block ?_
  refine Ce.seq ?_
  refine Ce.region ?_
  refine Ie.p rfl rfl rfl rfl ?_
  refine Ie.p rfl rfl rfl rfl ?_
  refine Ie.p rfl rfl rfl rfl ?_
  refine Ie.off rfl rfl rfl ?_
  refine Ie.off rfl rfl rfl ?_
  refine Ie.off rfl rfl rfl ?_
  refine Ie.p rfl rfl rfl rfl ?_
  refine Ie.p rfl rfl rfl rfl ?_
  refine Ie.nil ?_
  refine Ne.seq ?_
  refine Ce.cond_false rfl ?_
  refine Ce.seq ?_
  refine Ce.region ?_
  refine Ie.p rfl rfl rfl rfl ?_
  refine Ie.p rfl rfl rfl rfl ?_
  refine Ie.p rfl rfl rfl rfl ?_
  refine Ie.off rfl rfl rfl ?_
  refine Ie.off rfl rfl rfl ?_
  refine Ie.off rfl rfl rfl ?_
  refine Ie.p rfl rfl rfl rfl ?_
  refine Ie.p rfl rfl rfl rfl ?_
  refine Ie.nil ?_
  refine Ne.seq ?_
  refine Ce.cond_false rfl ?_
  refine Ce.skip ?_
  refine Ne.blk ?_
  refine Ne.seq ?_
  refine Ce.seq ?_
  refine Ce.region ?_
  refine Ie.p rfl rfl rfl rfl ?_
  refine Ie.call _ rfl rfl rfl rfl rfl rfl (fun m hm => arithmetic_0 hm.lole) ?_
  refine Ie.p rfl rfl rfl rfl ?_
  refine Ie.p rfl rfl rfl rfl ?_
  refine Ie.p rfl rfl rfl rfl ?_
  refine Ie.p rfl rfl rfl rfl ?_
  refine Ie.p rfl rfl rfl rfl ?_
  refine Ie.nil ?_
  refine Ne.seq ?_
  refine Ce.seq ?_
  refine Ce.seq ?_
  refine Ce.region ?_
  refine Ie.p rfl rfl rfl rfl ?_
  refine Ie.p rfl rfl rfl rfl ?_
  refine Ie.p rfl rfl rfl rfl ?_
  refine Ie.p rfl rfl rfl rfl ?_
  refine Ie.fieldAddr rfl rfl rfl rfl rfl fa59_1 ?_
  refine Ie.indexArr rfl rfl rfl rfl Tryz.underlying56 sz55 rfl rfl (by decide) ?_
  refine Ie.load rfl rfl rfl rfl rfl ag55 (by first | exact .head | exact .tail .head | exact .tail (.tail .head) | exact .tail (.tail (.tail .head)) | exact .base ‹_› ‹_› (by simp)) rfl ?_
  refine Ie.bin (v := .bool false) rfl rfl rfl rfl rfl rfl (by kernel_rfl) ?_
  refine Ie.p rfl rfl rfl rfl ?_
  refine Ie.nil ?_
  refine Ne.seq ?_
  refine Ce.cond_false rfl ?_
  refine Ce.skip ?_
  refine Ne.seq ?_
  refine Ce.seq ?_
  refine Ce.draw [⟨0, .p, true, true, 0⟩, ⟨1, .l, true, true, 1⟩, ⟨2, .p, true, true, 0⟩, ⟨3, .h, true, true, 7⟩, ⟨4, .p, false, false, 0⟩, ⟨5, .l, false, false, 16⟩, ⟨6, .p, false, false, 0⟩, ⟨7, .h, true, true, 127⟩, ⟨8, .p, true, true, 255⟩, ⟨9, .p, true, true, 511⟩] (by kernel_rfl) (by kernel_rfl) (fun base hbase hB => ?_)
  refine De.fieldAddr rfl rfl rfl rfl rfl rfl fa59_0 ?_
  refine De.load rfl rfl rfl rfl rfl rfl rfl rfl ag54 (by first | exact .head | exact .tail .head | exact .tail (.tail .head) | exact .tail (.tail (.tail .head)) | exact .base ‹_› ‹_› (by simp)) rfl ?_
  refine De.p rfl rfl rfl rfl rfl ?_
  refine De.call _ rfl rfl rfl rfl rfl rfl rfl rfl rfl (fun m hm => cl_i32_1 hm.lole ha) ?_
  refine De.fieldAddr rfl rfl rfl rfl rfl rfl fa59_0 ?_
  refine De.loadOld rfl rfl rfl rfl rfl rfl ag54 (by first | exact .head | exact .tail .head | exact .tail (.tail .head) | exact .tail (.tail (.tail .head)) | exact .base ‹_› ‹_› (by simp)) rfl (by first | exact hB _ _ (.head _) | exact hB _ _ (.tail _ (.head _)) | exact hB _ _ (.tail _ (.tail _ (.head _))) | exact hB _ _ (.tail _ (.tail _ (.tail _ (.head _)))) | exact Nat.lt_of_lt_of_le ‹_› hbase) (fun _ => ?_)
  refine De.p rfl rfl rfl rfl rfl ?_
  refine De.call _ rfl rfl rfl rfl rfl rfl rfl rfl rfl (fun m hm => cl_i32_1 hm.lole hb) ?_
  refine De.p rfl rfl rfl rfl rfl ?_
  refine De.p rfl rfl rfl rfl rfl ?_
  refine De.nil ?_
  refine Ne.seq ?_
  refine Ce.seq ?_
  refine Ce.seq ?_
  refine Ce.region ?_
  refine Ie.p rfl rfl rfl rfl ?_
  refine Ie.p rfl rfl rfl rfl ?_
  refine Ie.p rfl rfl rfl rfl ?_
  refine Ie.p rfl rfl rfl rfl ?_
  refine Ie.p rfl rfl rfl rfl ?_
  refine Ie.p rfl rfl rfl rfl ?_
  refine Ie.p rfl rfl rfl rfl ?_
  refine Ie.off rfl rfl rfl ?_
  refine Ie.off rfl rfl rfl ?_
  refine Ie.p rfl rfl rfl rfl ?_
  refine Ie.p rfl rfl rfl rfl ?_
  refine Ie.off rfl rfl rfl ?_
  refine Ie.off rfl rfl rfl ?_
  refine Ie.p rfl rfl rfl rfl ?_
  refine Ie.nil ?_
  refine Ne.seq ?_
  refine Ce.cond_false rfl ?_
  refine Ce.skip ?_
  refine Ne.seq ?_
  refine Ce.seq ?_
  refine Ce.region ?_
  refine Ie.p rfl rfl rfl rfl ?_
  refine Ie.fieldAddr rfl rfl rfl rfl rfl fa59_1 ?_
  refine Ie.indexArr rfl rfl rfl rfl Tryz.underlying56 sz55 rfl rfl (by decide) ?_
  refine Ie.load rfl rfl rfl rfl rfl ag55 (by first | exact .head | exact .tail .head | exact .tail (.tail .head) | exact .tail (.tail (.tail .head)) | exact .base ‹_› ‹_› (by simp)) rfl ?_
  refine Ie.p rfl rfl rfl rfl ?_
  refine Ie.p rfl rfl rfl rfl ?_
  refine Ie.call _ rfl rfl rfl rfl rfl rfl (fun m hm => cl_i32_2 hm.lole (Fit.wr .i32 a) (Fit.wr .i32 b)) ?_
  refine Ie.p rfl rfl rfl rfl ?_
  refine Ie.p rfl rfl rfl rfl ?_
  refine Ie.nil ?_
  refine Ne.seq ?_
  refine Ce.ret ?_
  exact Re.end_ rfl rfl (fun m hm => ⟨rfl, hm.ext⟩)

theorem Arith_i32_1 {a b : Int} {m : AW} (hm : m.lo ≤ m.next) (ha : Fit .i64 a) (hb : Fit .i64 b) : Fc Tryz.prog 19 [.int .i64 2, .int .i64 1, .int .i64 a, .int .i64 b] m fun v m' => v = .tuple ⟨[.int .i64 (wr .i32 (wr .i32 a - wr .i32 b)), .int .i64 0]⟩ ∧ Ext m m' := by
  refine Fc.body (c := _) Tryz.func19 rfl rfl rfl rfl hm ?_
  refine Ce.seq ?_
  refine Ce.region ?_
  refine Ie.p rfl rfl rfl rfl ?_
  refine Ie.p rfl rfl rfl rfl ?_
  refine Ie.nil ?_
  refine Ne.seq ?_
  refine Ce.seq ?_
  refine Ce.region ?_
  refine Ie.p rfl rfl rfl rfl ?_
  refine Ie.calln _ _ _ rfl rfl rfl rfl rfl rfl (fun m hm => of_i32 hm.lole) (fun x hx => ?_)
  clear hx
  refine Ie.p rfl rfl rfl rfl ?_
  refine Ie.p rfl rfl rfl rfl ?_
  refine Ie.p rfl rfl rfl rfl ?_
  refine Ie.alloc rfl rfl rfl rfl zr59 (fun b10 hb10 => ?_)
  refine Ie.store rfl rfl rfl rfl rfl sz59 rfl (by first | exact .head | exact .tail .head | exact .tail (.tail .head) | exact .tail (.tail (.tail .head))) rfl ?_
  refine Ie.p rfl rfl rfl rfl ?_
  refine Ie.nil ?_
  refine Ne.seq ?_
  refine Ce.seq ?_
  refine Ce.seq ?_
  refine Ce.region ?_
  refine Ie.p rfl rfl rfl rfl ?_
  refine Ie.p rfl rfl rfl rfl ?_
  refine Ie.nil ?_
  refine Ne.seq ?_
  refine Ce.cond_false rfl ?_
  refine Ce.skip ?_
  refine Ne.seq ?_
  refine Ce.seq ?_
  refine Ce.block ?_
  refine Ce.seq ?_
  refine Ce.region ?_
  refine Ie.p rfl rfl rfl rfl ?_
  refine Ie.p rfl rfl rfl rfl ?_
  refine Ie.p rfl rfl rfl rfl ?_
  refine Ie.off rfl rfl rfl ?_
  refine Ie.off rfl rfl rfl ?_
  refine Ie.off rfl rfl rfl ?_
  refine Ie.p rfl rfl rfl rfl ?_
  refine Ie.p rfl rfl rfl rfl ?_
  refine Ie.nil ?_
  refine Ne.seq ?_
  refine Ce.cond_false rfl ?_
  refine Ce.seq ?_
  refine Ce.region ?_
  refine Ie.p rfl rfl rfl rfl ?_
  refine Ie.p rfl rfl rfl rfl ?_
  refine Ie.p rfl rfl rfl rfl ?_
  refine Ie.off rfl rfl rfl ?_
  refine Ie.off rfl rfl rfl ?_
  refine Ie.off rfl rfl rfl ?_
  refine Ie.p rfl rfl rfl rfl ?_
  refine Ie.p rfl rfl rfl rfl ?_
  refine Ie.nil ?_
  refine Ne.seq ?_
  refine Ce.cond_false rfl ?_
  refine Ce.skip ?_
  refine Ne.blk ?_
  refine Ne.seq ?_
  refine Ce.seq ?_
  refine Ce.region ?_
  refine Ie.p rfl rfl rfl rfl ?_
  refine Ie.call _ rfl rfl rfl rfl rfl rfl (fun m hm => arithmetic_1 hm.lole) ?_
  refine Ie.p rfl rfl rfl rfl ?_
  refine Ie.p rfl rfl rfl rfl ?_
  refine Ie.p rfl rfl rfl rfl ?_
  refine Ie.p rfl rfl rfl rfl ?_
  refine Ie.p rfl rfl rfl rfl ?_
  refine Ie.nil ?_
  refine Ne.seq ?_
  refine Ce.seq ?_
  refine Ce.seq ?_
  refine Ce.region ?_
  refine Ie.p rfl rfl rfl rfl ?_
  refine Ie.p rfl rfl rfl rfl ?_
  refine Ie.p rfl rfl rfl rfl ?_
  refine Ie.p rfl rfl rfl rfl ?_
  refine Ie.fieldAddr rfl rfl rfl rfl rfl fa59_1 ?_
  refine Ie.indexArr rfl rfl rfl rfl Tryz.underlying56 sz55 rfl rfl (by decide) ?_
  refine Ie.load rfl rfl rfl rfl rfl ag55 (by first | exact .head | exact .tail .head | exact .tail (.tail .head) | exact .tail (.tail (.tail .head)) | exact .base ‹_› ‹_› (by simp)) rfl ?_
  refine Ie.bin (v := .bool false) rfl rfl rfl rfl rfl rfl (by kernel_rfl) ?_
  refine Ie.p rfl rfl rfl rfl ?_
  refine Ie.nil ?_
  refine Ne.seq ?_
  refine Ce.cond_false rfl ?_
  refine Ce.skip ?_
  refine Ne.seq ?_
  refine Ce.seq ?_
  refine Ce.draw [⟨0, .p, true, true, 0⟩, ⟨1, .l, true, true, 1⟩, ⟨2, .p, true, true, 0⟩, ⟨3, .h, true, true, 7⟩, ⟨4, .p, false, false, 0⟩, ⟨5, .l, false, false, 16⟩, ⟨6, .p, false, false, 0⟩, ⟨7, .h, true, true, 127⟩, ⟨8, .p, true, true, 255⟩, ⟨9, .p, true, true, 511⟩] (by kernel_rfl) (by kernel_rfl) (fun base hbase hB => ?_)
  refine De.fieldAddr rfl rfl rfl rfl rfl rfl fa59_0 ?_
  refine De.load rfl rfl rfl rfl rfl rfl rfl rfl ag54 (by first | exact .head | exact .tail .head | exact .tail (.tail .head) | exact .tail (.tail (.tail .head)) | exact .base ‹_› ‹_› (by simp)) rfl ?_
  refine De.p rfl rfl rfl rfl rfl ?_
  refine De.call _ rfl rfl rfl rfl rfl rfl rfl rfl rfl (fun m hm => cl_i32_1 hm.lole ha) ?_
  refine De.fieldAddr rfl rfl rfl rfl rfl rfl fa59_0 ?_
  refine De.loadOld rfl rfl rfl rfl rfl rfl ag54 (by first | exact .head | exact .tail .head | exact .tail (.tail .head) | exact .tail (.tail (.tail .head)) | exact .base ‹_› ‹_› (by simp)) rfl (by first | exact hB _ _ (.head _) | exact hB _ _ (.tail _ (.head _)) | exact hB _ _ (.tail _ (.tail _ (.head _))) | exact hB _ _ (.tail _ (.tail _ (.tail _ (.head _)))) | exact Nat.lt_of_lt_of_le ‹_› hbase) (fun _ => ?_)
  refine De.p rfl rfl rfl rfl rfl ?_
  refine De.call _ rfl rfl rfl rfl rfl rfl rfl rfl rfl (fun m hm => cl_i32_1 hm.lole hb) ?_
  refine De.p rfl rfl rfl rfl rfl ?_
  refine De.p rfl rfl rfl rfl rfl ?_
  refine De.nil ?_
  refine Ne.seq ?_
  refine Ce.seq ?_
  refine Ce.seq ?_
  refine Ce.region ?_
  refine Ie.p rfl rfl rfl rfl ?_
  refine Ie.p rfl rfl rfl rfl ?_
  refine Ie.p rfl rfl rfl rfl ?_
  refine Ie.p rfl rfl rfl rfl ?_
  refine Ie.p rfl rfl rfl rfl ?_
  refine Ie.p rfl rfl rfl rfl ?_
  refine Ie.p rfl rfl rfl rfl ?_
  refine Ie.off rfl rfl rfl ?_
  refine Ie.off rfl rfl rfl ?_
  refine Ie.p rfl rfl rfl rfl ?_
  refine Ie.p rfl rfl rfl rfl ?_
  refine Ie.off rfl rfl rfl ?_
  refine Ie.off rfl rfl rfl ?_
  refine Ie.p rfl rfl rfl rfl ?_
  refine Ie.nil ?_
  refine Ne.seq ?_
  refine Ce.cond_false rfl ?_
  refine Ce.skip ?_
  refine Ne.seq ?_
  refine Ce.seq ?_
  refine Ce.region ?_
  refine Ie.p rfl rfl rfl rfl ?_
  refine Ie.fieldAddr rfl rfl rfl rfl rfl fa59_1 ?_
  refine Ie.indexArr rfl rfl rfl rfl Tryz.underlying56 sz55 rfl rfl (by decide) ?_
  refine Ie.load rfl rfl rfl rfl rfl ag55 (by first | exact .head | exact .tail .head | exact .tail (.tail .head) | exact .tail (.tail (.tail .head)) | exact .base ‹_› ‹_› (by simp)) rfl ?_
  refine Ie.p rfl rfl rfl rfl ?_
  refine Ie.p rfl rfl rfl rfl ?_
  refine Ie.call _ rfl rfl rfl rfl rfl rfl (fun m hm => cl_i32_3 hm.lole (Fit.wr .i32 a) (Fit.wr .i32 b)) ?_
  refine Ie.p rfl rfl rfl rfl ?_
  refine Ie.p rfl rfl rfl rfl ?_
  refine Ie.nil ?_
  refine Ne.seq ?_
  refine Ce.ret ?_
  exact Re.end_ rfl rfl (fun m hm => ⟨rfl, hm.ext⟩)

theorem Arith_i32_2 {a b : Int} {m : AW} (hm : m.lo ≤ m.next) (ha : Fit .i64 a) (hb : Fit .i64 b) : Fc Tryz.prog 19 [.int .i64 2, .int .i64 2, .int .i64 a, .int .i64 b] m fun v m' => v = .tuple ⟨[.int .i64 (wr .i32 (wr .i32 a * wr .i32 b)), .int .i64 0]⟩ ∧ Ext m m' := by
  refine Fc.body (c := _) Tryz.func19 rfl rfl rfl rfl hm ?_
  refine Ce.seq ?_
  refine Ce.region ?_
  refine Ie.p rfl rfl rfl rfl ?_
  refine Ie.p rfl rfl rfl rfl ?_
  refine Ie.nil ?_
  refine Ne.seq ?_
  refine Ce.seq ?_
  refine Ce.region ?_
  refine Ie.p rfl rfl rfl rfl ?_
  refine Ie.calln _ _ _ rfl rfl rfl rfl rfl rfl (fun m hm => of_i32 hm.lole) (fun x hx => ?_)
  clear hx
  refine Ie.p rfl rfl rfl rfl ?_
  refine Ie.p rfl rfl rfl rfl ?_
  refine Ie.p rfl rfl rfl rfl ?_
  refine Ie.alloc rfl rfl rfl rfl zr59 (fun b10 hb10 => ?_)
  refine Ie.store rfl rfl rfl rfl rfl sz59 rfl (by first | exact .head | exact .tail .head | exact .tail (.tail .head) | exact .tail (.tail (.tail .head))) rfl ?_
  refine Ie.p rfl rfl rfl rfl ?_
  refine Ie.nil ?_
  refine Ne.seq ?_
  refine Ce.seq ?_
  refine Ce.seq ?_
  refine Ce.region ?_
  refine Ie.p rfl rfl rfl rfl ?_
  refine Ie.p rfl rfl rfl rfl ?_
  refine Ie.nil ?_
  refine Ne.seq ?_
  refine Ce.cond_false rfl ?_
  refine Ce.skip ?_
  refine Ne.seq ?_
  refine Ce.seq ?_
  refine Ce.block ?_
  refine Ce.seq ?_
  refine Ce.region ?_
  refine Ie.p rfl rfl rfl rfl ?_
  refine Ie.p rfl rfl rfl rfl ?_
  refine Ie.p rfl rfl rfl rfl ?_
  refine Ie.off rfl rfl rfl ?_
  refine Ie.off rfl rfl rfl ?_
  refine Ie.off rfl rfl rfl ?_
  refine Ie.p rfl rfl rfl rfl ?_
  refine Ie.p rfl rfl rfl rfl ?_
  refine Ie.nil ?_
  refine Ne.seq ?_
  refine Ce.cond_false rfl ?_
  refine Ce.seq ?_
  refine Ce.region ?_
  refine Ie.p rfl rfl rfl rfl ?_
  refine Ie.p rfl rfl rfl rfl ?_
  refine Ie.p rfl rfl rfl rfl ?_
  refine Ie.off rfl rfl rfl ?_
  refine Ie.off rfl rfl rfl ?_
  refine Ie.off rfl rfl rfl ?_
  refine Ie.p rfl rfl rfl rfl ?_
  refine Ie.p rfl rfl rfl rfl ?_
  refine Ie.nil ?_
  refine Ne.seq ?_
  refine Ce.cond_false rfl ?_
  refine Ce.skip ?_
  refine Ne.blk ?_
  refine Ne.seq ?_
  refine Ce.seq ?_
  refine Ce.region ?_
  refine Ie.p rfl rfl rfl rfl ?_
  refine Ie.call _ rfl rfl rfl rfl rfl rfl (fun m hm => arithmetic_2 hm.lole) ?_
  refine Ie.p rfl rfl rfl rfl ?_
  refine Ie.p rfl rfl rfl rfl ?_
  refine Ie.p rfl rfl rfl rfl ?_
  refine Ie.p rfl rfl rfl rfl ?_
  refine Ie.p rfl rfl rfl rfl ?_
  refine Ie.nil ?_
  refine Ne.seq ?_
  refine Ce.seq ?_
  refine Ce.seq ?_
  refine Ce.region ?_
  refine Ie.p rfl rfl rfl rfl ?_
  refine Ie.p rfl rfl rfl rfl ?_
  refine Ie.p rfl rfl rfl rfl ?_
  refine Ie.p rfl rfl rfl rfl ?_
  refine Ie.fieldAddr rfl rfl rfl rfl rfl fa59_1 ?_
  refine Ie.indexArr rfl rfl rfl rfl Tryz.underlying56 sz55 rfl rfl (by decide) ?_
  refine Ie.load rfl rfl rfl rfl rfl ag55 (by first | exact .head | exact .tail .head | exact .tail (.tail .head) | exact .tail (.tail (.tail .head)) | exact .base ‹_› ‹_› (by simp)) rfl ?_
  refine Ie.bin (v := .bool false) rfl rfl rfl rfl rfl rfl (by kernel_rfl) ?_
  refine Ie.p rfl rfl rfl rfl ?_
  refine Ie.nil ?_
  refine Ne.seq ?_
  refine Ce.cond_false rfl ?_
  refine Ce.skip ?_
  refine Ne.seq ?_
  refine Ce.seq ?_
  refine Ce.draw [⟨0, .p, true, true, 0⟩, ⟨1, .l, true, true, 1⟩, ⟨2, .p, true, true, 0⟩, ⟨3, .h, true, true, 7⟩, ⟨4, .p, false, false, 0⟩, ⟨5, .l, false, false, 16⟩, ⟨6, .p, false, false, 0⟩, ⟨7, .h, true, true, 127⟩, ⟨8, .p, true, true, 255⟩, ⟨9, .p, true, true, 511⟩] (by kernel_rfl) (by kernel_rfl) (fun base hbase hB => ?_)
  refine De.fieldAddr rfl rfl rfl rfl rfl rfl fa59_0 ?_
  refine De.load rfl rfl rfl rfl rfl rfl rfl rfl ag54 (by first | exact .head | exact .tail .head | exact .tail (.tail .head) | exact .tail (.tail (.tail .head)) | exact .base ‹_› ‹_› (by simp)) rfl ?_
  refine De.p rfl rfl rfl rfl rfl ?_
  refine De.call _ rfl rfl rfl rfl rfl rfl rfl rfl rfl (fun m hm => cl_i32_1 hm.lole ha) ?_
  refine De.fieldAddr rfl rfl rfl rfl rfl rfl fa59_0 ?_
  refine De.loadOld rfl rfl rfl rfl rfl rfl ag54 (by first | exact .head | exact .tail .head | exact .tail (.tail .head) | exact .tail (.tail (.tail .head)) | exact .base ‹_› ‹_› (by simp)) rfl (by first | exact hB _ _ (.head _) | exact hB _ _ (.tail _ (.head _)) | exact hB _ _ (.tail _ (.tail _ (.head _))) | exact hB _ _ (.tail _ (.tail _ (.tail _ (.head _)))) | exact Nat.lt_of_lt_of_le ‹_› hbase) (fun _ => ?_)
  refine De.p rfl rfl rfl rfl rfl ?_
  refine De.call _ rfl rfl rfl rfl rfl rfl rfl rfl rfl (fun m hm => cl_i32_1 hm.lole hb) ?_
  refine De.p rfl rfl rfl rfl rfl ?_
  refine De.p rfl rfl rfl rfl rfl ?_
  refine De.nil ?_
  refine Ne.seq ?_
  refine Ce.seq ?_
  refine Ce.seq ?_
  refine Ce.region ?_
  refine Ie.p rfl rfl rfl rfl ?_
  refine Ie.p rfl rfl rfl rfl ?_
  refine Ie.p rfl rfl rfl rfl ?_
  refine Ie.p rfl rfl rfl rfl ?_
  refine Ie.p rfl rfl rfl rfl ?_
  refine Ie.p rfl rfl rfl rfl ?_
  refine Ie.p rfl rfl rfl rfl ?_
  refine Ie.off rfl rfl rfl ?_
  refine Ie.off rfl rfl rfl ?_
  refine Ie.p rfl rfl rfl rfl ?_
  refine Ie.p rfl rfl rfl rfl ?_
  refine Ie.off rfl rfl rfl ?_
  refine Ie.off rfl rfl rfl ?_
  refine Ie.p rfl rfl rfl rfl ?_
  refine Ie.nil ?_
  refine Ne.seq ?_
  refine Ce.cond_false rfl ?_
  refine Ce.skip ?_
  refine Ne.seq ?_
  refine Ce.seq ?_
  refine Ce.region ?_
  refine Ie.p rfl rfl rfl rfl ?_
  refine Ie.fieldAddr rfl rfl rfl rfl rfl fa59_1 ?_
  refine Ie.indexArr rfl rfl rfl rfl Tryz.underlying56 sz55 rfl rfl (by decide) ?_
  refine Ie.load rfl rfl rfl rfl rfl ag55 (by first | exact .head | exact .tail .head | exact .tail (.tail .head) | exact .tail (.tail (.tail .head)) | exact .base ‹_› ‹_› (by simp)) rfl ?_
  refine Ie.p rfl rfl rfl rfl ?_
  refine Ie.p rfl rfl rfl rfl ?_
  refine Ie.call _ rfl rfl rfl rfl rfl rfl (fun m hm => cl_i32_4 hm.lole (Fit.wr .i32 a) (Fit.wr .i32 b)) ?_
  refine Ie.p rfl rfl rfl rfl ?_
  refine Ie.p rfl rfl rfl rfl ?_
  refine Ie.nil ?_
  refine Ne.seq ?_
  refine Ce.ret ?_
  exact Re.end_ rfl rfl (fun m hm => ⟨rfl, hm.ext⟩)

theorem Arith_i32_3 {a b : Int} {m : AW} (hm : m.lo ≤ m.next) (ha : Fit .i64 a) (hb : Fit .i64 b) (h0 : wr .i32 b ≠ 0) : Fc Tryz.prog 19 [.int .i64 2, .int .i64 3, .int .i64 a, .int .i64 b] m fun v m' => v = .tuple ⟨[.int .i64 (wr .i32 ((wr .i32 a).tdiv (wr .i32 b))), .int .i64 0]⟩ ∧ Ext m m' := by
  refine Fc.body (c := _) Tryz.func19 rfl rfl rfl rfl hm ?_
  refine Ce.seq ?_
  refine Ce.region ?_
  refine Ie.p rfl rfl rfl rfl ?_
  refine Ie.p rfl rfl rfl rfl ?_
  refine Ie.nil ?_
  refine Ne.seq ?_
  refine Ce.seq ?_
  refine Ce.region ?_
  refine Ie.p rfl rfl rfl rfl ?_
  refine Ie.calln _ _ _ rfl rfl rfl rfl rfl rfl (fun m hm => of_i32 hm.lole) (fun x hx => ?_)
  clear hx
  refine Ie.p rfl rfl rfl rfl ?_
  refine Ie.p rfl rfl rfl rfl ?_
  refine Ie.p rfl rfl rfl rfl ?_
  refine Ie.alloc rfl rfl rfl rfl zr59 (fun b10 hb10 => ?_)
  refine Ie.store rfl rfl rfl rfl rfl sz59 rfl (by first | exact .head | exact .tail .head | exact .tail (.tail .head) | exact .tail (.tail (.tail .head))) rfl ?_
  refine Ie.p rfl rfl rfl rfl ?_
  refine Ie.nil ?_
  refine Ne.seq ?_
  refine Ce.seq ?_
  refine Ce.seq ?_
  refine Ce.region ?_
  refine Ie.p rfl rfl rfl rfl ?_
  refine Ie.p rfl rfl rfl rfl ?_
  refine Ie.nil ?_
  refine Ne.seq ?_
  refine Ce.cond_false rfl ?_
  refine Ce.skip ?_
  refine Ne.seq ?_
  refine Ce.seq ?_
  refine Ce.block ?_
  refine Ce.seq ?_
  refine Ce.region ?_
  refine Ie.p rfl rfl rfl rfl ?_
  refine Ie.p rfl rfl rfl rfl ?_
  refine Ie.p rfl rfl rfl rfl ?_
  refine Ie.off rfl rfl rfl ?_
  refine Ie.off rfl rfl rfl ?_
  refine Ie.off rfl rfl rfl ?_
  refine Ie.p rfl rfl rfl rfl ?_
  refine Ie.p rfl rfl rfl rfl ?_
  refine Ie.nil ?_
  refine Ne.seq ?_
  refine Ce.cond_false rfl ?_
  refine Ce.seq ?_
  refine Ce.region ?_
  refine Ie.p rfl rfl rfl rfl ?_
  refine Ie.p rfl rfl rfl rfl ?_
  refine Ie.p rfl rfl rfl rfl ?_
  refine Ie.off rfl rfl rfl ?_
  refine Ie.off rfl rfl rfl ?_
  refine Ie.off rfl rfl rfl ?_
  refine Ie.p rfl rfl rfl rfl ?_
  refine Ie.p rfl rfl rfl rfl ?_
  refine Ie.nil ?_
  refine Ne.seq ?_
  refine Ce.cond_false rfl ?_
  refine Ce.skip ?_
  refine Ne.blk ?_
  refine Ne.seq ?_
  refine Ce.seq ?_
  refine Ce.region ?_
  refine Ie.p rfl rfl rfl rfl ?_
  refine Ie.call _ rfl rfl rfl rfl rfl rfl (fun m hm => arithmetic_3 hm.lole) ?_
  refine Ie.p rfl rfl rfl rfl ?_
  refine Ie.p rfl rfl rfl rfl ?_
  refine Ie.p rfl rfl rfl rfl ?_
  refine Ie.p rfl rfl rfl rfl ?_
  refine Ie.p rfl rfl rfl rfl ?_
  refine Ie.nil ?_
  refine Ne.seq ?_
  refine Ce.seq ?_
  refine Ce.seq ?_
  refine Ce.region ?_
  refine Ie.p rfl rfl rfl rfl ?_
  refine Ie.p rfl rfl rfl rfl ?_
  refine Ie.p rfl rfl rfl rfl ?_
  refine Ie.p rfl rfl rfl rfl ?_
  refine Ie.fieldAddr rfl rfl rfl rfl rfl fa59_1 ?_
  refine Ie.indexArr rfl rfl rfl rfl Tryz.underlying56 sz55 rfl rfl (by decide) ?_
  refine Ie.load rfl rfl rfl rfl rfl ag55 (by first | exact .head | exact .tail .head | exact .tail (.tail .head) | exact .tail (.tail (.tail .head)) | exact .base ‹_› ‹_› (by simp)) rfl ?_
  refine Ie.bin (v := .bool false) rfl rfl rfl rfl rfl rfl (by kernel_rfl) ?_
  refine Ie.p rfl rfl rfl rfl ?_
  refine Ie.nil ?_
  refine Ne.seq ?_
  refine Ce.cond_false rfl ?_
  refine Ce.skip ?_
  refine Ne.seq ?_
  refine Ce.seq ?_
  refine Ce.draw [⟨0, .p, true, true, 0⟩, ⟨1, .l, true, true, 1⟩, ⟨2, .p, true, true, 0⟩, ⟨3, .h, true, true, 7⟩, ⟨4, .p, false, false, 0⟩, ⟨5, .l, false, false, 16⟩, ⟨6, .p, false, false, 0⟩, ⟨7, .h, true, true, 127⟩, ⟨8, .p, true, true, 255⟩, ⟨9, .p, true, true, 511⟩] (by kernel_rfl) (by kernel_rfl) (fun base hbase hB => ?_)
  refine De.fieldAddr rfl rfl rfl rfl rfl rfl fa59_0 ?_
  refine De.load rfl rfl rfl rfl rfl rfl rfl rfl ag54 (by first | exact .head | exact .tail .head | exact .tail (.tail .head) | exact .tail (.tail (.tail .head)) | exact .base ‹_› ‹_› (by simp)) rfl ?_
  refine De.p rfl rfl rfl rfl rfl ?_
  refine De.call _ rfl rfl rfl rfl rfl rfl rfl rfl rfl (fun m hm => cl_i32_1 hm.lole ha) ?_
  refine De.fieldAddr rfl rfl rfl rfl rfl rfl fa59_0 ?_
  refine De.loadOld rfl rfl rfl rfl rfl rfl ag54 (by first | exact .head | exact .tail .head | exact .tail (.tail .head) | exact .tail (.tail (.tail .head)) | exact .base ‹_› ‹_› (by simp)) rfl (by first | exact hB _ _ (.head _) | exact hB _ _ (.tail _ (.head _)) | exact hB _ _ (.tail _ (.tail _ (.head _))) | exact hB _ _ (.tail _ (.tail _ (.tail _ (.head _)))) | exact Nat.lt_of_lt_of_le ‹_› hbase) (fun _ => ?_)
  refine De.p rfl rfl rfl rfl rfl ?_
  refine De.call _ rfl rfl rfl rfl rfl rfl rfl rfl rfl (fun m hm => cl_i32_1 hm.lole hb) ?_
  refine De.p rfl rfl rfl rfl rfl ?_
  refine De.p rfl rfl rfl rfl rfl ?_
  refine De.nil ?_
  refine Ne.seq ?_
  refine Ce.seq ?_
  refine Ce.seq ?_
  refine Ce.region ?_
  refine Ie.p rfl rfl rfl rfl ?_
  refine Ie.p rfl rfl rfl rfl ?_
  refine Ie.p rfl rfl rfl rfl ?_
  refine Ie.off rfl rfl rfl ?_
  refine Ie.off rfl rfl rfl ?_
  refine Ie.p rfl rfl rfl rfl ?_
  refine Ie.p rfl rfl rfl rfl ?_
  refine Ie.p rfl rfl rfl rfl ?_
  refine Ie.p rfl rfl rfl rfl ?_
  refine Ie.p rfl rfl rfl rfl ?_
  refine Ie.p rfl rfl rfl rfl ?_
  refine Ie.p rfl rfl rfl rfl ?_
  refine Ie.p rfl rfl rfl rfl ?_
  refine Ie.p rfl rfl rfl rfl ?_
  refine Ie.nil ?_
  refine Ne.seq ?_
  refine Ce.cond_false (by rw [eqI_eq, decide_eq_false h0]; rfl) ?_
  refine Ce.skip ?_
  refine Ne.seq ?_
  refine Ce.seq ?_
  refine Ce.region ?_
  refine Ie.p rfl rfl rfl rfl ?_
  refine Ie.fieldAddr rfl rfl rfl rfl rfl fa59_1 ?_
  refine Ie.indexArr rfl rfl rfl rfl Tryz.underlying56 sz55 rfl rfl (by decide) ?_
  refine Ie.load rfl rfl rfl rfl rfl ag55 (by first | exact .head | exact .tail .head | exact .tail (.tail .head) | exact .tail (.tail (.tail .head)) | exact .base ‹_› ‹_› (by simp)) rfl ?_
  refine Ie.p rfl rfl rfl rfl ?_
  refine Ie.p rfl rfl rfl rfl ?_
  refine Ie.call _ rfl rfl rfl rfl rfl rfl (fun m hm => cl_i32_5 hm.lole (Fit.wr .i32 a) (Fit.wr .i32 b) h0) ?_
  refine Ie.p rfl rfl rfl rfl ?_
  refine Ie.p rfl rfl rfl rfl ?_
  refine Ie.nil ?_
  refine Ne.seq ?_
  refine Ce.ret ?_
  exact Re.end_ rfl rfl (fun m hm => ⟨rfl, hm.ext⟩)

theorem Arith_i32_3z {a b : Int} {m : AW} (hm : m.lo ≤ m.next) (ha : Fit .i64 a) (hb : Fit .i64 b) (h0 : wr .i32 b = 0) : Fc Tryz.prog 19 [.int .i64 2, .int .i64 3, .int .i64 a, .int .i64 b] m fun v m' => v = .tuple ⟨[.int .i64 0, .int .i64 11]⟩ ∧ Ext m m' := by
  refine Fc.body (c := _) Tryz.func19 rfl rfl rfl rfl hm ?_
  refine Ce.seq ?_
  refine Ce.region ?_
  refine Ie.p rfl rfl rfl rfl ?_
  refine Ie.p rfl rfl rfl rfl ?_
  refine Ie.nil ?_
  refine Ne.seq ?_
  refine Ce.seq ?_
  refine Ce.region ?_
  refine Ie.p rfl rfl rfl rfl ?_
  refine Ie.calln _ _ _ rfl rfl rfl rfl rfl rfl (fun m hm => of_i32 hm.lole) (fun x hx => ?_)
  clear hx
  refine Ie.p rfl rfl rfl rfl ?_
  refine Ie.p rfl rfl rfl rfl ?_
  refine Ie.p rfl rfl rfl rfl ?_
  refine Ie.alloc rfl rfl rfl rfl zr59 (fun b10 hb10 => ?_)
  refine Ie.store rfl rfl rfl rfl rfl sz59 rfl (by first | exact .head | exact .tail .head | exact .tail (.tail .head) | exact .tail (.tail (.tail .head))) rfl ?_
  refine Ie.p rfl rfl rfl rfl ?_
  refine Ie.nil ?_
  refine Ne.seq ?_
  refine Ce.seq ?_
  refine Ce.seq ?_
  refine Ce.region ?_
  refine Ie.p rfl rfl rfl rfl ?_
  refine Ie.p rfl rfl rfl rfl ?_
  refine Ie.nil ?_
  refine Ne.seq ?_
  refine Ce.cond_false rfl ?_
  refine Ce.skip ?_
  refine Ne.seq ?_
  refine Ce.seq ?_
  refine Ce.block ?_
  refine Ce.seq ?_
  refine Ce.region ?_
  refine Ie.p rfl rfl rfl rfl ?_
  refine Ie.p rfl rfl rfl rfl ?_
  refine Ie.p rfl rfl rfl rfl ?_
  refine Ie.off rfl rfl rfl ?_
  refine Ie.off rfl rfl rfl ?_
  refine Ie.off rfl rfl rfl ?_
  refine Ie.p rfl rfl rfl rfl ?_
  refine Ie.p rfl rfl rfl rfl ?_
  refine Ie.nil ?_
  refine Ne.seq ?_
  refine Ce.cond_false rfl ?_
  refine Ce.seq ?_
  refine Ce.region ?_
  refine Ie.p rfl rfl rfl rfl ?_
  refine Ie.p rfl rfl rfl rfl ?_
  refine Ie.p rfl rfl rfl rfl ?_
  refine Ie.off rfl rfl rfl ?_
  refine Ie.off rfl rfl rfl ?_
  refine Ie.off rfl rfl rfl ?_
  refine Ie.p rfl rfl rfl rfl ?_
  refine Ie.p rfl rfl rfl rfl ?_
  refine Ie.nil ?_
  refine Ne.seq ?_
  refine Ce.cond_false rfl ?_
  refine Ce.skip ?_
  refine Ne.blk ?_
  refine Ne.seq ?_
  refine Ce.seq ?_
  refine Ce.region ?_
  refine Ie.p rfl rfl rfl rfl ?_
  refine Ie.call _ rfl rfl rfl rfl rfl rfl (fun m hm => arithmetic_3 hm.lole) ?_
  refine Ie.p rfl rfl rfl rfl ?_
  refine Ie.p rfl rfl rfl rfl ?_
  refine Ie.p rfl rfl rfl rfl ?_
  refine Ie.p rfl rfl rfl rfl ?_
  refine Ie.p rfl rfl rfl rfl ?_
  refine Ie.nil ?_
  refine Ne.seq ?_
  refine Ce.seq ?_
  refine Ce.seq ?_
  refine Ce.region ?_
  refine Ie.p rfl rfl rfl rfl ?_
  refine Ie.p rfl rfl rfl rfl ?_
  refine Ie.p rfl rfl rfl rfl ?_
  refine Ie.p rfl rfl rfl rfl ?_
  refine Ie.fieldAddr rfl rfl rfl rfl rfl fa59_1 ?_
  refine Ie.indexArr rfl rfl rfl rfl Tryz.underlying56 sz55 rfl rfl (by decide) ?_
  refine Ie.load rfl rfl rfl rfl rfl ag55 (by first | exact .head | exact .tail .head | exact .tail (.tail .head) | exact .tail (.tail (.tail .head)) | exact .base ‹_› ‹_› (by simp)) rfl ?_
  refine Ie.bin (v := .bool false) rfl rfl rfl rfl rfl rfl (by kernel_rfl) ?_
  refine Ie.p rfl rfl rfl rfl ?_
  refine Ie.nil ?_
  refine Ne.seq ?_
  refine Ce.cond_false rfl ?_
  refine Ce.skip ?_
  refine Ne.seq ?_
  refine Ce.seq ?_
  refine Ce.draw [⟨0, .p, true, true, 0⟩, ⟨1, .l, true, true, 1⟩, ⟨2, .p, true, true, 0⟩, ⟨3, .h, true, true, 7⟩, ⟨4, .p, false, false, 0⟩, ⟨5, .l, false, false, 16⟩, ⟨6, .p, false, false, 0⟩, ⟨7, .h, true, true, 127⟩, ⟨8, .p, true, true, 255⟩, ⟨9, .p, true, true, 511⟩] (by kernel_rfl) (by kernel_rfl) (fun base hbase hB => ?_)
  refine De.fieldAddr rfl rfl rfl rfl rfl rfl fa59_0 ?_
  refine De.load rfl rfl rfl rfl rfl rfl rfl rfl ag54 (by first | exact .head | exact .tail .head | exact .tail (.tail .head) | exact .tail (.tail (.tail .head)) | exact .base ‹_› ‹_› (by simp)) rfl ?_
  refine De.p rfl rfl rfl rfl rfl ?_
  refine De.call _ rfl rfl rfl rfl rfl rfl rfl rfl rfl (fun m hm => cl_i32_1 hm.lole ha) ?_
  refine De.fieldAddr rfl rfl rfl rfl rfl rfl fa59_0 ?_
  refine De.loadOld rfl rfl rfl rfl rfl rfl ag54 (by first | exact .head | exact .tail .head | exact .tail (.tail .head) | exact .tail (.tail (.tail .head)) | exact .base ‹_› ‹_› (by simp)) rfl (by first | exact hB _ _ (.head _) | exact hB _ _ (.tail _ (.head _)) | exact hB _ _ (.tail _ (.tail _ (.head _))) | exact hB _ _ (.tail _ (.tail _ (.tail _ (.head _)))) | exact Nat.lt_of_lt_of_le ‹_› hbase) (fun _ => ?_)
  refine De.p rfl rfl rfl rfl rfl ?_
  refine De.call _ rfl rfl rfl rfl rfl rfl rfl rfl rfl (fun m hm => cl_i32_1 hm.lole hb) ?_
  refine De.p rfl rfl rfl rfl rfl ?_
  refine De.p rfl rfl rfl rfl rfl ?_
  refine De.nil ?_
  refine Ne.seq ?_
  refine Ce.seq ?_
  refine Ce.seq ?_
  refine Ce.region ?_
  refine Ie.p rfl rfl rfl rfl ?_
  refine Ie.p rfl rfl rfl rfl ?_
  refine Ie.p rfl rfl rfl rfl ?_
  refine Ie.off rfl rfl rfl ?_
  refine Ie.off rfl rfl rfl ?_
  refine Ie.p rfl rfl rfl rfl ?_
  refine Ie.p rfl rfl rfl rfl ?_
  refine Ie.p rfl rfl rfl rfl ?_
  refine Ie.p rfl rfl rfl rfl ?_
  refine Ie.p rfl rfl rfl rfl ?_
  refine Ie.p rfl rfl rfl rfl ?_
  refine Ie.p rfl rfl rfl rfl ?_
  refine Ie.p rfl rfl rfl rfl ?_
  refine Ie.p rfl rfl rfl rfl ?_
  refine Ie.nil ?_
  refine Ne.seq ?_
  refine Ce.cond_true (by rw [eqI_eq, decide_eq_true h0]; rfl) ?_
  refine Ce.seq ?_
  refine Ce.region ?_
  refine Ie.p rfl rfl rfl rfl ?_
  refine Ie.p rfl rfl rfl rfl ?_
  refine Ie.nil ?_
  refine Ne.seq ?_
  refine Ce.ret ?_
  refine Re.seq ?_
  exact Re.end_ rfl rfl (fun m hm => ⟨rfl, hm.ext⟩)

theorem Arith_i32_4 {a b : Int} {m : AW} (hm : m.lo ≤ m.next) (ha : Fit .i64 a) (hb : Fit .i64 b) (h0 : wr .i32 b ≠ 0) : Fc Tryz.prog 19 [.int .i64 2, .int .i64 4, .int .i64 a, .int .i64 b] m fun v m' => v = .tuple ⟨[.int .i64 (wr .i32 ((wr .i32 a).tmod (wr .i32 b))), .int .i64 0]⟩ ∧ Ext m m' := by
  refine Fc.body (c := _) Tryz.func19 rfl rfl rfl rfl hm ?_
  refine Ce.seq ?_
  refine Ce.region ?_
  refine Ie.p rfl rfl rfl rfl ?_
  refine Ie.p rfl rfl rfl rfl ?_
  refine Ie.nil ?_
  refine Ne.seq ?_
  refine Ce.seq ?_
  refine Ce.region ?_
  refine Ie.p rfl rfl rfl rfl ?_
  refine Ie.calln _ _ _ rfl rfl rfl rfl rfl rfl (fun m hm => of_i32 hm.lole) (fun x hx => ?_)
  clear hx
  refine Ie.p rfl rfl rfl rfl ?_
  refine Ie.p rfl rfl rfl rfl ?_
  refine Ie.p rfl rfl rfl rfl ?_
  refine Ie.alloc rfl rfl rfl rfl zr59 (fun b10 hb10 => ?_)
  refine Ie.store rfl rfl rfl rfl rfl sz59 rfl (by first | exact .head | exact .tail .head | exact .tail (.tail .head) | exact .tail (.tail (.tail .head))) rfl ?_
  refine Ie.p rfl rfl rfl rfl ?_
  refine Ie.nil ?_
  refine Ne.seq ?_
  refine Ce.seq ?_
  refine Ce.seq ?_
  refine Ce.region ?_
  refine Ie.p rfl rfl rfl rfl ?_
  refine Ie.p rfl rfl rfl rfl ?_
  refine Ie.nil ?_
  refine Ne.seq ?_
  refine Ce.cond_false rfl ?_
  refine Ce.skip ?_
  refine Ne.seq ?_
  refine Ce.seq ?_
  refine Ce.block ?_
  refine Ce.seq ?_
  refine Ce.region ?_
  refine Ie.p rfl rfl rfl rfl ?_
  refine Ie.p rfl rfl rfl rfl ?_
  refine Ie.p rfl rfl rfl rfl ?_
  refine Ie.off rfl rfl rfl ?_
  refine Ie.off rfl rfl rfl ?_
  refine Ie.off rfl rfl rfl ?_
  refine Ie.p rfl rfl rfl rfl ?_
  refine Ie.p rfl rfl rfl rfl ?_
  refine Ie.nil ?_
  refine Ne.seq ?_
  refine Ce.cond_false rfl ?_
  refine Ce.seq ?_
  refine Ce.region ?_
  refine Ie.p rfl rfl rfl rfl ?_
  refine Ie.p rfl rfl rfl rfl ?_
  refine Ie.p rfl rfl rfl rfl ?_
  refine Ie.off rfl rfl rfl ?_
  refine Ie.off rfl rfl rfl ?_
  refine Ie.off rfl rfl rfl ?_
  refine Ie.p rfl rfl rfl rfl ?_
  refine Ie.p rfl rfl rfl rfl ?_
  refine Ie.nil ?_
  refine Ne.seq ?_
  refine Ce.cond_false rfl ?_
  refine Ce.skip ?_
  refine Ne.blk ?_
  refine Ne.seq ?_
  refine Ce.seq ?_
  refine Ce.region ?_
  refine Ie.p rfl rfl rfl rfl ?_
  refine Ie.call _ rfl rfl rfl rfl rfl rfl (fun m hm => arithmetic_4 hm.lole) ?_
  refine Ie.p rfl rfl rfl rfl ?_
  refine Ie.p rfl rfl rfl rfl ?_
  refine Ie.p rfl rfl rfl rfl ?_
  refine Ie.p rfl rfl rfl rfl ?_
  refine Ie.p rfl rfl rfl rfl ?_
  refine Ie.nil ?_
  refine Ne.seq ?_
  refine Ce.seq ?_
  refine Ce.seq ?_
  refine Ce.region ?_
  refine Ie.p rfl rfl rfl rfl ?_
  refine Ie.p rfl rfl rfl rfl ?_
  refine Ie.p rfl rfl rfl rfl ?_
  refine Ie.p rfl rfl rfl rfl ?_
  refine Ie.fieldAddr rfl rfl rfl rfl rfl fa59_1 ?_
  refine Ie.indexArr rfl rfl rfl rfl Tryz.underlying56 sz55 rfl rfl (by decide) ?_
  refine Ie.load rfl rfl rfl rfl rfl ag55 (by first | exact .head | exact .tail .head | exact .tail (.tail .head) | exact .tail (.tail (.tail .head)) | exact .base ‹_› ‹_› (by simp)) rfl ?_
  refine Ie.bin (v := .bool false) rfl rfl rfl rfl rfl rfl (by kernel_rfl) ?_
  refine Ie.p rfl rfl rfl rfl ?_
  refine Ie.nil ?_
  refine Ne.seq ?_
  refine Ce.cond_false rfl ?_
  refine Ce.skip ?_
  refine Ne.seq ?_
  refine Ce.seq ?_
  refine Ce.draw [⟨0, .p, true, true, 0⟩, ⟨1, .l, true, true, 1⟩, ⟨2, .p, true, true, 0⟩, ⟨3, .h, true, true, 7⟩, ⟨4, .p, false, false, 0⟩, ⟨5, .l, false, false, 16⟩, ⟨6, .p, false, false, 0⟩, ⟨7, .h, true, true, 127⟩, ⟨8, .p, true, true, 255⟩, ⟨9, .p, true, true, 511⟩] (by kernel_rfl) (by kernel_rfl) (fun base hbase hB => ?_)
  refine De.fieldAddr rfl rfl rfl rfl rfl rfl fa59_0 ?_
  refine De.load rfl rfl rfl rfl rfl rfl rfl rfl ag54 (by first | exact .head | exact .tail .head | exact .tail (.tail .head) | exact .tail (.tail (.tail .head)) | exact .base ‹_› ‹_› (by simp)) rfl ?_
  refine De.p rfl rfl rfl rfl rfl ?_
  refine De.call _ rfl rfl rfl rfl rfl rfl rfl rfl rfl (fun m hm => cl_i32_1 hm.lole ha) ?_
  refine De.fieldAddr rfl rfl rfl rfl rfl rfl fa59_0 ?_
  refine De.loadOld rfl rfl rfl rfl rfl rfl ag54 (by first | exact .head | exact .tail .head | exact .tail (.tail .head) | exact .tail (.tail (.tail .head)) | exact .base ‹_› ‹_› (by simp)) rfl (by first | exact hB _ _ (.head _) | exact hB _ _ (.tail _ (.head _)) | exact hB _ _ (.tail _ (.tail _ (.head _))) | exact hB _ _ (.tail _ (.tail _ (.tail _ (.head _)))) | exact Nat.lt_of_lt_of_le ‹_› hbase) (fun _ => ?_)
  refine De.p rfl rfl rfl rfl rfl ?_
  refine De.call _ rfl rfl rfl rfl rfl rfl rfl rfl rfl (fun m hm => cl_i32_1 hm.lole hb) ?_
  refine De.p rfl rfl rfl rfl rfl ?_
  refine De.p rfl rfl rfl rfl rfl ?_
  refine De.nil ?_
  refine Ne.seq ?_
  refine Ce.seq ?_
  refine Ce.seq ?_
  refine Ce.region ?_
  refine Ie.p rfl rfl rfl rfl ?_
  refine Ie.p rfl rfl rfl rfl ?_
  refine Ie.p rfl rfl rfl rfl ?_
  refine Ie.p rfl rfl rfl rfl ?_
  refine Ie.p rfl rfl rfl rfl ?_
  refine Ie.p rfl rfl rfl rfl ?_
  refine Ie.p rfl rfl rfl rfl ?_
  refine Ie.p rfl rfl rfl rfl ?_
  refine Ie.p rfl rfl rfl rfl ?_
  refine Ie.p rfl rfl rfl rfl ?_
  refine Ie.p rfl rfl rfl rfl ?_
  refine Ie.p rfl rfl rfl rfl ?_
  refine Ie.p rfl rfl rfl rfl ?_
  refine Ie.p rfl rfl rfl rfl ?_
  refine Ie.nil ?_
  refine Ne.seq ?_
  refine Ce.cond_false (by rw [eqI_eq, decide_eq_false h0]; rfl) ?_
  refine Ce.skip ?_
  refine Ne.seq ?_
  refine Ce.seq ?_
  refine Ce.region ?_
  refine Ie.p rfl rfl rfl rfl ?_
  refine Ie.fieldAddr rfl rfl rfl rfl rfl fa59_1 ?_
  refine Ie.indexArr rfl rfl rfl rfl Tryz.underlying56 sz55 rfl rfl (by decide) ?_
  refine Ie.load rfl rfl rfl rfl rfl ag55 (by first | exact .head | exact .tail .head | exact .tail (.tail .head) | exact .tail (.tail (.tail .head)) | exact .base ‹_› ‹_› (by simp)) rfl ?_
  refine Ie.p rfl rfl rfl rfl ?_
  refine Ie.p rfl rfl rfl rfl ?_
  refine Ie.call _ rfl rfl rfl rfl rfl rfl (fun m hm => cl_i32_6 hm.lole (Fit.wr .i32 a) (Fit.wr .i32 b) h0) ?_
  refine Ie.p rfl rfl rfl rfl ?_
  refine Ie.p rfl rfl rfl rfl ?_
  refine Ie.nil ?_
  refine Ne.seq ?_
  refine Ce.ret ?_
  exact Re.end_ rfl rfl (fun m hm => ⟨rfl, hm.ext⟩)

theorem Arith_i32_4z {a b : Int} {m : AW} (hm : m.lo ≤ m.next) (ha : Fit .i64 a) (hb : Fit .i64 b) (h0 : wr .i32 b = 0) : Fc Tryz.prog 19 [.int .i64 2, .int .i64 4, .int .i64 a, .int .i64 b] m fun v m' => v = .tuple ⟨[.int .i64 0, .int .i64 11]⟩ ∧ Ext m m' := by
  refine Fc.body (c := _) Tryz.func19 rfl rfl rfl rfl hm ?_
  refine Ce.seq ?_
  refine Ce.region ?_
  refine Ie.p rfl rfl rfl rfl ?_
  refine Ie.p rfl rfl rfl rfl ?_
  refine Ie.nil ?_
  refine Ne.seq ?_
  refine Ce.seq ?_
  refine Ce.region ?_
  refine Ie.p rfl rfl rfl rfl ?_
  refine Ie.calln _ _ _ rfl rfl rfl rfl rfl rfl (fun m hm => of_i32 hm.lole) (fun x hx => ?_)
  clear hx
  refine Ie.p rfl rfl rfl rfl ?_
  refine Ie.p rfl rfl rfl rfl ?_
  refine Ie.p rfl rfl rfl rfl ?_
  refine Ie.alloc rfl rfl rfl rfl zr59 (fun b10 hb10 => ?_)
  refine Ie.store rfl rfl rfl rfl rfl sz59 rfl (by first | exact .head | exact .tail .head | exact .tail (.tail .head) | exact .tail (.tail (.tail .head))) rfl ?_
  refine Ie.p rfl rfl rfl rfl ?_
  refine Ie.nil ?_
  refine Ne.seq ?_
  refine Ce.seq ?_
  refine Ce.seq ?_
  refine Ce.region ?_
  refine Ie.p rfl rfl rfl rfl ?_
  refine Ie.p rfl rfl rfl rfl ?_
  refine Ie.nil ?_
  refine Ne.seq ?_
  refine Ce.cond_false rfl ?_
  refine Ce.skip ?_
  refine Ne.seq ?_
  refine Ce.seq ?_
  refine Ce.block ?_
  refine Ce.seq ?_
  refine Ce.region ?_
  refine Ie.p rfl rfl rfl rfl ?_
  refine Ie.p rfl rfl rfl rfl ?_
  refine Ie.p rfl rfl rfl rfl ?_
  refine Ie.off rfl rfl rfl ?_
  refine Ie.off rfl rfl rfl ?_
  refine Ie.off rfl rfl rfl ?_
  refine Ie.p rfl rfl rfl rfl ?_
  refine Ie.p rfl rfl rfl rfl ?_
  refine Ie.nil ?_
  refine Ne.seq ?_
  refine Ce.cond_false rfl ?_
  refine Ce.seq ?_
  refine Ce.region ?_
  refine Ie.p rfl rfl rfl rfl ?_
  refine Ie.p rfl rfl rfl rfl ?_
  refine Ie.p rfl rfl rfl rfl ?_
  refine Ie.off rfl rfl rfl ?_
  refine Ie.off rfl rfl rfl ?_
  refine Ie.off rfl rfl rfl ?_
  refine Ie.p rfl rfl rfl rfl ?_
  refine Ie.p rfl rfl rfl rfl ?_
  refine Ie.nil ?_
  refine Ne.seq ?_
  refine Ce.cond_false rfl ?_
  refine Ce.skip ?_
  refine Ne.blk ?_
  refine Ne.seq ?_
  refine Ce.seq ?_
  refine Ce.region ?_
  refine Ie.p rfl rfl rfl rfl ?_
  refine Ie.call _ rfl rfl rfl rfl rfl rfl (fun m hm => arithmetic_4 hm.lole) ?_
  refine Ie.p rfl rfl rfl rfl ?_
  refine Ie.p rfl rfl rfl rfl ?_
  refine Ie.p rfl rfl rfl rfl ?_
  refine Ie.p rfl rfl rfl rfl ?_
  refine Ie.p rfl rfl rfl rfl ?_
  refine Ie.nil ?_
  refine Ne.seq ?_
  refine Ce.seq ?_
  refine Ce.seq ?_
  refine Ce.region ?_
  refine Ie.p rfl rfl rfl rfl ?_
  refine Ie.p rfl rfl rfl rfl ?_
  refine Ie.p rfl rfl rfl rfl ?_
  refine Ie.p rfl rfl rfl rfl ?_
  refine Ie.fieldAddr rfl rfl rfl rfl rfl fa59_1 ?_
  refine Ie.indexArr rfl rfl rfl rfl Tryz.underlying56 sz55 rfl rfl (by decide) ?_
  refine Ie.load rfl rfl rfl rfl rfl ag55 (by first | exact .head | exact .tail .head | exact .tail (.tail .head) | exact .tail (.tail (.tail .head)) | exact .base ‹_› ‹_› (by simp)) rfl ?_
  refine Ie.bin (v := .bool false) rfl rfl rfl rfl rfl rfl (by kernel_rfl) ?_
  refine Ie.p rfl rfl rfl rfl ?_
  refine Ie.nil ?_
  refine Ne.seq ?_
  refine Ce.cond_false rfl ?_
  refine Ce.skip ?_
  refine Ne.seq ?_
  refine Ce.seq ?_
  refine Ce.draw [⟨0, .p, true, true, 0⟩, ⟨1, .l, true, true, 1⟩, ⟨2, .p, true, true, 0⟩, ⟨3, .h, true, true, 7⟩, ⟨4, .p, false, false, 0⟩, ⟨5, .l, false, false, 16⟩, ⟨6, .p, false, false, 0⟩, ⟨7, .h, true, true, 127⟩, ⟨8, .p, true, true, 255⟩, ⟨9, .p, true, true, 511⟩] (by kernel_rfl) (by kernel_rfl) (fun base hbase hB => ?_)
  refine De.fieldAddr rfl rfl rfl rfl rfl rfl fa59_0 ?_
  refine De.load rfl rfl rfl rfl rfl rfl rfl rfl ag54 (by first | exact .head | exact .tail .head | exact .tail (.tail .head) | exact .tail (.tail (.tail .head)) | exact .base ‹_› ‹_› (by simp)) rfl ?_
  refine De.p rfl rfl rfl rfl rfl ?_
  refine De.call _ rfl rfl rfl rfl rfl rfl rfl rfl rfl (fun m hm => cl_i32_1 hm.lole ha) ?_
  refine De.fieldAddr rfl rfl rfl rfl rfl rfl fa59_0 ?_
  refine De.loadOld rfl rfl rfl rfl rfl rfl ag54 (by first | exact .head | exact .tail .head | exact .tail (.tail .head) | exact .tail (.tail (.tail .head)) | exact .base ‹_› ‹_› (by simp)) rfl (by first | exact hB _ _ (.head _) | exact hB _ _ (.tail _ (.head _)) | exact hB _ _ (.tail _ (.tail _ (.head _))) | exact hB _ _ (.tail _ (.tail _ (.tail _ (.head _)))) | exact Nat.lt_of_lt_of_le ‹_› hbase) (fun _ => ?_)
  refine De.p rfl rfl rfl rfl rfl ?_
  refine De.call _ rfl rfl rfl rfl rfl rfl rfl rfl rfl (fun m hm => cl_i32_1 hm.lole hb) ?_
  refine De.p rfl rfl rfl rfl rfl ?_
  refine De.p rfl rfl rfl rfl rfl ?_
  refine De.nil ?_
  refine Ne.seq ?_
  refine Ce.seq ?_
  refine Ce.seq ?_
  refine Ce.region ?_
  refine Ie.p rfl rfl rfl rfl ?_
  refine Ie.p rfl rfl rfl rfl ?_
  refine Ie.p rfl rfl rfl rfl ?_
  refine Ie.p rfl rfl rfl rfl ?_
  refine Ie.p rfl rfl rfl rfl ?_
  refine Ie.p rfl rfl rfl rfl ?_
  refine Ie.p rfl rfl rfl rfl ?_
  refine Ie.p rfl rfl rfl rfl ?_
  refine Ie.p rfl rfl rfl rfl ?_
  refine Ie.p rfl rfl rfl rfl ?_
  refine Ie.p rfl rfl rfl rfl ?_
  refine Ie.p rfl rfl rfl rfl ?_
  refine Ie.p rfl rfl rfl rfl ?_
  refine Ie.p rfl rfl rfl rfl ?_
  refine Ie.nil ?_
  refine Ne.seq ?_
  refine Ce.cond_true (by rw [eqI_eq, decide_eq_true h0]; rfl) ?_
  refine Ce.seq ?_
  refine Ce.region ?_
  refine Ie.p rfl rfl rfl rfl ?_
  refine Ie.p rfl rfl rfl rfl ?_
  refine Ie.nil ?_
  refine Ne.seq ?_
  refine Ce.ret ?_
  refine Re.seq ?_
  exact Re.end_ rfl rfl (fun m hm => ⟨rfl, hm.ext⟩)

theorem ArithF_i32_0 {a b : Int} {m : AW} (hm : m.lo ≤ m.next) (ha : Fit .i32 a) (hb : Fit .i32 b) : Fc Tryz.prog 19 [.int .i64 2, .int .i64 0, .int .i64 a, .int .i64 b] m fun v m' => v = .tuple ⟨[.int .i64 (wr .i32 (a + b)), .int .i64 0]⟩ ∧ Ext m m' := by
  have h := Arith_i32_0 hm (ha.le (by decide) (by decide)) (hb.le (by decide) (by decide))
  rw [show wr .i32 a = a from ha, show wr .i32 b = b from hb] at h
  exact h

theorem ArithF_i32_1 {a b : Int} {m : AW} (hm : m.lo ≤ m.next) (ha : Fit .i32 a) (hb : Fit .i32 b) : Fc Tryz.prog 19 [.int .i64 2, .int .i64 1, .int .i64 a, .int .i64 b] m fun v m' => v = .tuple ⟨[.int .i64 (wr .i32 (a - b)), .int .i64 0]⟩ ∧ Ext m m' := by
  have h := Arith_i32_1 hm (ha.le (by decide) (by decide)) (hb.le (by decide) (by decide))
  rw [show wr .i32 a = a from ha, show wr .i32 b = b from hb] at h
  exact h

theorem ArithF_i32_2 {a b : Int} {m : AW} (hm : m.lo ≤ m.next) (ha : Fit .i32 a) (hb : Fit .i32 b) : Fc Tryz.prog 19 [.int .i64 2, .int .i64 2, .int .i64 a, .int .i64 b] m fun v m' => v = .tuple ⟨[.int .i64 (wr .i32 (a * b)), .int .i64 0]⟩ ∧ Ext m m' := by
  have h := Arith_i32_2 hm (ha.le (by decide) (by decide)) (hb.le (by decide) (by decide))
  rw [show wr .i32 a = a from ha, show wr .i32 b = b from hb] at h
  exact h

theorem ArithF_i32_3 {a b : Int} {m : AW} (hm : m.lo ≤ m.next) (ha : Fit .i32 a) (hb : Fit .i32 b) (h0 : b ≠ 0) : Fc Tryz.prog 19 [.int .i64 2, .int .i64 3, .int .i64 a, .int .i64 b] m fun v m' => v = .tuple ⟨[.int .i64 (wr .i32 (a.tdiv b)), .int .i64 0]⟩ ∧ Ext m m' := by
  have h := Arith_i32_3 hm (ha.le (by decide) (by decide)) (hb.le (by decide) (by decide)) (by rw [show wr .i32 b = b from hb]; exact h0)
  rw [show wr .i32 a = a from ha, show wr .i32 b = b from hb] at h
  exact h

theorem ArithZ_i32_3 {a : Int} {m : AW} (hm : m.lo ≤ m.next) (ha : Fit .i32 a) : Fc Tryz.prog 19 [.int .i64 2, .int .i64 3, .int .i64 a, .int .i64 0] m fun v m' => v = .tuple ⟨[.int .i64 0, .int .i64 11]⟩ ∧ Ext m m' :=
  Arith_i32_3z hm (ha.le (by decide) (by decide)) (show wr .i64 0 = 0 from rfl) rfl

theorem ArithF_i32_4 {a b : Int} {m : AW} (hm : m.lo ≤ m.next) (ha : Fit .i32 a) (hb : Fit .i32 b) (h0 : b ≠ 0) : Fc Tryz.prog 19 [.int .i64 2, .int .i64 4, .int .i64 a, .int .i64 b] m fun v m' => v = .tuple ⟨[.int .i64 (wr .i32 (a.tmod b)), .int .i64 0]⟩ ∧ Ext m m' := by
  have h := Arith_i32_4 hm (ha.le (by decide) (by decide)) (hb.le (by decide) (by decide)) (by rw [show wr .i32 b = b from hb]; exact h0)
  rw [show wr .i32 a = a from ha, show wr .i32 b = b from hb] at h
  exact h

theorem ArithZ_i32_4 {a : Int} {m : AW} (hm : m.lo ≤ m.next) (ha : Fit .i32 a) : Fc Tryz.prog 19 [.int .i64 2, .int .i64 4, .int .i64 a, .int .i64 0] m fun v m' => v = .tuple ⟨[.int .i64 0, .int .i64 11]⟩ ∧ Ext m m' :=
  Arith_i32_4z hm (ha.le (by decide) (by decide)) (show wr .i64 0 = 0 from rfl) rfl

theorem Wrap_i64 {n : Int} {m : AW} (hm : m.lo ≤ m.next) (h : Fit .i64 n) : Fc Tryz.prog 20 [.int .i64 3, .int .i64 n] m fun v m' => v = .tuple ⟨[.int .i64 (wr .i64 n), .int .i64 0]⟩ ∧ Ext m m' := by
  refine Fc.body (c := _) Tryz.func20 rfl rfl rfl rfl hm ?_
  refine Ce.seq ?_
  refine Ce.region ?_
  refine Ie.p rfl rfl rfl rfl ?_
  refine Ie.p rfl rfl rfl rfl ?_
  refine Ie.nil ?_
  refine Ne.seq ?_
  refine Ce.seq ?_
  refine Ce.region ?_
  refine Ie.p rfl rfl rfl rfl ?_
  refine Ie.calln _ _ _ rfl rfl rfl rfl rfl rfl (fun m hm => of_i64 hm.lole) (fun x hx => ?_)
  clear hx
  refine Ie.p rfl rfl rfl rfl ?_
  refine Ie.p rfl rfl rfl rfl ?_
  refine Ie.p rfl rfl rfl rfl ?_
  refine Ie.alloc rfl rfl rfl rfl zr59 (fun b6 hb6 => ?_)
  refine Ie.store rfl rfl rfl rfl rfl sz59 rfl (by first | exact .head | exact .tail .head | exact .tail (.tail .head) | exact .tail (.tail (.tail .head))) rfl ?_
  refine Ie.p rfl rfl rfl rfl ?_
  refine Ie.nil ?_
  refine Ne.seq ?_
  refine Ce.seq ?_
  refine Ce.seq ?_
  refine Ce.region ?_
  refine Ie.p rfl rfl rfl rfl ?_
  refine Ie.p rfl rfl rfl rfl ?_
  refine Ie.nil ?_
  refine Ne.seq ?_
  refine Ce.cond_false rfl ?_
  refine Ce.skip ?_
  refine Ne.seq ?_
  refine Ce.seq ?_
  refine Ce.region ?_
  refine Ie.fieldAddr rfl rfl rfl rfl rfl fa59_0 ?_
  refine Ie.load rfl rfl rfl rfl rfl ag54 (by first | exact .head | exact .tail .head | exact .tail (.tail .head) | exact .tail (.tail (.tail .head)) | exact .base ‹_› ‹_› (by simp)) rfl ?_
  refine Ie.p rfl rfl rfl rfl ?_
  refine Ie.call _ rfl rfl rfl rfl rfl rfl (fun m hm => cl_i64_1 hm.lole h) ?_
  refine Ie.p rfl rfl rfl rfl ?_
  refine Ie.p rfl rfl rfl rfl ?_
  refine Ie.nil ?_
  refine Ne.seq ?_
  refine Ce.ret ?_
  exact Re.end_ rfl rfl (fun m hm => ⟨rfl, hm.ext⟩)

theorem Arith_i64_0 {a b : Int} {m : AW} (hm : m.lo ≤ m.next) (ha : Fit .i64 a) (hb : Fit .i64 b) : Fc Tryz.prog 19 [.int .i64 3, .int .i64 0, .int .i64 a, .int .i64 b] m fun v m' => v = .tuple ⟨[.int .i64 (wr .i64 (wr .i64 a + wr .i64 b)), .int .i64 0]⟩ ∧ Ext m m' := by
  refine Fc.body (c := _) Tryz.func19 rfl rfl rfl rfl hm ?_
  refine Ce.seq ?_
  refine Ce.region ?_
  refine Ie.p rfl rfl rfl rfl ?_
  refine Ie.p rfl rfl rfl rfl ?_
  refine Ie.nil ?_
  refine Ne.seq ?_
  refine Ce.seq ?_
  refine Ce.region ?_
  refine Ie.p rfl rfl rfl rfl ?_
  refine Ie.calln _ _ _ rfl rfl rfl rfl rfl rfl (fun m hm => of_i64 hm.lole) (fun x hx => ?_)
  clear hx
  refine Ie.p rfl rfl rfl rfl ?_
  refine Ie.p rfl rfl rfl rfl ?_
  refine Ie.p rfl rfl rfl rfl ?_
  refine Ie.alloc rfl rfl rfl rfl zr59 (fun b10 hb10 => ?_)
  refine Ie.store rfl rfl rfl rfl rfl sz59 rfl (by first | exact .head | exact .tail .head | exact .tail (.tail .head) | exact .tail (.tail (.tail .head))) rfl ?_
  refine Ie.p rfl rfl rfl rfl ?_
  refine Ie.nil ?_
  refine Ne.seq ?_
  refine Ce.seq ?_
  refine Ce.seq ?_
  refine Ce.region ?_
  refine Ie.p rfl rfl rfl rfl ?_
  refine Ie.p rfl rfl rfl rfl ?_
  refine Ie.nil ?_
  refine Ne.seq ?_
  refine Ce.cond_false rfl ?_
  refine Ce.skip ?_
  refine Ne.seq ?_
  refine Ce.seq ?_
  refine Ce.block ?_
  refine Ce.seq ?_
  refine Ce.region ?_
  refine Ie.p rfl rfl rfl rfl ?_
  refine Ie.p rfl rfl rfl rfl ?_
  refine Ie.p rfl rfl rfl rfl ?_
  refine Ie.off rfl rfl rfl ?_
  refine Ie.off rfl rfl rfl ?_
  refine Ie.off rfl rfl rfl ?_
  refine Ie.p rfl rfl rfl rfl ?_
  refine Ie.p rfl rfl rfl rfl ?_
  refine Ie.nil ?_
  refine Ne.seq ?_
  refine Ce.cond_false rfl ?_
  refine Ce.seq ?_
  refine Ce.region ?_
  refine Ie.p rfl rfl rfl rfl ?_
  refine Ie.p rfl rfl rfl rfl ?_
  refine Ie.p rfl rfl rfl rfl ?_
  refine Ie.off rfl rfl rfl ?_
  refine Ie.off rfl rfl rfl ?_
  refine Ie.off rfl rfl rfl ?_
  refine Ie.p rfl rfl rfl rfl ?_
  refine Ie.p rfl rfl rfl rfl ?_
  refine Ie.nil ?_
  refine Ne.seq ?_
  refine Ce.cond_false rfl ?_
  refine Ce.skip ?_
  refine Ne.blk ?_
  refine Ne.seq ?_
  refine Ce.seq ?_
  refine Ce.region ?_
  refine Ie.p rfl rfl rfl rfl ?_
  refine Ie.call _ rfl rfl rfl rfl rfl rfl (fun m hm => arithmetic_0 hm.lole) ?_
  refine Ie.p rfl rfl rfl rfl ?_
  refine Ie.p rfl rfl rfl rfl ?_
  refine Ie.p rfl rfl rfl rfl ?_
  refine Ie.p rfl rfl rfl rfl ?_
  refine Ie.p rfl rfl rfl rfl ?_
  refine Ie.nil ?_
  refine Ne.seq ?_
  refine Ce.seq ?_
  refine Ce.seq ?_
  refine Ce.region ?_
  refine Ie.p rfl rfl rfl rfl ?_
  refine Ie.p rfl rfl rfl rfl ?_
  refine Ie.p rfl rfl rfl rfl ?_
  refine Ie.p rfl rfl rfl rfl ?_
  refine Ie.fieldAddr rfl rfl rfl rfl rfl fa59_1 ?_
  refine Ie.indexArr rfl rfl rfl rfl Tryz.underlying56 sz55 rfl rfl (by decide) ?_
  refine Ie.load rfl rfl rfl rfl rfl ag55 (by first | exact .head | exact .tail .head | exact .tail (.tail .head) | exact .tail (.tail (.tail .head)) | exact .base ‹_› ‹_› (by simp)) rfl ?_
  refine Ie.bin (v := .bool false) rfl rfl rfl rfl rfl rfl (by kernel_rfl) ?_
  refine Ie.p rfl rfl rfl rfl ?_
  refine Ie.nil ?_
  refine Ne.seq ?_
  refine Ce.cond_false rfl ?_
  refine Ce.skip ?_
  refine Ne.seq ?_
  refine Ce.seq ?_
  refine Ce.draw [⟨0, .p, true, true, 0⟩, ⟨1, .l, true, true, 1⟩, ⟨2, .p, true, true, 0⟩, ⟨3, .h, true, true, 7⟩, ⟨4, .p, false, false, 0⟩, ⟨5, .l, false, false, 16⟩, ⟨6, .p, false, false, 0⟩, ⟨7, .h, true, true, 127⟩, ⟨8, .p, true, true, 255⟩, ⟨9, .p, true, true, 511⟩] (by kernel_rfl) (by kernel_rfl) (fun base hbase hB => ?_)
  refine De.fieldAddr rfl rfl rfl rfl rfl rfl fa59_0 ?_
  refine De.load rfl rfl rfl rfl rfl rfl rfl rfl ag54 (by first | exact .head | exact .tail .head | exact .tail (.tail .head) | exact .tail (.tail (.tail .head)) | exact .base ‹_› ‹_› (by simp)) rfl ?_
  refine De.p rfl rfl rfl rfl rfl ?_
  refine De.call _ rfl rfl rfl rfl rfl rfl rfl rfl rfl (fun m hm => cl_i64_1 hm.lole ha) ?_
  refine De.fieldAddr rfl rfl rfl rfl rfl rfl fa59_0 ?_
  refine De.loadOld rfl rfl rfl rfl rfl rfl ag54 (by first | exact .head | exact .tail .head | exact .tail (.tail .head) | exact .tail (.tail (.tail .head)) | exact .base ‹_› ‹_› (by simp)) rfl (by first | exact hB _ _ (.head _) | exact hB _ _ (.tail _ (.head _)) | exact hB _ _ (.tail _ (.tail _ (.head _))) | exact hB _ _ (.tail _ (.tail _ (.tail _ (.head _)))) | exact Nat.lt_of_lt_of_le ‹_› hbase) (fun _ => ?_)
  refine De.p rfl rfl rfl rfl rfl ?_
  refine De.call _ rfl rfl rfl rfl rfl rfl rfl rfl rfl (fun m hm => cl_i64_1 hm.lole hb) ?_
  refine De.p rfl rfl rfl rfl rfl ?_
  refine De.p rfl rfl rfl rfl rfl ?_
  refine De.nil ?_
  refine Ne.seq ?_
  refine Ce.seq ?_
  refine Ce.seq ?_
  refine Ce.region ?_
  refine Ie.p rfl rfl rfl rfl ?_
  refine Ie.p rfl rfl rfl rfl ?_
  refine Ie.p rfl rfl rfl rfl ?_
  refine Ie.p rfl rfl rfl rfl ?_
  refine Ie.p rfl rfl rfl rfl ?_
  refine Ie.p rfl rfl rfl rfl ?_
  refine Ie.p rfl rfl rfl rfl ?_
  refine Ie.off rfl rfl rfl ?_
  refine Ie.off rfl rfl rfl ?_
  refine Ie.p rfl rfl rfl rfl ?_
  refine Ie.p rfl rfl rfl rfl ?_
  refine Ie.off rfl rfl rfl ?_
  refine Ie.off rfl rfl rfl ?_
  refine Ie.p rfl rfl rfl rfl ?_
  refine Ie.nil ?_
  refine Ne.seq ?_
  refine Ce.cond_false rfl ?_
  refine Ce.skip ?_
  refine Ne.seq ?_
  refine Ce.seq ?_
  refine Ce.region ?_
  refine Ie.p rfl rfl rfl rfl ?_
  refine Ie.fieldAddr rfl rfl rfl rfl rfl fa59_1 ?_
  refine Ie.indexArr rfl rfl rfl rfl Tryz.underlying56 sz55 rfl rfl (by decide) ?_
  refine Ie.load rfl rfl rfl rfl rfl ag55 (by first | exact .head | exact .tail .head | exact .tail (.tail .head) | exact .tail (.tail (.tail .head)) | exact .base ‹_› ‹_› (by simp)) rfl ?_
  refine Ie.p rfl rfl rfl rfl ?_
  refine Ie.p rfl rfl rfl rfl ?_
  refine Ie.call _ rfl rfl rfl rfl rfl rfl (fun m hm => cl_i64_2 hm.lole (Fit.wr .i64 a) (Fit.wr .i64 b)) ?_
  refine Ie.p rfl rfl rfl rfl ?_
  refine Ie.p rfl rfl rfl rfl ?_
  refine Ie.nil ?_
  refine Ne.seq ?_
  refine Ce.ret ?_
  exact Re.end_ rfl rfl (fun m hm => ⟨rfl, hm.ext⟩)

theorem Arith_i64_1 {a b : Int} {m : AW} (hm : m.lo ≤ m.next) (ha : Fit .i64 a) (hb : Fit .i64 b) : Fc Tryz.prog 19 [.int .i64 3, .int .i64 1, .int .i64 a, .int .i64 b] m fun v m' => v = .tuple ⟨[.int .i64 (wr .i64 (wr .i64 a - wr .i64 b)), .int .i64 0]⟩ ∧ Ext m m' := by
  refine Fc.body (c := _) Tryz.func19 rfl rfl rfl rfl hm ?_
  refine Ce.seq ?_
  refine Ce.region ?_
  refine Ie.p rfl rfl rfl rfl ?_
  refine Ie.p rfl rfl rfl rfl ?_
  refine Ie.nil ?_
  refine Ne.seq ?_
  refine Ce.seq ?_
  refine Ce.region ?_
  refine Ie.p rfl rfl rfl rfl ?_
  refine Ie.calln _ _ _ rfl rfl rfl rfl rfl rfl (fun m hm => of_i64 hm.lole) (fun x hx => ?_)
  clear hx
  refine Ie.p rfl rfl rfl rfl ?_
  refine Ie.p rfl rfl rfl rfl ?_
  refine Ie.p rfl rfl rfl rfl ?_
  refine Ie.alloc rfl rfl rfl rfl zr59 (fun b10 hb10 => ?_)
  refine Ie.store rfl rfl rfl rfl rfl sz59 rfl (by first | exact .head | exact .tail .head | exact .tail (.tail .head) | exact .tail (.tail (.tail .head))) rfl ?_
  refine Ie.p rfl rfl rfl rfl ?_
  refine Ie.nil ?_
  refine Ne.seq ?_
  refine Ce.seq ?_
  refine Ce.seq ?_
  refine Ce.region ?_
  refine Ie.p rfl rfl rfl rfl ?_
  refine Ie.p rfl rfl rfl rfl ?_
  refine Ie.nil ?_
  refine Ne.seq ?_
  refine Ce.cond_false rfl ?_
  refine Ce.skip ?_
  refine Ne.seq ?_
  refine Ce.seq ?_
  refine Ce.block ?_
  refine Ce.seq ?_
  refine Ce.region ?_
  refine Ie.p rfl rfl rfl rfl ?_
  refine Ie.p rfl rfl rfl rfl ?_
  refine Ie.p rfl rfl rfl rfl ?_
  refine Ie.off rfl rfl rfl ?_
  refine Ie.off rfl rfl rfl ?_
  refine Ie.off rfl rfl rfl ?_
  refine Ie.p rfl rfl rfl rfl ?_
  refine Ie.p rfl rfl rfl rfl ?_
  refine Ie.nil ?_
  refine Ne.seq ?_
  refine Ce.cond_false rfl ?_
  refine Ce.seq ?_
  refine Ce.region ?_
  refine Ie.p rfl rfl rfl rfl ?_
  refine Ie.p rfl rfl rfl rfl ?_
  refine Ie.p rfl rfl rfl rfl ?_
  refine Ie.off rfl rfl rfl ?_
  refine Ie.off rfl rfl rfl ?_
  refine Ie.off rfl rfl rfl ?_
  refine Ie.p rfl rfl rfl rfl ?_
  refine Ie.p rfl rfl rfl rfl ?_
  refine Ie.nil ?_
  refine Ne.seq ?_
  refine Ce.cond_false rfl ?_
  refine Ce.skip ?_
  refine Ne.blk ?_
  refine Ne.seq ?_
  refine Ce.seq ?_
  refine Ce.region ?_
  refine Ie.p rfl rfl rfl rfl ?_
  refine Ie.call _ rfl rfl rfl rfl rfl rfl (fun m hm => arithmetic_1 hm.lole) ?_
  refine Ie.p rfl rfl rfl rfl ?_
  refine Ie.p rfl rfl rfl rfl ?_
  refine Ie.p rfl rfl rfl rfl ?_
  refine Ie.p rfl rfl rfl rfl ?_
  refine Ie.p rfl rfl rfl rfl ?_
  refine Ie.nil ?_
  refine Ne.seq ?_
  refine Ce.seq ?_
  refine Ce.seq ?_
  refine Ce.region ?_
  refine Ie.p rfl rfl rfl rfl ?_
  refine Ie.p rfl rfl rfl rfl ?_
  refine Ie.p rfl rfl rfl rfl ?_
  refine Ie.p rfl rfl rfl rfl ?_
  refine Ie.fieldAddr rfl rfl rfl rfl rfl fa59_1 ?_
  refine Ie.indexArr rfl rfl rfl rfl Tryz.underlying56 sz55 rfl rfl (by decide) ?_
  refine Ie.load rfl rfl rfl rfl rfl ag55 (by first | exact .head | exact .tail .head | exact .tail (.tail .head) | exact .tail (.tail (.tail .head)) | exact .base ‹_› ‹_› (by simp)) rfl ?_
  refine Ie.bin (v := .bool false) rfl rfl rfl rfl rfl rfl (by kernel_rfl) ?_
  refine Ie.p rfl rfl rfl rfl ?_
  refine Ie.nil ?_
  refine Ne.seq ?_
  refine Ce.cond_false rfl ?_
  refine Ce.skip ?_
  refine Ne.seq ?_
  refine Ce.seq ?_
  refine Ce.draw [⟨0, .p, true, true, 0⟩, ⟨1, .l, true, true, 1⟩, ⟨2, .p, true, true, 0⟩, ⟨3, .h, true, true, 7⟩, ⟨4, .p, false, false, 0⟩, ⟨5, .l, false, false, 16⟩, ⟨6, .p, false, false, 0⟩, ⟨7, .h, true, true, 127⟩, ⟨8, .p, true, true, 255⟩, ⟨9, .p, true, true, 511⟩] (by kernel_rfl) (by kernel_rfl) (fun base hbase hB => ?_)
  refine De.fieldAddr rfl rfl rfl rfl rfl rfl fa59_0 ?_
  refine De.load rfl rfl rfl rfl rfl rfl rfl rfl ag54 (by first | exact .head | exact .tail .head | exact .tail (.tail .head) | exact .tail (.tail (.tail .head)) | exact .base ‹_› ‹_› (by simp)) rfl ?_
  refine De.p rfl rfl rfl rfl rfl ?_
  refine De.call _ rfl rfl rfl rfl rfl rfl rfl rfl rfl (fun m hm => cl_i64_1 hm.lole ha) ?_
  refine De.fieldAddr rfl rfl rfl rfl rfl rfl fa59_0 ?_
  refine De.loadOld rfl rfl rfl rfl rfl rfl ag54 (by first | exact .head | exact .tail .head | exact .tail (.tail .head) | exact .tail (.tail (.tail .head)) | exact .base ‹_› ‹_› (by simp)) rfl (by first | exact hB _ _ (.head _) | exact hB _ _ (.tail _ (.head _)) | exact hB _ _ (.tail _ (.tail _ (.head _))) | exact hB _ _ (.tail _ (.tail _ (.tail _ (.head _)))) | exact Nat.lt_of_lt_of_le ‹_› hbase) (fun _ => ?_)
  refine De.p rfl rfl rfl rfl rfl ?_
  refine De.call _ rfl rfl rfl rfl rfl rfl rfl rfl rfl (fun m hm => cl_i64_1 hm.lole hb) ?_
  refine De.p rfl rfl rfl rfl rfl ?_
  refine De.p rfl rfl rfl rfl rfl ?_
  refine De.nil ?_
  refine Ne.seq ?_
  refine Ce.seq ?_
  refine Ce.seq ?_
  refine Ce.region ?_
  refine Ie.p rfl rfl rfl rfl ?_
  refine Ie.p rfl rfl rfl rfl ?_
  refine Ie.p rfl rfl rfl rfl ?_
  refine Ie.p rfl rfl rfl rfl ?_
  refine Ie.p rfl rfl rfl rfl ?_
  refine Ie.p rfl rfl rfl rfl ?_
  refine Ie.p rfl rfl rfl rfl ?_
  refine Ie.off rfl rfl rfl ?_
  refine Ie.off rfl rfl rfl ?_
  refine Ie.p rfl rfl rfl rfl ?_
  refine Ie.p rfl rfl rfl rfl ?_
  refine Ie.off rfl rfl rfl ?_
  refine Ie.off rfl rfl rfl ?_
  refine Ie.p rfl rfl rfl rfl ?_
  refine Ie.nil ?_
  refine Ne.seq ?_
  refine Ce.cond_false rfl ?_
  refine Ce.skip ?_
  refine Ne.seq ?_
  refine Ce.seq ?_
  refine Ce.region ?_
  refine Ie.p rfl rfl rfl rfl ?_
  refine Ie.fieldAddr rfl rfl rfl rfl rfl fa59_1 ?_
  refine Ie.indexArr rfl rfl rfl rfl Tryz.underlying56 sz55 rfl rfl (by decide) ?_
  refine Ie.load rfl rfl rfl rfl rfl ag55 (by first | exact .head | exact .tail .head | exact .tail (.tail .head) | exact .tail (.tail (.tail .head)) | exact .base ‹_› ‹_› (by simp)) rfl ?_
  refine Ie.p rfl rfl rfl rfl ?_
  refine Ie.p rfl rfl rfl rfl ?_
  refine Ie.call _ rfl rfl rfl rfl rfl rfl (fun m hm => cl_i64_3 hm.lole (Fit.wr .i64 a) (Fit.wr .i64 b)) ?_
  refine Ie.p rfl rfl rfl rfl ?_
  refine Ie.p rfl rfl rfl rfl ?_
  refine Ie.nil ?_
  refine Ne.seq ?_
  refine Ce.ret ?_
  exact Re.end_ rfl rfl (fun m hm => ⟨rfl, hm.ext⟩)

theorem Arith_i64_2 {a b : Int} {m : AW} (hm : m.lo ≤ m.next) (ha : Fit .i64 a) (hb : Fit .i64 b) : Fc Tryz.prog 19 [.int .i64 3, .int .i64 2, .int .i64 a, .int .i64 b] m fun v m' => v = .tuple ⟨[.int .i64 (wr .i64 (wr .i64 a * wr .i64 b)), .int .i64 0]⟩ ∧ Ext m m' := by
  refine Fc.body (c := _) Tryz.func19 rfl rfl rfl rfl hm ?_
  refine Ce.seq ?_
  refine Ce.region ?_
  refine Ie.p rfl rfl rfl rfl ?_
  refine Ie.p rfl rfl rfl rfl ?_
  refine Ie.nil ?_
  refine Ne.seq ?_
  refine Ce.seq ?_
  refine Ce.region ?_
  refine Ie.p rfl rfl rfl rfl ?_
  refine Ie.calln _ _ _ rfl rfl rfl rfl rfl rfl (fun m hm => of_i64 hm.lole) (fun x hx => ?_)
  clear hx
  refine Ie.p rfl rfl rfl rfl ?_
  refine Ie.p rfl rfl rfl rfl ?_
  refine Ie.p rfl rfl rfl rfl ?_
  refine Ie.alloc rfl rfl rfl rfl zr59 (fun b10 hb10 => ?_)
  refine Ie.store rfl rfl rfl rfl rfl sz59 rfl (by first | exact .head | exact .tail .head | exact .tail (.tail .head) | exact .tail (.tail (.tail .head))) rfl ?_
  refine Ie.p rfl rfl rfl rfl ?_
  refine Ie.nil ?_
  refine Ne.seq ?_
  refine Ce.seq ?_
  refine Ce.seq ?_
  refine Ce.region ?_
  refine Ie.p rfl rfl rfl rfl ?_
  refine Ie.p rfl rfl rfl rfl ?_
  refine Ie.nil ?_
  refine Ne.seq ?_
  refine Ce.cond_false rfl ?_
  refine Ce.skip ?_
  refine Ne.seq ?_
  refine Ce.seq ?_
  refine Ce.block ?_
  refine Ce.seq ?_
  refine Ce.region ?_
  refine Ie.p rfl rfl rfl rfl ?_
  refine Ie.p rfl rfl rfl rfl ?_
  refine Ie.p rfl rfl rfl rfl ?_
  refine Ie.off rfl rfl rfl ?_
  refine Ie.off rfl rfl rfl ?_
  refine Ie.off rfl rfl rfl ?_
  refine Ie.p rfl rfl rfl rfl ?_
  refine Ie.p rfl rfl rfl rfl ?_
  refine Ie.nil ?_
  refine Ne.seq ?_
  refine Ce.cond_false rfl ?_
  refine Ce.seq ?_
  refine Ce.region ?_
  refine Ie.p rfl rfl rfl rfl ?_
  refine Ie.p rfl rfl rfl rfl ?_
  refine Ie.p rfl rfl rfl rfl ?_
  refine Ie.off rfl rfl rfl ?_
  refine Ie.off rfl rfl rfl ?_
  refine Ie.off rfl rfl rfl ?_
  refine Ie.p rfl rfl rfl rfl ?_
  refine Ie.p rfl rfl rfl rfl ?_
  refine Ie.nil ?_
  refine Ne.seq ?_
  refine Ce.cond_false rfl ?_
  refine Ce.skip ?_
  refine Ne.blk ?_
  refine Ne.seq ?_
  refine Ce.seq ?_
  refine Ce.region ?_
  refine Ie.p rfl rfl rfl rfl ?_
  refine Ie.call _ rfl rfl rfl rfl rfl rfl (fun m hm => arithmetic_2 hm.lole) ?_
  refine Ie.p rfl rfl rfl rfl ?_
  refine Ie.p rfl rfl rfl rfl ?_
  refine Ie.p rfl rfl rfl rfl ?_
  refine Ie.p rfl rfl rfl rfl ?_
  refine Ie.p rfl rfl rfl rfl ?_
  refine Ie.nil ?_
  refine Ne.seq ?_
  refine Ce.seq ?_
  refine Ce.seq ?_
  refine Ce.region ?_
  refine Ie.p rfl rfl rfl rfl ?_
  refine Ie.p rfl rfl rfl rfl ?_
  refine Ie.p rfl rfl rfl rfl ?_
  refine Ie.p rfl rfl rfl rfl ?_
  refine Ie.fieldAddr rfl rfl rfl rfl rfl fa59_1 ?_
  refine Ie.indexArr rfl rfl rfl rfl Tryz.underlying56 sz55 rfl rfl (by decide) ?_
  refine Ie.load rfl rfl rfl rfl rfl ag55 (by first | exact .head | exact .tail .head | exact .tail (.tail .head) | exact .tail (.tail (.tail .head)) | exact .base ‹_› ‹_› (by simp)) rfl ?_
  refine Ie.bin (v := .bool false) rfl rfl rfl rfl rfl rfl (by kernel_rfl) ?_
  refine Ie.p rfl rfl rfl rfl ?_
  refine Ie.nil ?_
  refine Ne.seq ?_
  refine Ce.cond_false rfl ?_
  refine Ce.skip ?_
  refine Ne.seq ?_
  refine Ce.seq ?_
  refine Ce.draw [⟨0, .p, true, true, 0⟩, ⟨1, .l, true, true, 1⟩, ⟨2, .p, true, true, 0⟩, ⟨3, .h, true, true, 7⟩, ⟨4, .p, false, false, 0⟩, ⟨5, .l, false, false, 16⟩, ⟨6, .p, false, false, 0⟩, ⟨7, .h, true, true, 127⟩, ⟨8, .p, true, true, 255⟩, ⟨9, .p, true, true, 511⟩] (by kernel_rfl) (by kernel_rfl) (fun base hbase hB => ?_)
  refine De.fieldAddr rfl rfl rfl rfl rfl rfl fa59_0 ?_
  refine De.load rfl rfl rfl rfl rfl rfl rfl rfl ag54 (by first | exact .head | exact .tail .head | exact .tail (.tail .head) | exact .tail (.tail (.tail .head)) | exact .base ‹_› ‹_› (by simp)) rfl ?_
  refine De.p rfl rfl rfl rfl rfl ?_
  refine De.call _ rfl rfl rfl rfl rfl rfl rfl rfl rfl (fun m hm => cl_i64_1 hm.lole ha) ?_
  refine De.fieldAddr rfl rfl rfl rfl rfl rfl fa59_0 ?_
  refine De.loadOld rfl rfl rfl rfl rfl rfl ag54 (by first | exact .head | exact .tail .head | exact .tail (.tail .head) | exact .tail (.tail (.tail .head)) | exact .base ‹_› ‹_› (by simp)) rfl (by first | exact hB _ _ (.head _) | exact hB _ _ (.tail _ (.head _)) | exact hB _ _ (.tail _ (.tail _ (.head _))) | exact hB _ _ (.tail _ (.tail _ (.tail _ (.head _)))) | exact Nat.lt_of_lt_of_le ‹_› hbase) (fun _ => ?_)
  refine De.p rfl rfl rfl rfl rfl ?_
  refine De.call _ rfl rfl rfl rfl rfl rfl rfl rfl rfl (fun m hm => cl_i64_1 hm.lole hb) ?_
  refine De.p rfl rfl rfl rfl rfl ?_
  refine De.p rfl rfl rfl rfl rfl ?_
  refine De.nil ?_
  refine Ne.seq ?_
  refine Ce.seq ?_
  refine Ce.seq ?_
  refine Ce.region ?_
  refine Ie.p rfl rfl rfl rfl ?_
  refine Ie.p rfl rfl rfl rfl ?_
  refine Ie.p rfl rfl rfl rfl ?_
  refine Ie.p rfl rfl rfl rfl ?_
  refine Ie.p rfl rfl rfl rfl ?_
  refine Ie.p rfl rfl rfl rfl ?_
  refine Ie.p rfl rfl rfl rfl ?_
  refine Ie.off rfl rfl rfl ?_
  refine Ie.off rfl rfl rfl ?_
  refine Ie.p rfl rfl rfl rfl ?_
  refine Ie.p rfl rfl rfl rfl ?_
  refine Ie.off rfl rfl rfl ?_
  refine Ie.off rfl rfl rfl ?_
  refine Ie.p rfl rfl rfl rfl ?_
  refine Ie.nil ?_
  refine Ne.seq ?_
  refine Ce.cond_false rfl ?_
  refine Ce.skip ?_
  refine Ne.seq ?_
  refine Ce.seq ?_
  refine Ce.region ?_
  refine Ie.p rfl rfl rfl rfl ?_
  refine Ie.fieldAddr rfl rfl rfl rfl rfl fa59_1 ?_
  refine Ie.indexArr rfl rfl rfl rfl Tryz.underlying56 sz55 rfl rfl (by decide) ?_
  refine Ie.load rfl rfl rfl rfl rfl ag55 (by first | exact .head | exact .tail .head | exact .tail (.tail .head) | exact .tail (.tail (.tail .head)) | exact .base ‹_› ‹_› (by simp)) rfl ?_
  refine Ie.p rfl rfl rfl rfl ?_
  refine Ie.p rfl rfl rfl rfl ?_
  refine Ie.call _ rfl rfl rfl rfl rfl rfl (fun m hm => cl_i64_4 hm.lole (Fit.wr .i64 a) (Fit.wr .i64 b)) ?_
  refine Ie.p rfl rfl rfl rfl ?_
  refine Ie.p rfl rfl rfl rfl ?_
  refine Ie.nil ?_
  refine Ne.seq ?_
  refine Ce.ret ?_
  exact Re.end_ rfl rfl (fun m hm => ⟨rfl, hm.ext⟩)

theorem Arith_i64_3 {a b : Int} {m : AW} (hm : m.lo ≤ m.next) (ha : Fit .i64 a) (hb : Fit .i64 b) (h0 : wr .i64 b ≠ 0) : Fc Tryz.prog 19 [.int .i64 3, .int .i64 3, .int .i64 a, .int .i64 b] m fun v m' => v = .tuple ⟨[.int .i64 (wr .i64 ((wr .i64 a).tdiv (wr .i64 b))), .int .i64 0]⟩ ∧ Ext m m' := by
  refine Fc.body (c := _) Tryz.func19 rfl rfl rfl rfl hm ?_
  refine Ce.seq ?_
  refine Ce.region ?_
  refine Ie.p rfl rfl rfl rfl ?_
  refine Ie.p rfl rfl rfl rfl ?_
  refine Ie.nil ?_
  refine Ne.seq ?_
  refine Ce.seq ?_
  refine Ce.region ?_
  refine Ie.p rfl rfl rfl rfl ?_
  refine Ie.calln _ _ _ rfl rfl rfl rfl rfl rfl (fun m hm => of_i64 hm.lole) (fun x hx => ?_)
  clear hx
  refine Ie.p rfl rfl rfl rfl ?_
  refine Ie.p rfl rfl rfl rfl ?_
  refine Ie.p rfl rfl rfl rfl ?_
  refine Ie.alloc rfl rfl rfl rfl zr59 (fun b10 hb10 => ?_)
  refine Ie.store rfl rfl rfl rfl rfl sz59 rfl (by first | exact .head | exact .tail .head | exact .tail (.tail .head) | exact .tail (.tail (.tail .head))) rfl ?_
  refine Ie.p rfl rfl rfl rfl ?_
  refine Ie.nil ?_
  refine Ne.seq ?_
  refine Ce.seq ?_
  refine Ce.seq ?_
  refine Ce.region ?_
  refine Ie.p rfl rfl rfl rfl ?_
  refine Ie.p rfl rfl rfl rfl ?_
  refine Ie.nil ?_
  refine Ne.seq ?_
  refine Ce.cond_false rfl ?_
  refine Ce.skip ?_
  refine Ne.seq ?_
  refine Ce.seq ?_
  refine Ce.block ?_
  refine Ce.seq ?_
  refine Ce.region ?_
  refine Ie.p rfl rfl rfl rfl ?_
  refine Ie.p rfl rfl rfl rfl ?_
  refine Ie.p rfl rfl rfl rfl ?_
  refine Ie.off rfl rfl rfl ?_
  refine Ie.off rfl rfl rfl ?_
  refine Ie.off rfl rfl rfl ?_
  refine Ie.p rfl rfl rfl rfl ?_
  refine Ie.p rfl rfl rfl rfl ?_
  refine Ie.nil ?_
  refine Ne.seq ?_
  refine Ce.cond_false rfl ?_
  refine Ce.seq ?_
  refine Ce.region ?_
  refine Ie.p rfl rfl rfl rfl ?_
  refine Ie.p rfl rfl rfl rfl ?_
  refine Ie.p rfl rfl rfl rfl ?_
  refine Ie.off rfl rfl rfl ?_
  refine Ie.off rfl rfl rfl ?_
  refine Ie.off rfl rfl rfl ?_
  refine Ie.p rfl rfl rfl rfl ?_
  refine Ie.p rfl rfl rfl rfl ?_
  refine Ie.nil ?_
  refine Ne.seq ?_
  refine Ce.cond_false rfl ?_
  refine Ce.skip ?_
  refine Ne.blk ?_
  refine Ne.seq ?_
  refine Ce.seq ?_
  refine Ce.region ?_
  refine Ie.p rfl rfl rfl rfl ?_
  refine Ie.call _ rfl rfl rfl rfl rfl rfl (fun m hm => arithmetic_3 hm.lole) ?_
  refine Ie.p rfl rfl rfl rfl ?_
  refine Ie.p rfl rfl rfl rfl ?_
  refine Ie.p rfl rfl rfl rfl ?_
  refine Ie.p rfl rfl rfl rfl ?_
  refine Ie.p rfl rfl rfl rfl ?_
  refine Ie.nil ?_
  refine Ne.seq ?_
  refine Ce.seq ?_
  refine Ce.seq ?_
  refine Ce.region ?_
  refine Ie.p rfl rfl rfl rfl ?_
  refine Ie.p rfl rfl rfl rfl ?_
  refine Ie.p rfl rfl rfl rfl ?_
  refine Ie.p rfl rfl rfl rfl ?_
  refine Ie.fieldAddr rfl rfl rfl rfl rfl fa59_1 ?_
  refine Ie.indexArr rfl rfl rfl rfl Tryz.underlying56 sz55 rfl rfl (by decide) ?_
  refine Ie.load rfl rfl rfl rfl rfl ag55 (by first | exact .head | exact .tail .head | exact .tail (.tail .head) | exact .tail (.tail (.tail .head)) | exact .base ‹_› ‹_› (by simp)) rfl ?_
  refine Ie.bin (v := .bool false) rfl rfl rfl rfl rfl rfl (by kernel_rfl) ?_
  refine Ie.p rfl rfl rfl rfl ?_
  refine Ie.nil ?_
  refine Ne.seq ?_
  refine Ce.cond_false rfl ?_
  refine Ce.skip ?_
  refine Ne.seq ?_
  refine Ce.seq ?_
  refine Ce.draw [⟨0, .p, true, true, 0⟩, ⟨1, .l, true, true, 1⟩, ⟨2, .p, true, true, 0⟩, ⟨3, .h, true, true, 7⟩, ⟨4, .p, false, false, 0⟩, ⟨5, .l, false, false, 16⟩, ⟨6, .p, false, false, 0⟩, ⟨7, .h, true, true, 127⟩, ⟨8, .p, true, true, 255⟩, ⟨9, .p, true, true, 511⟩] (by kernel_rfl) (by kernel_rfl) (fun base hbase hB => ?_)
  refine De.fieldAddr rfl rfl rfl rfl rfl rfl fa59_0 ?_
  refine De.load rfl rfl rfl rfl rfl rfl rfl rfl ag54 (by first | exact .head | exact .tail .head | exact .tail (.tail .head) | exact .tail (.tail (.tail .head)) | exact .base ‹_› ‹_› (by simp)) rfl ?_
  refine De.p rfl rfl rfl rfl rfl ?_
  refine De.call _ rfl rfl rfl rfl rfl rfl rfl rfl rfl (fun m hm => cl_i64_1 hm.lole ha) ?_
  refine De.fieldAddr rfl rfl rfl rfl rfl rfl fa59_0 ?_
  refine De.loadOld rfl rfl rfl rfl rfl rfl ag54 (by first | exact .head | exact .tail .head | exact .tail (.tail .head) | exact .tail (.tail (.tail .head)) | exact .base ‹_› ‹_› (by simp)) rfl (by first | exact hB _ _ (.head _) | exact hB _ _ (.tail _ (.head _)) | exact hB _ _ (.tail _ (.tail _ (.head _))) | exact hB _ _ (.tail _ (.tail _ (.tail _ (.head _)))) | exact Nat.lt_of_lt_of_le ‹_› hbase) (fun _ => ?_)
  refine De.p rfl rfl rfl rfl rfl ?_
  refine De.call _ rfl rfl rfl rfl rfl rfl rfl rfl rfl (fun m hm => cl_i64_1 hm.lole hb) ?_
  refine De.p rfl rfl rfl rfl rfl ?_
  refine De.p rfl rfl rfl rfl rfl ?_
  refine De.nil ?_
  refine Ne.seq ?_
  refine Ce.seq ?_
  refine Ce.seq ?_
  refine Ce.region ?_
  refine Ie.p rfl rfl rfl rfl ?_
  refine Ie.p rfl rfl rfl rfl ?_
  refine Ie.p rfl rfl rfl rfl ?_
  refine Ie.off rfl rfl rfl ?_
  refine Ie.off rfl rfl rfl ?_
  refine Ie.p rfl rfl rfl rfl ?_
  refine Ie.p rfl rfl rfl rfl ?_
  refine Ie.p rfl rfl rfl rfl ?_
  refine Ie.p rfl rfl rfl rfl ?_
  refine Ie.p rfl rfl rfl rfl ?_
  refine Ie.p rfl rfl rfl rfl ?_
  refine Ie.p rfl rfl rfl rfl ?_
  refine Ie.p rfl rfl rfl rfl ?_
  refine Ie.p rfl rfl rfl rfl ?_
  refine Ie.nil ?_
  refine Ne.seq ?_
  refine Ce.cond_false (by rw [eqI_eq, decide_eq_false h0]; rfl) ?_
  refine Ce.skip ?_
  refine Ne.seq ?_
  refine Ce.seq ?_
  refine Ce.region ?_
  refine Ie.p rfl rfl rfl rfl ?_
  refine Ie.fieldAddr rfl rfl rfl rfl rfl fa59_1 ?_
  refine Ie.indexArr rfl rfl rfl rfl Tryz.underlying56 sz55 rfl rfl (by decide) ?_
  refine Ie.load rfl rfl rfl rfl rfl ag55 (by first | exact .head | exact .tail .head | exact .tail (.tail .head) | exact .tail (.tail (.tail .head)) | exact .base ‹_› ‹_› (by simp)) rfl ?_
  refine Ie.p rfl rfl rfl rfl ?_
  refine Ie.p rfl rfl rfl rfl ?_
  refine Ie.call _ rfl rfl rfl rfl rfl rfl (fun m hm => cl_i64_5 hm.lole (Fit.wr .i64 a) (Fit.wr .i64 b) h0) ?_
  refine Ie.p rfl rfl rfl rfl ?_
  refine Ie.p rfl rfl rfl rfl ?_
  refine Ie.nil ?_
  refine Ne.seq ?_
  refine Ce.ret ?_
  exact Re.end_ rfl rfl (fun m hm => ⟨rfl, hm.ext⟩)

theorem Arith_i64_3z {a b : Int} {m : AW} (hm : m.lo ≤ m.next) (ha : Fit .i64 a) (hb : Fit .i64 b) (h0 : wr .i64 b = 0) : Fc Tryz.prog 19 [.int .i64 3, .int .i64 3, .int .i64 a, .int .i64 b] m fun v m' => v = .tuple ⟨[.int .i64 0, .int .i64 11]⟩ ∧ Ext m m' := by
  refine Fc.body (c := _) Tryz.func19 rfl rfl rfl rfl hm ?_
  refine Ce.seq ?_
  refine Ce.region ?_
  refine Ie.p rfl rfl rfl rfl ?_
  refine Ie.p rfl rfl rfl rfl ?_
  refine Ie.nil ?_
  refine Ne.seq ?_
  refine Ce.seq ?_
  refine Ce.region ?_
  refine Ie.p rfl rfl rfl rfl ?_
  refine Ie.calln _ _ _ rfl rfl rfl rfl rfl rfl (fun m hm => of_i64 hm.lole) (fun x hx => ?_)
  clear hx
  refine Ie.p rfl rfl rfl rfl ?_
  refine Ie.p rfl rfl rfl rfl ?_
  refine Ie.p rfl rfl rfl rfl ?_
  refine Ie.alloc rfl rfl rfl rfl zr59 (fun b10 hb10 => ?_)
  refine Ie.store rfl rfl rfl rfl rfl sz59 rfl (by first | exact .head | exact .tail .head | exact .tail (.tail .head) | exact .tail (.tail (.tail .head))) rfl ?_
  refine Ie.p rfl rfl rfl rfl ?_
  refine Ie.nil ?_
  refine Ne.seq ?_
  refine Ce.seq ?_
  refine Ce.seq ?_
  refine Ce.region ?_
  refine Ie.p rfl rfl rfl rfl ?_
  refine Ie.p rfl rfl rfl rfl ?_
  refine Ie.nil ?_
  refine Ne.seq ?_
  refine Ce.cond_false rfl ?_
  refine Ce.skip ?_
  refine Ne.seq ?_
  refine Ce.seq ?_
  refine Ce.block ?_
  refine Ce.seq ?_
  refine Ce.region ?_
  refine Ie.p rfl rfl rfl rfl ?_
  refine Ie.p rfl rfl rfl rfl ?_
  refine Ie.p rfl rfl rfl rfl ?_
  refine Ie.off rfl rfl rfl ?_
  refine Ie.off rfl rfl rfl ?_
  refine Ie.off rfl rfl rfl ?_
  refine Ie.p rfl rfl rfl rfl ?_
  refine Ie.p rfl rfl rfl rfl ?_
  refine Ie.nil ?_
  refine Ne.seq ?_
  refine Ce.cond_false rfl ?_
  refine Ce.seq ?_
  refine Ce.region ?_
  refine Ie.p rfl rfl rfl rfl ?_
  refine Ie.p rfl rfl rfl rfl ?_
  refine Ie.p rfl rfl rfl rfl ?_
  refine Ie.off rfl rfl rfl ?_
  refine Ie.off rfl rfl rfl ?_
  refine Ie.off rfl rfl rfl ?_
  refine Ie.p rfl rfl rfl rfl ?_
  refine Ie.p rfl rfl rfl rfl ?_
  refine Ie.nil ?_
  refine Ne.seq ?_
  refine Ce.cond_false rfl ?_
  refine Ce.skip ?_
  refine Ne.blk ?_
  refine Ne.seq ?_
  refine Ce.seq ?_
  refine Ce.region ?_
  refine Ie.p rfl rfl rfl rfl ?_
  refine Ie.call _ rfl rfl rfl rfl rfl rfl (fun m hm => arithmetic_3 hm.lole) ?_
  refine Ie.p rfl rfl rfl rfl ?_
  refine Ie.p rfl rfl rfl rfl ?_
  refine Ie.p rfl rfl rfl rfl ?_
  refine Ie.p rfl rfl rfl rfl ?_
  refine Ie.p rfl rfl rfl rfl ?_
  refine Ie.nil ?_
  refine Ne.seq ?_
  refine Ce.seq ?_
  refine Ce.seq ?_
  refine Ce.region ?_
  refine Ie.p rfl rfl rfl rfl ?_
  refine Ie.p rfl rfl rfl rfl ?_
  refine Ie.p rfl rfl rfl rfl ?_
  refine Ie.p rfl rfl rfl rfl ?_
  refine Ie.fieldAddr rfl rfl rfl rfl rfl fa59_1 ?_
  refine Ie.indexArr rfl rfl rfl rfl Tryz.underlying56 sz55 rfl rfl (by decide) ?_
  refine Ie.load rfl rfl rfl rfl rfl ag55 (by first | exact .head | exact .tail .head | exact .tail (.tail .head) | exact .tail (.tail (.tail .head)) | exact .base ‹_› ‹_› (by simp)) rfl ?_
  refine Ie.bin (v := .bool false) rfl rfl rfl rfl rfl rfl (by kernel_rfl) ?_
  refine Ie.p rfl rfl rfl rfl ?_
  refine Ie.nil ?_
  refine Ne.seq ?_
  refine Ce.cond_false rfl ?_
  refine Ce.skip ?_
  refine Ne.seq ?_
  refine Ce.seq ?_
  refine Ce.draw [⟨0, .p, true, true, 0⟩, ⟨1, .l, true, true, 1⟩, ⟨2, .p, true, true, 0⟩, ⟨3, .h, true, true, 7⟩, ⟨4, .p, false, false, 0⟩, ⟨5, .l, false, false, 16⟩, ⟨6, .p, false, false, 0⟩, ⟨7, .h, true, true, 127⟩, ⟨8, .p, true, true, 255⟩, ⟨9, .p, true, true, 511⟩] (by kernel_rfl) (by kernel_rfl) (fun base hbase hB => ?_)
  refine De.fieldAddr rfl rfl rfl rfl rfl rfl fa59_0 ?_
  refine De.load rfl rfl rfl rfl rfl rfl rfl rfl ag54 (by first | exact .head | exact .tail .head | exact .tail (.tail .head) | exact .tail (.tail (.tail .head)) | exact .base ‹_› ‹_› (by simp)) rfl ?_
  refine De.p rfl rfl rfl rfl rfl ?_
  refine De.call _ rfl rfl rfl rfl rfl rfl rfl rfl rfl (fun m hm => cl_i64_1 hm.lole ha) ?_
  refine De.fieldAddr rfl rfl rfl rfl rfl rfl fa59_0 ?_
  refine De.loadOld rfl rfl rfl rfl rfl rfl ag54 (by first | exact .head | exact .tail .head | exact .tail (.tail .head) | exact .tail (.tail (.tail .head)) | exact .base ‹_› ‹_› (by simp)) rfl (by first | exact hB _ _ (.head _) | exact hB _ _ (.tail _ (.head _)) | exact hB _ _ (.tail _ (.tail _ (.head _))) | exact hB _ _ (.tail _ (.tail _ (.tail _ (.head _)))) | exact Nat.lt_of_lt_of_le ‹_› hbase) (fun _ => ?_)
  refine De.p rfl rfl rfl rfl rfl ?_
  refine De.call _ rfl rfl rfl rfl rfl rfl rfl rfl rfl (fun m hm => cl_i64_1 hm.lole hb) ?_
  refine De.p rfl rfl rfl rfl rfl ?_
  refine De.p rfl rfl rfl rfl rfl ?_
  refine De.nil ?_
  refine Ne.seq ?_
  refine Ce.seq ?_
  refine Ce.seq ?_
  refine Ce.region ?_
  refine Ie.p rfl rfl rfl rfl ?_
  refine Ie.p rfl rfl rfl rfl ?_
  refine Ie.p rfl rfl rfl rfl ?_
  refine Ie.off rfl rfl rfl ?_
  refine Ie.off rfl rfl rfl ?_
  refine Ie.p rfl rfl rfl rfl ?_
  refine Ie.p rfl rfl rfl rfl ?_
  refine Ie.p rfl rfl rfl rfl ?_
  refine Ie.p rfl rfl rfl rfl ?_
  refine Ie.p rfl rfl rfl rfl ?_
  refine Ie.p rfl rfl rfl rfl ?_
  refine Ie.p rfl rfl rfl rfl ?_
  refine Ie.p rfl rfl rfl rfl ?_
  refine Ie.p rfl rfl rfl rfl ?_
  refine Ie.nil ?_
  refine Ne.seq ?_
  refine Ce.cond_true (by rw [eqI_eq, decide_eq_true h0]; rfl) ?_
  refine Ce.seq ?_
  refine Ce.region ?_
  refine Ie.p rfl rfl rfl rfl ?_
  refine Ie.p rfl rfl rfl rfl ?_
  refine Ie.nil ?_
  refine Ne.seq ?_
  refine Ce.ret ?_
  refine Re.seq ?_
  exact Re.end_ rfl rfl (fun m hm => ⟨rfl, hm.ext⟩)

theorem Arith_i64_4 {a b : Int} {m : AW} (hm : m.lo ≤ m.next) (ha : Fit .i64 a) (hb : Fit .i64 b) (h0 : wr .i64 b ≠ 0) : Fc Tryz.prog 19 [.int .i64 3, .int .i64 4, .int .i64 a, .int .i64 b] m fun v m' => v = .tuple ⟨[.int .i64 (wr .i64 ((wr .i64 a).tmod (wr .i64 b))), .int .i64 0]⟩ ∧ Ext m m' := by
  refine Fc.body (c := _) Tryz.func19 rfl rfl rfl rfl hm ?_
  refine Ce.seq ?_
  refine Ce.region ?_
  refine Ie.p rfl rfl rfl rfl ?_
  refine Ie.p rfl rfl rfl rfl ?_
  refine Ie.nil ?_
  refine Ne.seq ?_
  refine Ce.seq ?_
  refine Ce.region ?_
  refine Ie.p rfl rfl rfl rfl ?_
  refine Ie.calln _ _ _ rfl rfl rfl rfl rfl rfl (fun m hm => of_i64 hm.lole) (fun x hx => ?_)
  clear hx
  refine Ie.p rfl rfl rfl rfl ?_
  refine Ie.p rfl rfl rfl rfl ?_
  refine Ie.p rfl rfl rfl rfl ?_
  refine Ie.alloc rfl rfl rfl rfl zr59 (fun b10 hb10 => ?_)
  refine Ie.store rfl rfl rfl rfl rfl sz59 rfl (by first | exact .head | exact .tail .head | exact .tail (.tail .head) | exact .tail (.tail (.tail .head))) rfl ?_
  refine Ie.p rfl rfl rfl rfl ?_
  refine Ie.nil ?_
  refine Ne.seq ?_
  refine Ce.seq ?_
  refine Ce.seq ?_
  refine Ce.region ?_
  refine Ie.p rfl rfl rfl rfl ?_
  refine Ie.p rfl rfl rfl rfl ?_
  refine Ie.nil ?_
  refine Ne.seq ?_
  refine Ce.cond_false rfl ?_
  refine Ce.skip ?_
  refine Ne.seq ?_
  refine Ce.seq ?_
  refine Ce.block ?_
  refine Ce.seq ?_
  refine Ce.region ?_
  refine Ie.p rfl rfl rfl rfl ?_
  refine Ie.p rfl rfl rfl rfl ?_
  refine Ie.p rfl rfl rfl rfl ?_
  refine Ie.off rfl rfl rfl ?_
  refine Ie.off rfl rfl rfl ?_
  refine Ie.off rfl rfl rfl ?_
  refine Ie.p rfl rfl rfl rfl ?_
  refine Ie.p rfl rfl rfl rfl ?_
  refine Ie.nil ?_
  refine Ne.seq ?_
  refine Ce.cond_false rfl ?_
  refine Ce.seq ?_
  refine Ce.region ?_
  refine Ie.p rfl rfl rfl rfl ?_
  refine Ie.p rfl rfl rfl rfl ?_
  refine Ie.p rfl rfl rfl rfl ?_
  refine Ie.off rfl rfl rfl ?_
  refine Ie.off rfl rfl rfl ?_
  refine Ie.off rfl rfl rfl ?_
  refine Ie.p rfl rfl rfl rfl ?_
  refine Ie.p rfl rfl rfl rfl ?_
  refine Ie.nil ?_
  refine Ne.seq ?_
  refine Ce.cond_false rfl ?_
  refine Ce.skip ?_
  refine Ne.blk ?_
  refine Ne.seq ?_
  refine Ce.seq ?_
  refine Ce.region ?_
  refine Ie.p rfl rfl rfl rfl ?_
  refine Ie.call _ rfl rfl rfl rfl rfl rfl (fun m hm => arithmetic_4 hm.lole) ?_
  refine Ie.p rfl rfl rfl rfl ?_
  refine Ie.p rfl rfl rfl rfl ?_
  refine Ie.p rfl rfl rfl rfl ?_
  refine Ie.p rfl rfl rfl rfl ?_
  refine Ie.p rfl rfl rfl rfl ?_
  refine Ie.nil ?_
  refine Ne.seq ?_
  refine Ce.seq ?_
  refine Ce.seq ?_
  refine Ce.region ?_
  refine Ie.p rfl rfl rfl rfl ?_
  refine Ie.p rfl rfl rfl rfl ?_
  refine Ie.p rfl rfl rfl rfl ?_
  refine Ie.p rfl rfl rfl rfl ?_
  refine Ie.fieldAddr rfl rfl rfl rfl rfl fa59_1 ?_
  refine Ie.indexArr rfl rfl rfl rfl Tryz.underlying56 sz55 rfl rfl (by decide) ?_
  refine Ie.load rfl rfl rfl rfl rfl ag55 (by first | exact .head | exact .tail .head | exact .tail (.tail .head) | exact .tail (.tail (.tail .head)) | exact .base ‹_› ‹_› (by simp)) rfl ?_
  refine Ie.bin (v := .bool false) rfl rfl rfl rfl rfl rfl (by kernel_rfl) ?_
  refine Ie.p rfl rfl rfl rfl ?_
  refine Ie.nil ?_
  refine Ne.seq ?_
  refine Ce.cond_false rfl ?_
  refine Ce.skip ?_
  refine Ne.seq ?_
  refine Ce.seq ?_
  refine Ce.draw [⟨0, .p, true, true, 0⟩, ⟨1, .l, true, true, 1⟩, ⟨2, .p, true, true, 0⟩, ⟨3, .h, true, true, 7⟩, ⟨4, .p, false, false, 0⟩, ⟨5, .l, false, false, 16⟩, ⟨6, .p, false, false, 0⟩, ⟨7, .h, true, true, 127⟩, ⟨8, .p, true, true, 255⟩, ⟨9, .p, true, true, 511⟩] (by kernel_rfl) (by kernel_rfl) (fun base hbase hB => ?_)
  refine De.fieldAddr rfl rfl rfl rfl rfl rfl fa59_0 ?_
  refine De.load rfl rfl rfl rfl rfl rfl rfl rfl ag54 (by first | exact .head | exact .tail .head | exact .tail (.tail .head) | exact .tail (.tail (.tail .head)) | exact .base ‹_› ‹_› (by simp)) rfl ?_
  refine De.p rfl rfl rfl rfl rfl ?_
  refine De.call _ rfl rfl rfl rfl rfl rfl rfl rfl rfl (fun m hm => cl_i64_1 hm.lole ha) ?_
  refine De.fieldAddr rfl rfl rfl rfl rfl rfl fa59_0 ?_
  refine De.loadOld rfl rfl rfl rfl rfl rfl ag54 (by first | exact .head | exact .tail .head | exact .tail (.tail .head) | exact .tail (.tail (.tail .head)) | exact .base ‹_› ‹_› (by simp)) rfl (by first | exact hB _ _ (.head _) | exact hB _ _ (.tail _ (.head _)) | exact hB _ _ (.tail _ (.tail _ (.head _))) | exact hB _ _ (.tail _ (.tail _ (.tail _ (.head _)))) | exact Nat.lt_of_lt_of_le ‹_› hbase) (fun _ => ?_)
  refine De.p rfl rfl rfl rfl rfl ?_
  refine De.call _ rfl rfl rfl rfl rfl rfl rfl rfl rfl (fun m hm => cl_i64_1 hm.lole hb) ?_
  refine De.p rfl rfl rfl rfl rfl ?_
  refine De.p rfl rfl rfl rfl rfl ?_
  refine De.nil ?_
  refine Ne.seq ?_
  refine Ce.seq ?_
  refine Ce.seq ?_
  refine Ce.region ?_
  refine Ie.p rfl rfl rfl rfl ?_
  refine Ie.p rfl rfl rfl rfl ?_
  refine Ie.p rfl rfl rfl rfl ?_
  refine Ie.p rfl rfl rfl rfl ?_
  refine Ie.p rfl rfl rfl rfl ?_
  refine Ie.p rfl rfl rfl rfl ?_
  refine Ie.p rfl rfl rfl rfl ?_
  refine Ie.p rfl rfl rfl rfl ?_
  refine Ie.p rfl rfl rfl rfl ?_
  refine Ie.p rfl rfl rfl rfl ?_
  refine Ie.p rfl rfl rfl rfl ?_
  refine Ie.p rfl rfl rfl rfl ?_
  refine Ie.p rfl rfl rfl rfl ?_
  refine Ie.p rfl rfl rfl rfl ?_
  refine Ie.nil ?_
  refine Ne.seq ?_
  refine Ce.cond_false (by rw [eqI_eq, decide_eq_false h0]; rfl) ?_
  refine Ce.skip ?_
  refine Ne.seq ?_
  refine Ce.seq ?_
  refine Ce.region ?_
  refine Ie.p rfl rfl rfl rfl ?_
  refine Ie.fieldAddr rfl rfl rfl rfl rfl fa59_1 ?_
  refine Ie.indexArr rfl rfl rfl rfl Tryz.underlying56 sz55 rfl rfl (by decide) ?_
  refine Ie.load rfl rfl rfl rfl rfl ag55 (by first | exact .head | exact .tail .head | exact .tail (.tail .head) | exact .tail (.tail (.tail .head)) | exact .base ‹_› ‹_› (by simp)) rfl ?_
  refine Ie.p rfl rfl rfl rfl ?_
  refine Ie.p rfl rfl rfl rfl ?_
  refine Ie.call _ rfl rfl rfl rfl rfl rfl (fun m hm => cl_i64_6 hm.lole (Fit.wr .i64 a) (Fit.wr .i64 b) h0) ?_
  refine Ie.p rfl rfl rfl rfl ?_
  refine Ie.p rfl rfl rfl rfl ?_
  refine Ie.nil ?_
  refine Ne.seq ?_
  refine Ce.ret ?_
  exact Re.end_ rfl rfl (fun m hm => ⟨rfl, hm.ext⟩)

theorem Arith_i64_4z {a b : Int} {m : AW} (hm : m.lo ≤ m.next) (ha : Fit .i64 a) (hb : Fit .i64 b) (h0 : wr .i64 b = 0) : Fc Tryz.prog 19 [.int .i64 3, .int .i64 4, .int .i64 a, .int .i64 b] m fun v m' => v = .tuple ⟨[.int .i64 0, .int .i64 11]⟩ ∧ Ext m m' := by
  refine Fc.body (c := _) Tryz.func19 rfl rfl rfl rfl hm ?_
  refine Ce.seq ?_
  refine Ce.region ?_
  refine Ie.p rfl rfl rfl rfl ?_
  refine Ie.p rfl rfl rfl rfl ?_
  refine Ie.nil ?_
  refine Ne.seq ?_
  refine Ce.seq ?_
  refine Ce.region ?_
  refine Ie.p rfl rfl rfl rfl ?_
  refine Ie.calln _ _ _ rfl rfl rfl rfl rfl rfl (fun m hm => of_i64 hm.lole) (fun x hx => ?_)
  clear hx
  refine Ie.p rfl rfl rfl rfl ?_
  refine Ie.p rfl rfl rfl rfl ?_
  refine Ie.p rfl rfl rfl rfl ?_
  refine Ie.alloc rfl rfl rfl rfl zr59 (fun b10 hb10 => ?_)
  refine Ie.store rfl rfl rfl rfl rfl sz59 rfl (by first | exact .head | exact .tail .head | exact .tail (.tail .head) | exact .tail (.tail (.tail .head))) rfl ?_
  refine Ie.p rfl rfl rfl rfl ?_
  refine Ie.nil ?_
  refine Ne.seq ?_
  refine Ce.seq ?_
  refine Ce.seq ?_
  refine Ce.region ?_
  refine Ie.p rfl rfl rfl rfl ?_
  refine Ie.p rfl rfl rfl rfl ?_
  refine Ie.nil ?_
  refine Ne.seq ?_
  refine Ce.cond_false rfl ?_
  refine Ce.skip ?_
  refine Ne.seq ?_
  refine Ce.seq ?_
  refine Ce.block ?_
  refine Ce.seq ?_
  refine Ce.region ?_
  refine Ie.p rfl rfl rfl rfl ?_
  refine Ie.p rfl rfl rfl rfl ?_
  refine Ie.p rfl rfl rfl rfl ?_
  refine Ie.off rfl rfl rfl ?_
  refine Ie.off rfl rfl rfl ?_
  refine Ie.off rfl rfl rfl ?_
  refine Ie.p rfl rfl rfl rfl ?_
  refine Ie.p rfl rfl rfl rfl ?_
  refine Ie.nil ?_
  refine Ne.seq ?_
  refine Ce.cond_false rfl ?_
  refine Ce.seq ?_
  refine Ce.region ?_
  refine Ie.p rfl rfl rfl rfl ?_
  refine Ie.p rfl rfl rfl rfl ?_
  refine Ie.p rfl rfl rfl rfl ?_
  refine Ie.off rfl rfl rfl ?_
  refine Ie.off rfl rfl rfl ?_
  refine Ie.off rfl rfl rfl ?_
  refine Ie.p rfl rfl rfl rfl ?_
  refine Ie.p rfl rfl rfl rfl ?_
  refine Ie.nil ?_
  refine Ne.seq ?_
  refine Ce.cond_false rfl ?_
  refine Ce.skip ?_
  refine Ne.blk ?_
  refine Ne.seq ?_
  refine Ce.seq ?_
  refine Ce.region ?_
  refine Ie.p rfl rfl rfl rfl ?_
  refine Ie.call _ rfl rfl rfl rfl rfl rfl (fun m hm => arithmetic_4 hm.lole) ?_
  refine Ie.p rfl rfl rfl rfl ?_
  refine Ie.p rfl rfl rfl rfl ?_
  refine Ie.p rfl rfl rfl rfl ?_
  refine Ie.p rfl rfl rfl rfl ?_
  refine Ie.p rfl rfl rfl rfl ?_
  refine Ie.nil ?_
  refine Ne.seq ?_
  refine Ce.seq ?_
  refine Ce.seq ?_
  refine Ce.region ?_
  refine Ie.p rfl rfl rfl rfl ?_
  refine Ie.p rfl rfl rfl rfl ?_
  refine Ie.p rfl rfl rfl rfl ?_
  refine Ie.p rfl rfl rfl rfl ?_
  refine Ie.fieldAddr rfl rfl rfl rfl rfl fa59_1 ?_
  refine Ie.indexArr rfl rfl rfl rfl Tryz.underlying56 sz55 rfl rfl (by decide) ?_
  refine Ie.load rfl rfl rfl rfl rfl ag55 (by first | exact .head | exact .tail .head | exact .tail (.tail .head) | exact .tail (.tail (.tail .head)) | exact .base ‹_› ‹_› (by simp)) rfl ?_
  refine Ie.bin (v := .bool false) rfl rfl rfl rfl rfl rfl (by kernel_rfl) ?_
  refine Ie.p rfl rfl rfl rfl ?_
  refine Ie.nil ?_
  refine Ne.seq ?_
  refine Ce.cond_false rfl ?_
  refine Ce.skip ?_
  refine Ne.seq ?_
  refine Ce.seq ?_
  refine Ce.draw [⟨0, .p, true, true, 0⟩, ⟨1, .l, true, true, 1⟩, ⟨2, .p, true, true, 0⟩, ⟨3, .h, true, true, 7⟩, ⟨4, .p, false, false, 0⟩, ⟨5, .l, false, false, 16⟩, ⟨6, .p, false, false, 0⟩, ⟨7, .h, true, true, 127⟩, ⟨8, .p, true, true, 255⟩, ⟨9, .p, true, true, 511⟩] (by kernel_rfl) (by kernel_rfl) (fun base hbase hB => ?_)
  refine De.fieldAddr rfl rfl rfl rfl rfl rfl fa59_0 ?_
  refine De.load rfl rfl rfl rfl rfl rfl rfl rfl ag54 (by first | exact .head | exact .tail .head | exact .tail (.tail .head) | exact .tail (.tail (.tail .head)) | exact .base ‹_› ‹_› (by simp)) rfl ?_
  refine De.p rfl rfl rfl rfl rfl ?_
  refine De.call _ rfl rfl rfl rfl rfl rfl rfl rfl rfl (fun m hm => cl_i64_1 hm.lole ha) ?_
  refine De.fieldAddr rfl rfl rfl rfl rfl rfl fa59_0 ?_
  refine De.loadOld rfl rfl rfl rfl rfl rfl ag54 (by first | exact .head | exact .tail .head | exact .tail (.tail .head) | exact .tail (.tail (.tail .head)) | exact .base ‹_› ‹_› (by simp)) rfl (by first | exact hB _ _ (.head _) | exact hB _ _ (.tail _ (.head _)) | exact hB _ _ (.tail _ (.tail _ (.head _))) | exact hB _ _ (.tail _ (.tail _ (.tail _ (.head _)))) | exact Nat.lt_of_lt_of_le ‹_› hbase) (fun _ => ?_)
  refine De.p rfl rfl rfl rfl rfl ?_
  refine De.call _ rfl rfl rfl rfl rfl rfl rfl rfl rfl (fun m hm => cl_i64_1 hm.lole hb) ?_
  refine De.p rfl rfl rfl rfl rfl ?_
  refine De.p rfl rfl rfl rfl rfl ?_
  refine De.nil ?_
  refine Ne.seq ?_
  refine Ce.seq ?_
  refine Ce.seq ?_
  refine Ce.region ?_
  refine Ie.p rfl rfl rfl rfl ?_
  refine Ie.p rfl rfl rfl rfl ?_
  refine Ie.p rfl rfl rfl rfl ?_
  refine Ie.p rfl rfl rfl rfl ?_
  refine Ie.p rfl rfl rfl rfl ?_
  refine Ie.p rfl rfl rfl rfl ?_
  refine Ie.p rfl rfl rfl rfl ?_
  refine Ie.p rfl rfl rfl rfl ?_
  refine Ie.p rfl rfl rfl rfl ?_
  refine Ie.p rfl rfl rfl rfl ?_
  refine Ie.p rfl rfl rfl rfl ?_
  refine Ie.p rfl rfl rfl rfl ?_
  refine Ie.p rfl rfl rfl rfl ?_
  refine Ie.p rfl rfl rfl rfl ?_
  refine Ie.nil ?_
  refine Ne.seq ?_
  refine Ce.cond_true (by rw [eqI_eq, decide_eq_true h0]; rfl) ?_
  refine Ce.seq ?_
  refine Ce.region ?_
  refine Ie.p rfl rfl rfl rfl ?_
  refine Ie.p rfl rfl rfl rfl ?_
  refine Ie.nil ?_
  refine Ne.seq ?_
  refine Ce.ret ?_
  refine Re.seq ?_
  exact Re.end_ rfl rfl (fun m hm => ⟨rfl, hm.ext⟩)

theorem ArithF_i64_0 {a b : Int} {m : AW} (hm : m.lo ≤ m.next) (ha : Fit .i64 a) (hb : Fit .i64 b) : Fc Tryz.prog 19 [.int .i64 3, .int .i64 0, .int .i64 a, .int .i64 b] m fun v m' => v = .tuple ⟨[.int .i64 (wr .i64 (a + b)), .int .i64 0]⟩ ∧ Ext m m' := by
  have h := Arith_i64_0 hm (ha.le (by decide) (by decide)) (hb.le (by decide) (by decide))
  rw [show wr .i64 a = a from ha, show wr .i64 b = b from hb] at h
  exact h

theorem ArithF_i64_1 {a b : Int} {m : AW} (hm : m.lo ≤ m.next) (ha : Fit .i64 a) (hb : Fit .i64 b) : Fc Tryz.prog 19 [.int .i64 3, .int .i64 1, .int .i64 a, .int .i64 b] m fun v m' => v = .tuple ⟨[.int .i64 (wr .i64 (a - b)), .int .i64 0]⟩ ∧ Ext m m' := by
  have h := Arith_i64_1 hm (ha.le (by decide) (by decide)) (hb.le (by decide) (by decide))
  rw [show wr .i64 a = a from ha, show wr .i64 b = b from hb] at h
  exact h

theorem ArithF_i64_2 {a b : Int} {m : AW} (hm : m.lo ≤ m.next) (ha : Fit .i64 a) (hb : Fit .i64 b) : Fc Tryz.prog 19 [.int .i64 3, .int .i64 2, .int .i64 a, .int .i64 b] m fun v m' => v = .tuple ⟨[.int .i64 (wr .i64 (a * b)), .int .i64 0]⟩ ∧ Ext m m' := by
  have h := Arith_i64_2 hm (ha.le (by decide) (by decide)) (hb.le (by decide) (by decide))
  rw [show wr .i64 a = a from ha, show wr .i64 b = b from hb] at h
  exact h

theorem ArithF_i64_3 {a b : Int} {m : AW} (hm : m.lo ≤ m.next) (ha : Fit .i64 a) (hb : Fit .i64 b) (h0 : b ≠ 0) : Fc Tryz.prog 19 [.int .i64 3, .int .i64 3, .int .i64 a, .int .i64 b] m fun v m' => v = .tuple ⟨[.int .i64 (wr .i64 (a.tdiv b)), .int .i64 0]⟩ ∧ Ext m m' := by
  have h := Arith_i64_3 hm (ha.le (by decide) (by decide)) (hb.le (by decide) (by decide)) (by rw [show wr .i64 b = b from hb]; exact h0)
  rw [show wr .i64 a = a from ha, show wr .i64 b = b from hb] at h
  exact h

theorem ArithZ_i64_3 {a : Int} {m : AW} (hm : m.lo ≤ m.next) (ha : Fit .i64 a) : Fc Tryz.prog 19 [.int .i64 3, .int .i64 3, .int .i64 a, .int .i64 0] m fun v m' => v = .tuple ⟨[.int .i64 0, .int .i64 11]⟩ ∧ Ext m m' :=
  Arith_i64_3z hm (ha.le (by decide) (by decide)) (show wr .i64 0 = 0 from rfl) rfl

theorem ArithF_i64_4 {a b : Int} {m : AW} (hm : m.lo ≤ m.next) (ha : Fit .i64 a) (hb : Fit .i64 b) (h0 : b ≠ 0) : Fc Tryz.prog 19 [.int .i64 3, .int .i64 4, .int .i64 a, .int .i64 b] m fun v m' => v = .tuple ⟨[.int .i64 (wr .i64 (a.tmod b)), .int .i64 0]⟩ ∧ Ext m m' := by
  have h := Arith_i64_4 hm (ha.le (by decide) (by decide)) (hb.le (by decide) (by decide)) (by rw [show wr .i64 b = b from hb]; exact h0)
  rw [show wr .i64 a = a from ha, show wr .i64 b = b from hb] at h
  exact h

theorem ArithZ_i64_4 {a : Int} {m : AW} (hm : m.lo ≤ m.next) (ha : Fit .i64 a) : Fc Tryz.prog 19 [.int .i64 3, .int .i64 4, .int .i64 a, .int .i64 0] m fun v m' => v = .tuple ⟨[.int .i64 0, .int .i64 11]⟩ ∧ Ext m m' :=
  Arith_i64_4z hm (ha.le (by decide) (by decide)) (show wr .i64 0 = 0 from rfl) rfl

theorem ring_u8 {a b : Int} {m : AW} (hm : m.lo ≤ m.next) (hl : LaidAt lays m) (ha : Fit .i64 a) (hb : Fit .i64 b) (h0 : wr .u8 b ≠ 0) : Fc Tryz.prog 6 [.int .i64 1, .int .i64 a, .int .i64 b] m fun v m' => v = .bool true ∧ Ext m m' := by
  refine Fc.body (c := _) Tryz.func6 rfl rfl rfl rfl hm ?_
  refine Ce.seq ?_
  refine Ce.region ?_
  refine Ie.p rfl rfl rfl rfl ?_
  refine Ie.nil ?_
  refine Ne.seq ?_
  refine Ce.seq ?_
  refine Ce.seq ?_
  refine Ce.region ?_
  refine Ie.call _ rfl rfl rfl rfl rfl rfl (fun m hm => awake_ok (hl.kr hm)) ?_
  refine Ie.p rfl rfl rfl rfl ?_
  refine Ie.p rfl rfl rfl rfl ?_
  refine Ie.p rfl rfl rfl rfl ?_
  refine Ie.p rfl rfl rfl rfl ?_
  refine Ie.p rfl rfl rfl rfl ?_
  refine Ie.off rfl rfl rfl ?_
  refine Ie.off rfl rfl rfl ?_
  refine Ie.p rfl rfl rfl rfl ?_
  refine Ie.p rfl rfl rfl rfl ?_
  refine Ie.off rfl rfl rfl ?_
  refine Ie.off rfl rfl rfl ?_
  refine Ie.p rfl rfl rfl rfl ?_
  refine Ie.p rfl rfl rfl rfl ?_
  refine Ie.nil ?_
  refine Ne.seq ?_
  refine Ce.cond_false rfl ?_
  refine Ce.skip ?_
  refine Ne.seq ?_
  refine Ce.seq ?_
  refine Ce.region ?_
  refine Ie.p rfl rfl rfl rfl ?_
  refine Ie.p rfl rfl rfl rfl ?_
  refine Ie.call _ rfl rfl rfl rfl rfl rfl (fun m hm => Wrap_u8 hm.lole ha) ?_
  refine Ie.p rfl rfl rfl rfl ?_
  refine Ie.p rfl rfl rfl rfl ?_
  refine Ie.p rfl rfl rfl rfl ?_
  refine Ie.p rfl rfl rfl rfl ?_
  refine Ie.nil ?_
  refine Ne.seq ?_
  refine Ce.seq ?_
  refine Ce.region ?_
  refine Ie.p rfl rfl rfl rfl ?_
  refine Ie.p rfl rfl rfl rfl ?_
  refine Ie.call _ rfl rfl rfl rfl rfl rfl (fun m hm => Wrap_u8 hm.lole hb) ?_
  refine Ie.p rfl rfl rfl rfl ?_
  refine Ie.p rfl rfl rfl rfl ?_
  refine Ie.p rfl rfl rfl rfl ?_
  refine Ie.p rfl rfl rfl rfl ?_
  refine Ie.nil ?_
  refine Ne.seq ?_
  refine Ce.seq ?_
  refine Ce.region ?_
  refine Ie.p rfl rfl rfl rfl ?_
  refine Ie.p rfl rfl rfl rfl ?_
  refine Ie.p rfl rfl rfl rfl ?_
  refine Ie.call _ rfl rfl rfl rfl rfl rfl (fun m hm => ArithF_u8_0 hm.lole (Fit.wr _ _) (Fit.wr _ _)) ?_
  refine Ie.p rfl rfl rfl rfl ?_
  refine Ie.p rfl rfl rfl rfl ?_
  refine Ie.p rfl rfl rfl rfl ?_
  refine Ie.p rfl rfl rfl rfl ?_
  refine Ie.p rfl rfl rfl rfl ?_
  refine Ie.nil ?_
  refine Ne.seq ?_
  refine Ce.seq ?_
  refine Ce.region ?_
  refine Ie.p rfl rfl rfl rfl ?_
  refine Ie.p rfl rfl rfl rfl ?_
  refine Ie.p rfl rfl rfl rfl ?_
  refine Ie.call _ rfl rfl rfl rfl rfl rfl (fun m hm => ArithF_u8_0 hm.lole (Fit.wr _ _) (Fit.wr _ _)) ?_
  refine Ie.p rfl rfl rfl rfl ?_
  refine Ie.p rfl rfl rfl rfl ?_
  refine Ie.p rfl rfl rfl rfl ?_
  refine Ie.p rfl rfl rfl rfl ?_
  refine Ie.p rfl rfl rfl rfl ?_
  refine Ie.nil ?_
  refine Ne.seq ?_
  refine Ce.seq ?_
  refine Ce.region ?_
  refine Ie.p rfl rfl rfl rfl ?_
  refine Ie.p rfl rfl rfl rfl ?_
  refine Ie.p rfl rfl rfl rfl ?_
  refine Ie.call _ rfl rfl rfl rfl rfl rfl (fun m hm => ArithF_u8_2 hm.lole (Fit.wr _ _) (Fit.wr _ _)) ?_
  refine Ie.p rfl rfl rfl rfl ?_
  refine Ie.p rfl rfl rfl rfl ?_
  refine Ie.p rfl rfl rfl rfl ?_
  refine Ie.p rfl rfl rfl rfl ?_
  refine Ie.p rfl rfl rfl rfl ?_
  refine Ie.nil ?_
  refine Ne.seq ?_
  refine Ce.seq ?_
  refine Ce.region ?_
  refine Ie.p rfl rfl rfl rfl ?_
  refine Ie.p rfl rfl rfl rfl ?_
  refine Ie.p rfl rfl rfl rfl ?_
  refine Ie.call _ rfl rfl rfl rfl rfl rfl (fun m hm => ArithF_u8_2 hm.lole (Fit.wr _ _) (Fit.wr _ _)) ?_
  refine Ie.p rfl rfl rfl rfl ?_
  refine Ie.p rfl rfl rfl rfl ?_
  refine Ie.p rfl rfl rfl rfl ?_
  refine Ie.p rfl rfl rfl rfl ?_
  refine Ie.p rfl rfl rfl rfl ?_
  refine Ie.nil ?_
  refine Ne.seq ?_
  refine Ce.seq ?_
  refine Ce.region ?_
  refine Ie.p rfl rfl rfl rfl ?_
  refine Ie.p rfl rfl rfl rfl ?_
  refine Ie.p rfl rfl rfl rfl ?_
  refine Ie.call _ rfl rfl rfl rfl rfl rfl (fun m hm => ArithF_u8_1 hm.lole (Fit.wr _ _) (Fit.wr _ _)) ?_
  refine Ie.p rfl rfl rfl rfl ?_
  refine Ie.p rfl rfl rfl rfl ?_
  refine Ie.p rfl rfl rfl rfl ?_
  refine Ie.p rfl rfl rfl rfl ?_
  refine Ie.p rfl rfl rfl rfl ?_
  refine Ie.nil ?_
  refine Ne.seq ?_
  refine Ce.seq ?_
  refine Ce.region ?_
  refine Ie.p rfl rfl rfl rfl ?_
  refine Ie.p rfl rfl rfl rfl ?_
  refine Ie.p rfl rfl rfl rfl ?_
  refine Ie.call _ rfl rfl rfl rfl rfl rfl (fun m hm => ArithF_u8_0 hm.lole (Fit.wr _ _) (Fit.wr _ _)) ?_
  refine Ie.p rfl rfl rfl rfl ?_
  refine Ie.p rfl rfl rfl rfl ?_
  refine Ie.p rfl rfl rfl rfl ?_
  refine Ie.p rfl rfl rfl rfl ?_
  refine Ie.p rfl rfl rfl rfl ?_
  refine Ie.nil ?_
  refine Ne.seq ?_
  refine Ce.seq ?_
  refine Ce.seq ?_
  refine Ce.region ?_
  refine Ie.p rfl rfl rfl rfl ?_
  refine Ie.p rfl rfl rfl rfl ?_
  refine Ie.bin (v := .bool false) rfl rfl rfl rfl rfl rfl (binS_neq (ringAdd _ _ _)) ?_
  refine Ie.p rfl rfl rfl rfl ?_
  refine Ie.p rfl rfl rfl rfl ?_
  refine Ie.p rfl rfl rfl rfl ?_
  refine Ie.bin (v := .bool false) rfl rfl rfl rfl rfl rfl (binS_neq (ringMul _ _ _)) ?_
  refine Ie.p rfl rfl rfl rfl ?_
  refine Ie.p rfl rfl rfl rfl ?_
  refine Ie.p rfl rfl rfl rfl ?_
  refine Ie.p rfl rfl rfl rfl ?_
  refine Ie.bin (v := .bool false) rfl rfl rfl rfl rfl rfl (binS_neq (ringBack _ (Fit.wr _ _))) ?_
  refine Ie.p rfl rfl rfl rfl ?_
  refine Ie.p rfl rfl rfl rfl ?_
  refine Ie.p rfl rfl rfl rfl ?_
  refine Ie.p rfl rfl rfl rfl ?_
  refine Ie.p rfl rfl rfl rfl ?_
  refine Ie.nil ?_
  refine Ne.seq ?_
  refine Ce.cond_false rfl ?_
  refine Ce.skip ?_
  refine Ne.seq ?_
  refine Ce.seq ?_
  refine Ce.region ?_
  refine Ie.p rfl rfl rfl rfl ?_
  refine Ie.p rfl rfl rfl rfl ?_
  refine Ie.p rfl rfl rfl rfl ?_
  refine Ie.call _ rfl rfl rfl rfl rfl rfl (fun m hm => ArithF_u8_3 hm.lole (Fit.wr _ _) (Fit.wr _ _) h0) ?_
  refine Ie.p rfl rfl rfl rfl ?_
  refine Ie.p rfl rfl rfl rfl ?_
  refine Ie.p rfl rfl rfl rfl ?_
  refine Ie.p rfl rfl rfl rfl ?_
  refine Ie.p rfl rfl rfl rfl ?_
  refine Ie.nil ?_
  refine Ne.seq ?_
  refine Ce.seq ?_
  refine Ce.region ?_
  refine Ie.p rfl rfl rfl rfl ?_
  refine Ie.p rfl rfl rfl rfl ?_
  refine Ie.p rfl rfl rfl rfl ?_
  refine Ie.call _ rfl rfl rfl rfl rfl rfl (fun m hm => ArithF_u8_4 hm.lole (Fit.wr _ _) (Fit.wr _ _) h0) ?_
  refine Ie.p rfl rfl rfl rfl ?_
  refine Ie.p rfl rfl rfl rfl ?_
  refine Ie.p rfl rfl rfl rfl ?_
  refine Ie.p rfl rfl rfl rfl ?_
  refine Ie.p rfl rfl rfl rfl ?_
  refine Ie.nil ?_
  refine Ne.seq ?_
  refine Ce.seq ?_
  refine Ce.seq ?_
  refine Ce.region ?_
  refine Ie.p rfl rfl rfl rfl ?_
  refine Ie.bin (v := .bool false) rfl rfl rfl rfl rfl rfl (binS_neql h0) ?_
  refine Ie.nil ?_
  refine Ne.seq ?_
  refine Ce.cond_false rfl ?_
  refine Ce.skip ?_
  refine Ne.seq ?_
  refine Ce.seq ?_
  refine Ce.region ?_
  refine Ie.p rfl rfl rfl rfl ?_
  refine Ie.p rfl rfl rfl rfl ?_
  refine Ie.p rfl rfl rfl rfl ?_
  refine Ie.call _ rfl rfl rfl rfl rfl rfl (fun m hm => ArithF_u8_2 hm.lole (Fit.wr _ _) (Fit.wr _ _)) ?_
  refine Ie.p rfl rfl rfl rfl ?_
  refine Ie.p rfl rfl rfl rfl ?_
  refine Ie.p rfl rfl rfl rfl ?_
  refine Ie.p rfl rfl rfl rfl ?_
  refine Ie.nil ?_
  refine Ne.seq ?_
  refine Ce.seq ?_
  refine Ce.region ?_
  refine Ie.p rfl rfl rfl rfl ?_
  refine Ie.p rfl rfl rfl rfl ?_
  refine Ie.p rfl rfl rfl rfl ?_
  refine Ie.call _ rfl rfl rfl rfl rfl rfl (fun m hm => ArithF_u8_0 hm.lole (Fit.wr _ _) (Fit.wr _ _)) ?_
  refine Ie.p rfl rfl rfl rfl ?_
  refine Ie.p rfl rfl rfl rfl ?_
  refine Ie.p rfl rfl rfl rfl ?_
  refine Ie.p rfl rfl rfl rfl ?_
  refine Ie.nil ?_
  refine Ne.seq ?_
  refine Ce.seq ?_
  refine Ce.region ?_
  refine Ie.p rfl rfl rfl rfl ?_
  refine Ie.p rfl rfl rfl rfl ?_
  refine Ie.p rfl rfl rfl rfl ?_
  refine Ie.p rfl rfl rfl rfl ?_
  refine Ie.p rfl rfl rfl rfl ?_
  refine Ie.p rfl rfl rfl rfl ?_
  refine Ie.p rfl rfl rfl rfl ?_
  refine Ie.p rfl rfl rfl rfl ?_
  refine Ie.p rfl rfl rfl rfl ?_
  refine Ie.bin (v := .bool true) rfl rfl rfl rfl rfl rfl (binS_eql (ringDiv _ (Fit.wr _ _))) ?_
  refine Ie.p rfl rfl rfl rfl ?_
  refine Ie.p rfl rfl rfl rfl ?_
  refine Ie.nil ?_
  refine Ne.seq ?_
  refine Ce.ret ?_
  exact Re.end_ rfl rfl (fun m hm => ⟨rfl, hm.ext⟩)

theorem ringz_u8 {a b : Int} {m : AW} (hm : m.lo ≤ m.next) (hl : LaidAt lays m) (ha : Fit .i64 a) (hb : Fit .i64 b) (h0 : wr .u8 b = 0) : Fc Tryz.prog 6 [.int .i64 1, .int .i64 a, .int .i64 b] m fun v m' => v = .bool true ∧ Ext m m' := by
  refine Fc.body (c := _) Tryz.func6 rfl rfl rfl rfl hm ?_
  refine Ce.seq ?_
  refine Ce.region ?_
  refine Ie.p rfl rfl rfl rfl ?_
  refine Ie.nil ?_
  refine Ne.seq ?_
  refine Ce.seq ?_
  refine Ce.seq ?_
  refine Ce.region ?_
  refine Ie.call _ rfl rfl rfl rfl rfl rfl (fun m hm => awake_ok (hl.kr hm)) ?_
  refine Ie.p rfl rfl rfl rfl ?_
  refine Ie.p rfl rfl rfl rfl ?_
  refine Ie.p rfl rfl rfl rfl ?_
  refine Ie.p rfl rfl rfl rfl ?_
  refine Ie.p rfl rfl rfl rfl ?_
  refine Ie.off rfl rfl rfl ?_
  refine Ie.off rfl rfl rfl ?_
  refine Ie.p rfl rfl rfl rfl ?_
  refine Ie.p rfl rfl rfl rfl ?_
  refine Ie.off rfl rfl rfl ?_
  refine Ie.off rfl rfl rfl ?_
  refine Ie.p rfl rfl rfl rfl ?_
  refine Ie.p rfl rfl rfl rfl ?_
  refine Ie.nil ?_
  refine Ne.seq ?_
  refine Ce.cond_false rfl ?_
  refine Ce.skip ?_
  refine Ne.seq ?_
  refine Ce.seq ?_
  refine Ce.region ?_
  refine Ie.p rfl rfl rfl rfl ?_
  refine Ie.p rfl rfl rfl rfl ?_
  refine Ie.call _ rfl rfl rfl rfl rfl rfl (fun m hm => Wrap_u8 hm.lole ha) ?_
  refine Ie.p rfl rfl rfl rfl ?_
  refine Ie.p rfl rfl rfl rfl ?_
  refine Ie.p rfl rfl rfl rfl ?_
  refine Ie.p rfl rfl rfl rfl ?_
  refine Ie.nil ?_
  refine Ne.seq ?_
  refine Ce.seq ?_
  refine Ce.region ?_
  refine Ie.p rfl rfl rfl rfl ?_
  refine Ie.p rfl rfl rfl rfl ?_
  refine Ie.call _ rfl rfl rfl rfl rfl rfl (fun m hm => Wrap_u8 hm.lole hb) ?_
  refine Ie.p rfl rfl rfl rfl ?_
  refine Ie.p rfl rfl rfl rfl ?_
  refine Ie.p rfl rfl rfl rfl ?_
  refine Ie.p rfl rfl rfl rfl ?_
  refine Ie.nil ?_
  refine Ne.seq ?_
  refine Ce.seq ?_
  refine Ce.region ?_
  refine Ie.p rfl rfl rfl rfl ?_
  refine Ie.p rfl rfl rfl rfl ?_
  refine Ie.p rfl rfl rfl rfl ?_
  refine Ie.call _ rfl rfl rfl rfl rfl rfl (fun m hm => ArithF_u8_0 hm.lole (Fit.wr _ _) (Fit.wr _ _)) ?_
  refine Ie.p rfl rfl rfl rfl ?_
  refine Ie.p rfl rfl rfl rfl ?_
  refine Ie.p rfl rfl rfl rfl ?_
  refine Ie.p rfl rfl rfl rfl ?_
  refine Ie.p rfl rfl rfl rfl ?_
  refine Ie.nil ?_
  refine Ne.seq ?_
  refine Ce.seq ?_
  refine Ce.region ?_
  refine Ie.p rfl rfl rfl rfl ?_
  refine Ie.p rfl rfl rfl rfl ?_
  refine Ie.p rfl rfl rfl rfl ?_
  refine Ie.call _ rfl rfl rfl rfl rfl rfl (fun m hm => ArithF_u8_0 hm.lole (Fit.wr _ _) (Fit.wr _ _)) ?_
  refine Ie.p rfl rfl rfl rfl ?_
  refine Ie.p rfl rfl rfl rfl ?_
  refine Ie.p rfl rfl rfl rfl ?_
  refine Ie.p rfl rfl rfl rfl ?_
  refine Ie.p rfl rfl rfl rfl ?_
  refine Ie.nil ?_
  refine Ne.seq ?_
  refine Ce.seq ?_
  refine Ce.region ?_
  refine Ie.p rfl rfl rfl rfl ?_
  refine Ie.p rfl rfl rfl rfl ?_
  refine Ie.p rfl rfl rfl rfl ?_
  refine Ie.call _ rfl rfl rfl rfl rfl rfl (fun m hm => ArithF_u8_2 hm.lole (Fit.wr _ _) (Fit.wr _ _)) ?_
  refine Ie.p rfl rfl rfl rfl ?_
  refine Ie.p rfl rfl rfl rfl ?_
  refine Ie.p rfl rfl rfl rfl ?_
  refine Ie.p rfl rfl rfl rfl ?_
  refine Ie.p rfl rfl rfl rfl ?_
  refine Ie.nil ?_
  refine Ne.seq ?_
  refine Ce.seq ?_
  refine Ce.region ?_
  refine Ie.p rfl rfl rfl rfl ?_
  refine Ie.p rfl rfl rfl rfl ?_
  refine Ie.p rfl rfl rfl rfl ?_
  refine Ie.call _ rfl rfl rfl rfl rfl rfl (fun m hm => ArithF_u8_2 hm.lole (Fit.wr _ _) (Fit.wr _ _)) ?_
  refine Ie.p rfl rfl rfl rfl ?_
  refine Ie.p rfl rfl rfl rfl ?_
  refine Ie.p rfl rfl rfl rfl ?_
  refine Ie.p rfl rfl rfl rfl ?_
  refine Ie.p rfl rfl rfl rfl ?_
  refine Ie.nil ?_
  refine Ne.seq ?_
  refine Ce.seq ?_
  refine Ce.region ?_
  refine Ie.p rfl rfl rfl rfl ?_
  refine Ie.p rfl rfl rfl rfl ?_
  refine Ie.p rfl rfl rfl rfl ?_
  refine Ie.call _ rfl rfl rfl rfl rfl rfl (fun m hm => ArithF_u8_1 hm.lole (Fit.wr _ _) (Fit.wr _ _)) ?_
  refine Ie.p rfl rfl rfl rfl ?_
  refine Ie.p rfl rfl rfl rfl ?_
  refine Ie.p rfl rfl rfl rfl ?_
  refine Ie.p rfl rfl rfl rfl ?_
  refine Ie.p rfl rfl rfl rfl ?_
  refine Ie.nil ?_
  refine Ne.seq ?_
  refine Ce.seq ?_
  refine Ce.region ?_
  refine Ie.p rfl rfl rfl rfl ?_
  refine Ie.p rfl rfl rfl rfl ?_
  refine Ie.p rfl rfl rfl rfl ?_
  refine Ie.call _ rfl rfl rfl rfl rfl rfl (fun m hm => ArithF_u8_0 hm.lole (Fit.wr _ _) (Fit.wr _ _)) ?_
  refine Ie.p rfl rfl rfl rfl ?_
  refine Ie.p rfl rfl rfl rfl ?_
  refine Ie.p rfl rfl rfl rfl ?_
  refine Ie.p rfl rfl rfl rfl ?_
  refine Ie.p rfl rfl rfl rfl ?_
  refine Ie.nil ?_
  refine Ne.seq ?_
  refine Ce.seq ?_
  refine Ce.seq ?_
  refine Ce.region ?_
  refine Ie.p rfl rfl rfl rfl ?_
  refine Ie.p rfl rfl rfl rfl ?_
  refine Ie.bin (v := .bool false) rfl rfl rfl rfl rfl rfl (binS_neq (ringAdd _ _ _)) ?_
  refine Ie.p rfl rfl rfl rfl ?_
  refine Ie.p rfl rfl rfl rfl ?_
  refine Ie.p rfl rfl rfl rfl ?_
  refine Ie.bin (v := .bool false) rfl rfl rfl rfl rfl rfl (binS_neq (ringMul _ _ _)) ?_
  refine Ie.p rfl rfl rfl rfl ?_
  refine Ie.p rfl rfl rfl rfl ?_
  refine Ie.p rfl rfl rfl rfl ?_
  refine Ie.p rfl rfl rfl rfl ?_
  refine Ie.bin (v := .bool false) rfl rfl rfl rfl rfl rfl (binS_neq (ringBack _ (Fit.wr _ _))) ?_
  refine Ie.p rfl rfl rfl rfl ?_
  refine Ie.p rfl rfl rfl rfl ?_
  refine Ie.p rfl rfl rfl rfl ?_
  refine Ie.p rfl rfl rfl rfl ?_
  refine Ie.p rfl rfl rfl rfl ?_
  refine Ie.nil ?_
  refine Ne.seq ?_
  refine Ce.cond_false rfl ?_
  refine Ce.skip ?_
  refine Ne.seq ?_
  refine Ce.seq ?_
  refine Ce.region ?_
  refine Ie.p rfl rfl rfl rfl ?_
  refine Ie.p rfl rfl rfl rfl ?_
  refine Ie.p rfl rfl rfl rfl ?_
  refine Ie.call _ rfl rfl rfl rfl rfl rfl (fun m hm => (by rw [h0]; exact ArithZ_u8_3 hm.lole (Fit.wr _ _))) ?_
  refine Ie.p rfl rfl rfl rfl ?_
  refine Ie.p rfl rfl rfl rfl ?_
  refine Ie.p rfl rfl rfl rfl ?_
  refine Ie.p rfl rfl rfl rfl ?_
  refine Ie.p rfl rfl rfl rfl ?_
  refine Ie.nil ?_
  refine Ne.seq ?_
  refine Ce.seq ?_
  refine Ce.region ?_
  refine Ie.p rfl rfl rfl rfl ?_
  refine Ie.p rfl rfl rfl rfl ?_
  refine Ie.p rfl rfl rfl rfl ?_
  refine Ie.call _ rfl rfl rfl rfl rfl rfl (fun m hm => (by rw [h0]; exact ArithZ_u8_4 hm.lole (Fit.wr _ _))) ?_
  refine Ie.p rfl rfl rfl rfl ?_
  refine Ie.p rfl rfl rfl rfl ?_
  refine Ie.p rfl rfl rfl rfl ?_
  refine Ie.p rfl rfl rfl rfl ?_
  refine Ie.p rfl rfl rfl rfl ?_
  refine Ie.nil ?_
  refine Ne.seq ?_
  refine Ce.seq ?_
  refine Ce.seq ?_
  refine Ce.region ?_
  refine Ie.p rfl rfl rfl rfl ?_
  refine Ie.bin (v := .bool true) rfl rfl rfl rfl rfl rfl (binS_eql h0) ?_
  refine Ie.nil ?_
  refine Ne.seq ?_
  refine Ce.cond_true rfl ?_
  refine Ce.seq ?_
  refine Ce.region ?_
  refine Ie.p rfl rfl rfl rfl ?_
  refine Ie.p rfl rfl rfl rfl ?_
  refine Ie.p rfl rfl rfl rfl ?_
  refine Ie.p rfl rfl rfl rfl ?_
  refine Ie.p rfl rfl rfl rfl ?_
  refine Ie.p rfl rfl rfl rfl ?_
  refine Ie.p rfl rfl rfl rfl ?_
  refine Ie.nil ?_
  refine Ne.seq ?_
  refine Ce.ret ?_
  refine Re.seq ?_
  exact Re.end_ rfl rfl (fun m hm => ⟨rfl, hm.ext⟩)

theorem ring_i32 {a b : Int} {m : AW} (hm : m.lo ≤ m.next) (hl : LaidAt lays m) (ha : Fit .i64 a) (hb : Fit .i64 b) (h0 : wr .i32 b ≠ 0) : Fc Tryz.prog 6 [.int .i64 2, .int .i64 a, .int .i64 b] m fun v m' => v = .bool true ∧ Ext m m' := by
  refine Fc.body (c := _) Tryz.func6 rfl rfl rfl rfl hm ?_
  refine Ce.seq ?_
  refine Ce.region ?_
  refine Ie.p rfl rfl rfl rfl ?_
  refine Ie.nil ?_
  refine Ne.seq ?_
  refine Ce.seq ?_
  refine Ce.seq ?_
  refine Ce.region ?_
  refine Ie.call _ rfl rfl rfl rfl rfl rfl (fun m hm => awake_ok (hl.kr hm)) ?_
  refine Ie.p rfl rfl rfl rfl ?_
  refine Ie.p rfl rfl rfl rfl ?_
  refine Ie.p rfl rfl rfl rfl ?_
  refine Ie.p rfl rfl rfl rfl ?_
  refine Ie.p rfl rfl rfl rfl ?_
  refine Ie.p rfl rfl rfl rfl ?_
  refine Ie.p rfl rfl rfl rfl ?_
  refine Ie.p rfl rfl rfl rfl ?_
  refine Ie.p rfl rfl rfl rfl ?_
  refine Ie.off rfl rfl rfl ?_
  refine Ie.off rfl rfl rfl ?_
  refine Ie.p rfl rfl rfl rfl ?_
  refine Ie.p rfl rfl rfl rfl ?_
  refine Ie.nil ?_
  refine Ne.seq ?_
  refine Ce.cond_false rfl ?_
  refine Ce.skip ?_
  refine Ne.seq ?_
  refine Ce.seq ?_
  refine Ce.region ?_
  refine Ie.p rfl rfl rfl rfl ?_
  refine Ie.p rfl rfl rfl rfl ?_
  refine Ie.call _ rfl rfl rfl rfl rfl rfl (fun m hm => Wrap_i32 hm.lole ha) ?_
  refine Ie.p rfl rfl rfl rfl ?_
  refine Ie.p rfl rfl rfl rfl ?_
  refine Ie.p rfl rfl rfl rfl ?_
  refine Ie.p rfl rfl rfl rfl ?_
  refine Ie.nil ?_
  refine Ne.seq ?_
  refine Ce.seq ?_
  refine Ce.region ?_
  refine Ie.p rfl rfl rfl rfl ?_
  refine Ie.p rfl rfl rfl rfl ?_
  refine Ie.call _ rfl rfl rfl rfl rfl rfl (fun m hm => Wrap_i32 hm.lole hb) ?_
  refine Ie.p rfl rfl rfl rfl ?_
  refine Ie.p rfl rfl rfl rfl ?_
  refine Ie.p rfl rfl rfl rfl ?_
  refine Ie.p rfl rfl rfl rfl ?_
  refine Ie.nil ?_
  refine Ne.seq ?_
  refine Ce.seq ?_
  refine Ce.region ?_
  refine Ie.p rfl rfl rfl rfl ?_
  refine Ie.p rfl rfl rfl rfl ?_
  refine Ie.p rfl rfl rfl rfl ?_
  refine Ie.call _ rfl rfl rfl rfl rfl rfl (fun m hm => ArithF_i32_0 hm.lole (Fit.wr _ _) (Fit.wr _ _)) ?_
  refine Ie.p rfl rfl rfl rfl ?_
  refine Ie.p rfl rfl rfl rfl ?_
  refine Ie.p rfl rfl rfl rfl ?_
  refine Ie.p rfl rfl rfl rfl ?_
  refine Ie.p rfl rfl rfl rfl ?_
  refine Ie.nil ?_
  refine Ne.seq ?_
  refine Ce.seq ?_
  refine Ce.region ?_
  refine Ie.p rfl rfl rfl rfl ?_
  refine Ie.p rfl rfl rfl rfl ?_
  refine Ie.p rfl rfl rfl rfl ?_
  refine Ie.call _ rfl rfl rfl rfl rfl rfl (fun m hm => ArithF_i32_0 hm.lole (Fit.wr _ _) (Fit.wr _ _)) ?_
  refine Ie.p rfl rfl rfl rfl ?_
  refine Ie.p rfl rfl rfl rfl ?_
  refine Ie.p rfl rfl rfl rfl ?_
  refine Ie.p rfl rfl rfl rfl ?_
  refine Ie.p rfl rfl rfl rfl ?_
  refine Ie.nil ?_
  refine Ne.seq ?_
  refine Ce.seq ?_
  refine Ce.region ?_
  refine Ie.p rfl rfl rfl rfl ?_
  refine Ie.p rfl rfl rfl rfl ?_
  refine Ie.p rfl rfl rfl rfl ?_
  refine Ie.call _ rfl rfl rfl rfl rfl rfl (fun m hm => ArithF_i32_2 hm.lole (Fit.wr _ _) (Fit.wr _ _)) ?_
  refine Ie.p rfl rfl rfl rfl ?_
  refine Ie.p rfl rfl rfl rfl ?_
  refine Ie.p rfl rfl rfl rfl ?_
  refine Ie.p rfl rfl rfl rfl ?_
  refine Ie.p rfl rfl rfl rfl ?_
  refine Ie.nil ?_
  refine Ne.seq ?_
  refine Ce.seq ?_
  refine Ce.region ?_
  refine Ie.p rfl rfl rfl rfl ?_
  refine Ie.p rfl rfl rfl rfl ?_
  refine Ie.p rfl rfl rfl rfl ?_
  refine Ie.call _ rfl rfl rfl rfl rfl rfl (fun m hm => ArithF_i32_2 hm.lole (Fit.wr _ _) (Fit.wr _ _)) ?_
  refine Ie.p rfl rfl rfl rfl ?_
  refine Ie.p rfl rfl rfl rfl ?_
  refine Ie.p rfl rfl rfl rfl ?_
  refine Ie.p rfl rfl rfl rfl ?_
  refine Ie.p rfl rfl rfl rfl ?_
  refine Ie.nil ?_
  refine Ne.seq ?_
  refine Ce.seq ?_
  refine Ce.region ?_
  refine Ie.p rfl rfl rfl rfl ?_
  refine Ie.p rfl rfl rfl rfl ?_
  refine Ie.p rfl rfl rfl rfl ?_
  refine Ie.call _ rfl rfl rfl rfl rfl rfl (fun m hm => ArithF_i32_1 hm.lole (Fit.wr _ _) (Fit.wr _ _)) ?_
  refine Ie.p rfl rfl rfl rfl ?_
  refine Ie.p rfl rfl rfl rfl ?_
  refine Ie.p rfl rfl rfl rfl ?_
  refine Ie.p rfl rfl rfl rfl ?_
  refine Ie.p rfl rfl rfl rfl ?_
  refine Ie.nil ?_
  refine Ne.seq ?_
  refine Ce.seq ?_
  refine Ce.region ?_
  refine Ie.p rfl rfl rfl rfl ?_
  refine Ie.p rfl rfl rfl rfl ?_
  refine Ie.p rfl rfl rfl rfl ?_
  refine Ie.call _ rfl rfl rfl rfl rfl rfl (fun m hm => ArithF_i32_0 hm.lole (Fit.wr _ _) (Fit.wr _ _)) ?_
  refine Ie.p rfl rfl rfl rfl ?_
  refine Ie.p rfl rfl rfl rfl ?_
  refine Ie.p rfl rfl rfl rfl ?_
  refine Ie.p rfl rfl rfl rfl ?_
  refine Ie.p rfl rfl rfl rfl ?_
  refine Ie.nil ?_
  refine Ne.seq ?_
  refine Ce.seq ?_
  refine Ce.seq ?_
  refine Ce.region ?_
  refine Ie.p rfl rfl rfl rfl ?_
  refine Ie.p rfl rfl rfl rfl ?_
  refine Ie.bin (v := .bool false) rfl rfl rfl rfl rfl rfl (binS_neq (ringAdd _ _ _)) ?_
  refine Ie.p rfl rfl rfl rfl ?_
  refine Ie.p rfl rfl rfl rfl ?_
  refine Ie.p rfl rfl rfl rfl ?_
  refine Ie.bin (v := .bool false) rfl rfl rfl rfl rfl rfl (binS_neq (ringMul _ _ _)) ?_
  refine Ie.p rfl rfl rfl rfl ?_
  refine Ie.p rfl rfl rfl rfl ?_
  refine Ie.p rfl rfl rfl rfl ?_
  refine Ie.p rfl rfl rfl rfl ?_
  refine Ie.bin (v := .bool false) rfl rfl rfl rfl rfl rfl (binS_neq (ringBack _ (Fit.wr _ _))) ?_
  refine Ie.p rfl rfl rfl rfl ?_
  refine Ie.p rfl rfl rfl rfl ?_
  refine Ie.p rfl rfl rfl rfl ?_
  refine Ie.p rfl rfl rfl rfl ?_
  refine Ie.p rfl rfl rfl rfl ?_
  refine Ie.nil ?_
  refine Ne.seq ?_
  refine Ce.cond_false rfl ?_
  refine Ce.skip ?_
  refine Ne.seq ?_
  refine Ce.seq ?_
  refine Ce.region ?_
  refine Ie.p rfl rfl rfl rfl ?_
  refine Ie.p rfl rfl rfl rfl ?_
  refine Ie.p rfl rfl rfl rfl ?_
  refine Ie.call _ rfl rfl rfl rfl rfl rfl (fun m hm => ArithF_i32_3 hm.lole (Fit.wr _ _) (Fit.wr _ _) h0) ?_
  refine Ie.p rfl rfl rfl rfl ?_
  refine Ie.p rfl rfl rfl rfl ?_
  refine Ie.p rfl rfl rfl rfl ?_
  refine Ie.p rfl rfl rfl rfl ?_
  refine Ie.p rfl rfl rfl rfl ?_
  refine Ie.nil ?_
  refine Ne.seq ?_
  refine Ce.seq ?_
  refine Ce.region ?_
  refine Ie.p rfl rfl rfl rfl ?_
  refine Ie.p rfl rfl rfl rfl ?_
  refine Ie.p rfl rfl rfl rfl ?_
  refine Ie.call _ rfl rfl rfl rfl rfl rfl (fun m hm => ArithF_i32_4 hm.lole (Fit.wr _ _) (Fit.wr _ _) h0) ?_
  refine Ie.p rfl rfl rfl rfl ?_
  refine Ie.p rfl rfl rfl rfl ?_
  refine Ie.p rfl rfl rfl rfl ?_
  refine Ie.p rfl rfl rfl rfl ?_
  refine Ie.p rfl rfl rfl rfl ?_
  refine Ie.nil ?_
  refine Ne.seq ?_
  refine Ce.seq ?_
  refine Ce.seq ?_
  refine Ce.region ?_
  refine Ie.p rfl rfl rfl rfl ?_
  refine Ie.bin (v := .bool false) rfl rfl rfl rfl rfl rfl (binS_neql h0) ?_
  refine Ie.nil ?_
  refine Ne.seq ?_
  refine Ce.cond_false rfl ?_
  refine Ce.skip ?_
  refine Ne.seq ?_
  refine Ce.seq ?_
  refine Ce.region ?_
  refine Ie.p rfl rfl rfl rfl ?_
  refine Ie.p rfl rfl rfl rfl ?_
  refine Ie.p rfl rfl rfl rfl ?_
  refine Ie.call _ rfl rfl rfl rfl rfl rfl (fun m hm => ArithF_i32_2 hm.lole (Fit.wr _ _) (Fit.wr _ _)) ?_
  refine Ie.p rfl rfl rfl rfl ?_
  refine Ie.p rfl rfl rfl rfl ?_
  refine Ie.p rfl rfl rfl rfl ?_
  refine Ie.p rfl rfl rfl rfl ?_
  refine Ie.nil ?_
  refine Ne.seq ?_
  refine Ce.seq ?_
  refine Ce.region ?_
  refine Ie.p rfl rfl rfl rfl ?_
  refine Ie.p rfl rfl rfl rfl ?_
  refine Ie.p rfl rfl rfl rfl ?_
  refine Ie.call _ rfl rfl rfl rfl rfl rfl (fun m hm => ArithF_i32_0 hm.lole (Fit.wr _ _) (Fit.wr _ _)) ?_
  refine Ie.p rfl rfl rfl rfl ?_
  refine Ie.p rfl rfl rfl rfl ?_
  refine Ie.p rfl rfl rfl rfl ?_
  refine Ie.p rfl rfl rfl rfl ?_
  refine Ie.nil ?_
  refine Ne.seq ?_
  refine Ce.seq ?_
  refine Ce.region ?_
  refine Ie.p rfl rfl rfl rfl ?_
  refine Ie.p rfl rfl rfl rfl ?_
  refine Ie.p rfl rfl rfl rfl ?_
  refine Ie.p rfl rfl rfl rfl ?_
  refine Ie.p rfl rfl rfl rfl ?_
  refine Ie.p rfl rfl rfl rfl ?_
  refine Ie.p rfl rfl rfl rfl ?_
  refine Ie.p rfl rfl rfl rfl ?_
  refine Ie.p rfl rfl rfl rfl ?_
  refine Ie.bin (v := .bool true) rfl rfl rfl rfl rfl rfl (binS_eql (ringDiv _ (Fit.wr _ _))) ?_
  refine Ie.p rfl rfl rfl rfl ?_
  refine Ie.p rfl rfl rfl rfl ?_
  refine Ie.nil ?_
  refine Ne.seq ?_
  refine Ce.ret ?_
  exact Re.end_ rfl rfl (fun m hm => ⟨rfl, hm.ext⟩)

theorem ringz_i32 {a b : Int} {m : AW} (hm : m.lo ≤ m.next) (hl : LaidAt lays m) (ha : Fit .i64 a) (hb : Fit .i64 b) (h0 : wr .i32 b = 0) : Fc Tryz.prog 6 [.int .i64 2, .int .i64 a, .int .i64 b] m fun v m' => v = .bool true ∧ Ext m m' := by
  refine Fc.body (c := _) Tryz.func6 rfl rfl rfl rfl hm ?_
  refine Ce.seq ?_
  refine Ce.region ?_
  refine Ie.p rfl rfl rfl rfl ?_
  refine Ie.nil ?_
  refine Ne.seq ?_
  refine Ce.seq ?_
  refine Ce.seq ?_
  refine Ce.region ?_
  refine Ie.call _ rfl rfl rfl rfl rfl rfl (fun m hm => awake_ok (hl.kr hm)) ?_
  refine Ie.p rfl rfl rfl rfl ?_
  refine Ie.p rfl rfl rfl rfl ?_
  refine Ie.p rfl rfl rfl rfl ?_
  refine Ie.p rfl rfl rfl rfl ?_
  refine Ie.p rfl rfl rfl rfl ?_
  refine Ie.p rfl rfl rfl rfl ?_
  refine Ie.p rfl rfl rfl rfl ?_
  refine Ie.p rfl rfl rfl rfl ?_
  refine Ie.p rfl rfl rfl rfl ?_
  refine Ie.off rfl rfl rfl ?_
  refine Ie.off rfl rfl rfl ?_
  refine Ie.p rfl rfl rfl rfl ?_
  refine Ie.p rfl rfl rfl rfl ?_
  refine Ie.nil ?_
  refine Ne.seq ?_
  refine Ce.cond_false rfl ?_
  refine Ce.skip ?_
  refine Ne.seq ?_
  refine Ce.seq ?_
  refine Ce.region ?_
  refine Ie.p rfl rfl rfl rfl ?_
  refine Ie.p rfl rfl rfl rfl ?_
  refine Ie.call _ rfl rfl rfl rfl rfl rfl (fun m hm => Wrap_i32 hm.lole ha) ?_
  refine Ie.p rfl rfl rfl rfl ?_
  refine Ie.p rfl rfl rfl rfl ?_
  refine Ie.p rfl rfl rfl rfl ?_
  refine Ie.p rfl rfl rfl rfl ?_
  refine Ie.nil ?_
  refine Ne.seq ?_
  refine Ce.seq ?_
  refine Ce.region ?_
  refine Ie.p rfl rfl rfl rfl ?_
  refine Ie.p rfl rfl rfl rfl ?_
  refine Ie.call _ rfl rfl rfl rfl rfl rfl (fun m hm => Wrap_i32 hm.lole hb) ?_
  refine Ie.p rfl rfl rfl rfl ?_
  refine Ie.p rfl rfl rfl rfl ?_
  refine Ie.p rfl rfl rfl rfl ?_
  refine Ie.p rfl rfl rfl rfl ?_
  refine Ie.nil ?_
  refine Ne.seq ?_
  refine Ce.seq ?_
  refine Ce.region ?_
  refine Ie.p rfl rfl rfl rfl ?_
  refine Ie.p rfl rfl rfl rfl ?_
  refine Ie.p rfl rfl rfl rfl ?_
  refine Ie.call _ rfl rfl rfl rfl rfl rfl (fun m hm => ArithF_i32_0 hm.lole (Fit.wr _ _) (Fit.wr _ _)) ?_
  refine Ie.p rfl rfl rfl rfl ?_
  refine Ie.p rfl rfl rfl rfl ?_
  refine Ie.p rfl rfl rfl rfl ?_
  refine Ie.p rfl rfl rfl rfl ?_
  refine Ie.p rfl rfl rfl rfl ?_
  refine Ie.nil ?_
  refine Ne.seq ?_
  refine Ce.seq ?_
  refine Ce.region ?_
  refine Ie.p rfl rfl rfl rfl ?_
  refine Ie.p rfl rfl rfl rfl ?_
  refine Ie.p rfl rfl rfl rfl ?_
  refine Ie.call _ rfl rfl rfl rfl rfl rfl (fun m hm => ArithF_i32_0 hm.lole (Fit.wr _ _) (Fit.wr _ _)) ?_
  refine Ie.p rfl rfl rfl rfl ?_
  refine Ie.p rfl rfl rfl rfl ?_
  refine Ie.p rfl rfl rfl rfl ?_
  refine Ie.p rfl rfl rfl rfl ?_
  refine Ie.p rfl rfl rfl rfl ?_
  refine Ie.nil ?_
  refine Ne.seq ?_
  refine Ce.seq ?_
  refine Ce.region ?_
  refine Ie.p rfl rfl rfl rfl ?_
  refine Ie.p rfl rfl rfl rfl ?_
  refine Ie.p rfl rfl rfl rfl ?_
  refine Ie.call _ rfl rfl rfl rfl rfl rfl (fun m hm => ArithF_i32_2 hm.lole (Fit.wr _ _) (Fit.wr _ _)) ?_
  refine Ie.p rfl rfl rfl rfl ?_
  refine Ie.p rfl rfl rfl rfl ?_
  refine Ie.p rfl rfl rfl rfl ?_
  refine Ie.p rfl rfl rfl rfl ?_
  refine Ie.p rfl rfl rfl rfl ?_
  refine Ie.nil ?_
  refine Ne.seq ?_
  refine Ce.seq ?_
  refine Ce.region ?_
  refine Ie.p rfl rfl rfl rfl ?_
  refine Ie.p rfl rfl rfl rfl ?_
  refine Ie.p rfl rfl rfl rfl ?_
  refine Ie.call _ rfl rfl rfl rfl rfl rfl (fun m hm => ArithF_i32_2 hm.lole (Fit.wr _ _) (Fit.wr _ _)) ?_
  refine Ie.p rfl rfl rfl rfl ?_
  refine Ie.p rfl rfl rfl rfl ?_
  refine Ie.p rfl rfl rfl rfl ?_
  refine Ie.p rfl rfl rfl rfl ?_
  refine Ie.p rfl rfl rfl rfl ?_
  refine Ie.nil ?_
  refine Ne.seq ?_
  refine Ce.seq ?_
  refine Ce.region ?_
  refine Ie.p rfl rfl rfl rfl ?_
  refine Ie.p rfl rfl rfl rfl ?_
  refine Ie.p rfl rfl rfl rfl ?_
  refine Ie.call _ rfl rfl rfl rfl rfl rfl (fun m hm => ArithF_i32_1 hm.lole (Fit.wr _ _) (Fit.wr _ _)) ?_
  refine Ie.p rfl rfl rfl rfl ?_
  refine Ie.p rfl rfl rfl rfl ?_
  refine Ie.p rfl rfl rfl rfl ?_
  refine Ie.p rfl rfl rfl rfl ?_
  refine Ie.p rfl rfl rfl rfl ?_
  refine Ie.nil ?_
  refine Ne.seq ?_
  refine Ce.seq ?_
  refine Ce.region ?_
  refine Ie.p rfl rfl rfl rfl ?_
  refine Ie.p rfl rfl rfl rfl ?_
  refine Ie.p rfl rfl rfl rfl ?_
  refine Ie.call _ rfl rfl rfl rfl rfl rfl (fun m hm => ArithF_i32_0 hm.lole (Fit.wr _ _) (Fit.wr _ _)) ?_
  refine Ie.p rfl rfl rfl rfl ?_
  refine Ie.p rfl rfl rfl rfl ?_
  refine Ie.p rfl rfl rfl rfl ?_
  refine Ie.p rfl rfl rfl rfl ?_
  refine Ie.p rfl rfl rfl rfl ?_
  refine Ie.nil ?_
  refine Ne.seq ?_
  refine Ce.seq ?_
  refine Ce.seq ?_
  refine Ce.region ?_
  refine Ie.p rfl rfl rfl rfl ?_
  refine Ie.p rfl rfl rfl rfl ?_
  refine Ie.bin (v := .bool false) rfl rfl rfl rfl rfl rfl (binS_neq (ringAdd _ _ _)) ?_
  refine Ie.p rfl rfl rfl rfl ?_
  refine Ie.p rfl rfl rfl rfl ?_
  refine Ie.p rfl rfl rfl rfl ?_
  refine Ie.bin (v := .bool false) rfl rfl rfl rfl rfl rfl (binS_neq (ringMul _ _ _)) ?_
  refine Ie.p rfl rfl rfl rfl ?_
  refine Ie.p rfl rfl rfl rfl ?_
  refine Ie.p rfl rfl rfl rfl ?_
  refine Ie.p rfl rfl rfl rfl ?_
  refine Ie.bin (v := .bool false) rfl rfl rfl rfl rfl rfl (binS_neq (ringBack _ (Fit.wr _ _))) ?_
  refine Ie.p rfl rfl rfl rfl ?_
  refine Ie.p rfl rfl rfl rfl ?_
  refine Ie.p rfl rfl rfl rfl ?_
  refine Ie.p rfl rfl rfl rfl ?_
  refine Ie.p rfl rfl rfl rfl ?_
  refine Ie.nil ?_
  refine Ne.seq ?_
  refine Ce.cond_false rfl ?_
  refine Ce.skip ?_
  refine Ne.seq ?_
  refine Ce.seq ?_
  refine Ce.region ?_
  refine Ie.p rfl rfl rfl rfl ?_
  refine Ie.p rfl rfl rfl rfl ?_
  refine Ie.p rfl rfl rfl rfl ?_
  refine Ie.call _ rfl rfl rfl rfl rfl rfl (fun m hm => (by rw [h0]; exact ArithZ_i32_3 hm.lole (Fit.wr _ _))) ?_
  refine Ie.p rfl rfl rfl rfl ?_
  refine Ie.p rfl rfl rfl rfl ?_
  refine Ie.p rfl rfl rfl rfl ?_
  refine Ie.p rfl rfl rfl rfl ?_
  refine Ie.p rfl rfl rfl rfl ?_
  refine Ie.nil ?_
  refine Ne.seq ?_
  refine Ce.seq ?_
  refine Ce.region ?_
  refine Ie.p rfl rfl rfl rfl ?_
  refine Ie.p rfl rfl rfl rfl ?_
  refine Ie.p rfl rfl rfl rfl ?_
  refine Ie.call _ rfl rfl rfl rfl rfl rfl (fun m hm => (by rw [h0]; exact ArithZ_i32_4 hm.lole (Fit.wr _ _))) ?_
  refine Ie.p rfl rfl rfl rfl ?_
  refine Ie.p rfl rfl rfl rfl ?_
  refine Ie.p rfl rfl rfl rfl ?_
  refine Ie.p rfl rfl rfl rfl ?_
  refine Ie.p rfl rfl rfl rfl ?_
  refine Ie.nil ?_
  refine Ne.seq ?_
  refine Ce.seq ?_
  refine Ce.seq ?_
  refine Ce.region ?_
  refine Ie.p rfl rfl rfl rfl ?_
  refine Ie.bin (v := .bool true) rfl rfl rfl rfl rfl rfl (binS_eql h0) ?_
  refine Ie.nil ?_
  refine Ne.seq ?_
  refine Ce.cond_true rfl ?_
  refine Ce.seq ?_
  refine Ce.region ?_
  refine Ie.p rfl rfl rfl rfl ?_
  refine Ie.p rfl rfl rfl rfl ?_
  refine Ie.p rfl rfl rfl rfl ?_
  refine Ie.p rfl rfl rfl rfl ?_
  refine Ie.p rfl rfl rfl rfl ?_
  refine Ie.p rfl rfl rfl rfl ?_
  refine Ie.p rfl rfl rfl rfl ?_
  refine Ie.nil ?_
  refine Ne.seq ?_
  refine Ce.ret ?_
  refine Re.seq ?_
  exact Re.end_ rfl rfl (fun m hm => ⟨rfl, hm.ext⟩)

theorem ring_i64 {a b : Int} {m : AW} (hm : m.lo ≤ m.next) (hl : LaidAt lays m) (ha : Fit .i64 a) (hb : Fit .i64 b) (h0 : wr .i64 b ≠ 0) : Fc Tryz.prog 6 [.int .i64 3, .int .i64 a, .int .i64 b] m fun v m' => v = .bool true ∧ Ext m m' := by
  refine Fc.body (c := _) Tryz.func6 rfl rfl rfl rfl hm ?_
  refine Ce.seq ?_
  refine Ce.region ?_
  refine Ie.p rfl rfl rfl rfl ?_
  refine Ie.nil ?_
  refine Ne.seq ?_
  refine Ce.seq ?_
  refine Ce.seq ?_
  refine Ce.region ?_
  refine Ie.call _ rfl rfl rfl rfl rfl rfl (fun m hm => awake_ok (hl.kr hm)) ?_
  refine Ie.p rfl rfl rfl rfl ?_
  refine Ie.p rfl rfl rfl rfl ?_
  refine Ie.p rfl rfl rfl rfl ?_
  refine Ie.p rfl rfl rfl rfl ?_
  refine Ie.p rfl rfl rfl rfl ?_
  refine Ie.p rfl rfl rfl rfl ?_
  refine Ie.p rfl rfl rfl rfl ?_
  refine Ie.p rfl rfl rfl rfl ?_
  refine Ie.p rfl rfl rfl rfl ?_
  refine Ie.p rfl rfl rfl rfl ?_
  refine Ie.p rfl rfl rfl rfl ?_
  refine Ie.p rfl rfl rfl rfl ?_
  refine Ie.p rfl rfl rfl rfl ?_
  refine Ie.nil ?_
  refine Ne.seq ?_
  refine Ce.cond_false rfl ?_
  refine Ce.skip ?_
  refine Ne.seq ?_
  refine Ce.seq ?_
  refine Ce.region ?_
  refine Ie.p rfl rfl rfl rfl ?_
  refine Ie.p rfl rfl rfl rfl ?_
  refine Ie.call _ rfl rfl rfl rfl rfl rfl (fun m hm => Wrap_i64 hm.lole ha) ?_
  refine Ie.p rfl rfl rfl rfl ?_
  refine Ie.p rfl rfl rfl rfl ?_
  refine Ie.p rfl rfl rfl rfl ?_
  refine Ie.p rfl rfl rfl rfl ?_
  refine Ie.nil ?_
  refine Ne.seq ?_
  refine Ce.seq ?_
  refine Ce.region ?_
  refine Ie.p rfl rfl rfl rfl ?_
  refine Ie.p rfl rfl rfl rfl ?_
  refine Ie.call _ rfl rfl rfl rfl rfl rfl (fun m hm => Wrap_i64 hm.lole hb) ?_
  refine Ie.p rfl rfl rfl rfl ?_
  refine Ie.p rfl rfl rfl rfl ?_
  refine Ie.p rfl rfl rfl rfl ?_
  refine Ie.p rfl rfl rfl rfl ?_
  refine Ie.nil ?_
  refine Ne.seq ?_
  refine Ce.seq ?_
  refine Ce.region ?_
  refine Ie.p rfl rfl rfl rfl ?_
  refine Ie.p rfl rfl rfl rfl ?_
  refine Ie.p rfl rfl rfl rfl ?_
  refine Ie.call _ rfl rfl rfl rfl rfl rfl (fun m hm => ArithF_i64_0 hm.lole (Fit.wr _ _) (Fit.wr _ _)) ?_
  refine Ie.p rfl rfl rfl rfl ?_
  refine Ie.p rfl rfl rfl rfl ?_
  refine Ie.p rfl rfl rfl rfl ?_
  refine Ie.p rfl rfl rfl rfl ?_
  refine Ie.p rfl rfl rfl rfl ?_
  refine Ie.nil ?_
  refine Ne.seq ?_
  refine Ce.seq ?_
  refine Ce.region ?_
  refine Ie.p rfl rfl rfl rfl ?_
  refine Ie.p rfl rfl rfl rfl ?_
  refine Ie.p rfl rfl rfl rfl ?_
  refine Ie.call _ rfl rfl rfl rfl rfl rfl (fun m hm => ArithF_i64_0 hm.lole (Fit.wr _ _) (Fit.wr _ _)) ?_
  refine Ie.p rfl rfl rfl rfl ?_
  refine Ie.p rfl rfl rfl rfl ?_
  refine Ie.p rfl rfl rfl rfl ?_
  refine Ie.p rfl rfl rfl rfl ?_
  refine Ie.p rfl rfl rfl rfl ?_
  refine Ie.nil ?_
  refine Ne.seq ?_
  refine Ce.seq ?_
  refine Ce.region ?_
  refine Ie.p rfl rfl rfl rfl ?_
  refine Ie.p rfl rfl rfl rfl ?_
  refine Ie.p rfl rfl rfl rfl ?_
  refine Ie.call _ rfl rfl rfl rfl rfl rfl (fun m hm => ArithF_i64_2 hm.lole (Fit.wr _ _) (Fit.wr _ _)) ?_
  refine Ie.p rfl rfl rfl rfl ?_
  refine Ie.p rfl rfl rfl rfl ?_
  refine Ie.p rfl rfl rfl rfl ?_
  refine Ie.p rfl rfl rfl rfl ?_
  refine Ie.p rfl rfl rfl rfl ?_
  refine Ie.nil ?_
  refine Ne.seq ?_
  refine Ce.seq ?_
  refine Ce.region ?_
  refine Ie.p rfl rfl rfl rfl ?_
  refine Ie.p rfl rfl rfl rfl ?_
  refine Ie.p rfl rfl rfl rfl ?_
  refine Ie.call _ rfl rfl rfl rfl rfl rfl (fun m hm => ArithF_i64_2 hm.lole (Fit.wr _ _) (Fit.wr _ _)) ?_
  refine Ie.p rfl rfl rfl rfl ?_
  refine Ie.p rfl rfl rfl rfl ?_
  refine Ie.p rfl rfl rfl rfl ?_
  refine Ie.p rfl rfl rfl rfl ?_
  refine Ie.p rfl rfl rfl rfl ?_
  refine Ie.nil ?_
  refine Ne.seq ?_
  refine Ce.seq ?_
  refine Ce.region ?_
  refine Ie.p rfl rfl rfl rfl ?_
  refine Ie.p rfl rfl rfl rfl ?_
  refine Ie.p rfl rfl rfl rfl ?_
  refine Ie.call _ rfl rfl rfl rfl rfl rfl (fun m hm => ArithF_i64_1 hm.lole (Fit.wr _ _) (Fit.wr _ _)) ?_
  refine Ie.p rfl rfl rfl rfl ?_
  refine Ie.p rfl rfl rfl rfl ?_
  refine Ie.p rfl rfl rfl rfl ?_
  refine Ie.p rfl rfl rfl rfl ?_
  refine Ie.p rfl rfl rfl rfl ?_
  refine Ie.nil ?_
  refine Ne.seq ?_
  refine Ce.seq ?_
  refine Ce.region ?_
  refine Ie.p rfl rfl rfl rfl ?_
  refine Ie.p rfl rfl rfl rfl ?_
  refine Ie.p rfl rfl rfl rfl ?_
  refine Ie.call _ rfl rfl rfl rfl rfl rfl (fun m hm => ArithF_i64_0 hm.lole (Fit.wr _ _) (Fit.wr _ _)) ?_
  refine Ie.p rfl rfl rfl rfl ?_
  refine Ie.p rfl rfl rfl rfl ?_
  refine Ie.p rfl rfl rfl rfl ?_
  refine Ie.p rfl rfl rfl rfl ?_
  refine Ie.p rfl rfl rfl rfl ?_
  refine Ie.nil ?_
  refine Ne.seq ?_
  refine Ce.seq ?_
  refine Ce.seq ?_
  refine Ce.region ?_
  refine Ie.p rfl rfl rfl rfl ?_
  refine Ie.p rfl rfl rfl rfl ?_
  refine Ie.bin (v := .bool false) rfl rfl rfl rfl rfl rfl (binS_neq (ringAdd _ _ _)) ?_
  refine Ie.p rfl rfl rfl rfl ?_
  refine Ie.p rfl rfl rfl rfl ?_
  refine Ie.p rfl rfl rfl rfl ?_
  refine Ie.bin (v := .bool false) rfl rfl rfl rfl rfl rfl (binS_neq (ringMul _ _ _)) ?_
  refine Ie.p rfl rfl rfl rfl ?_
  refine Ie.p rfl rfl rfl rfl ?_
  refine Ie.p rfl rfl rfl rfl ?_
  refine Ie.p rfl rfl rfl rfl ?_
  refine Ie.bin (v := .bool false) rfl rfl rfl rfl rfl rfl (binS_neq (ringBack _ (Fit.wr _ _))) ?_
  refine Ie.p rfl rfl rfl rfl ?_
  refine Ie.p rfl rfl rfl rfl ?_
  refine Ie.p rfl rfl rfl rfl ?_
  refine Ie.p rfl rfl rfl rfl ?_
  refine Ie.p rfl rfl rfl rfl ?_
  refine Ie.nil ?_
  refine Ne.seq ?_
  refine Ce.cond_false rfl ?_
  refine Ce.skip ?_
  refine Ne.seq ?_
  refine Ce.seq ?_
  refine Ce.region ?_
  refine Ie.p rfl rfl rfl rfl ?_
  refine Ie.p rfl rfl rfl rfl ?_
  refine Ie.p rfl rfl rfl rfl ?_
  refine Ie.call _ rfl rfl rfl rfl rfl rfl (fun m hm => ArithF_i64_3 hm.lole (Fit.wr _ _) (Fit.wr _ _) h0) ?_
  refine Ie.p rfl rfl rfl rfl ?_
  refine Ie.p rfl rfl rfl rfl ?_
  refine Ie.p rfl rfl rfl rfl ?_
  refine Ie.p rfl rfl rfl rfl ?_
  refine Ie.p rfl rfl rfl rfl ?_
  refine Ie.nil ?_
  refine Ne.seq ?_
  refine Ce.seq ?_
  refine Ce.region ?_
  refine Ie.p rfl rfl rfl rfl ?_
  refine Ie.p rfl rfl rfl rfl ?_
  refine Ie.p rfl rfl rfl rfl ?_
  refine Ie.call _ rfl rfl rfl rfl rfl rfl (fun m hm => ArithF_i64_4 hm.lole (Fit.wr _ _) (Fit.wr _ _) h0) ?_
  refine Ie.p rfl rfl rfl rfl ?_
  refine Ie.p rfl rfl rfl rfl ?_
  refine Ie.p rfl rfl rfl rfl ?_
  refine Ie.p rfl rfl rfl rfl ?_
  refine Ie.p rfl rfl rfl rfl ?_
  refine Ie.nil ?_
  refine Ne.seq ?_
  refine Ce.seq ?_
  refine Ce.seq ?_
  refine Ce.region ?_
  refine Ie.p rfl rfl rfl rfl ?_
  refine Ie.bin (v := .bool false) rfl rfl rfl rfl rfl rfl (binS_neql h0) ?_
  refine Ie.nil ?_
  refine Ne.seq ?_
  refine Ce.cond_false rfl ?_
  refine Ce.skip ?_
  refine Ne.seq ?_
  refine Ce.seq ?_
  refine Ce.region ?_
  refine Ie.p rfl rfl rfl rfl ?_
  refine Ie.p rfl rfl rfl rfl ?_
  refine Ie.p rfl rfl rfl rfl ?_
  refine Ie.call _ rfl rfl rfl rfl rfl rfl (fun m hm => ArithF_i64_2 hm.lole (Fit.wr _ _) (Fit.wr _ _)) ?_
  refine Ie.p rfl rfl rfl rfl ?_
  refine Ie.p rfl rfl rfl rfl ?_
  refine Ie.p rfl rfl rfl rfl ?_
  refine Ie.p rfl rfl rfl rfl ?_
  refine Ie.nil ?_
  refine Ne.seq ?_
  refine Ce.seq ?_
  refine Ce.region ?_
  refine Ie.p rfl rfl rfl rfl ?_
  refine Ie.p rfl rfl rfl rfl ?_
  refine Ie.p rfl rfl rfl rfl ?_
  refine Ie.call _ rfl rfl rfl rfl rfl rfl (fun m hm => ArithF_i64_0 hm.lole (Fit.wr _ _) (Fit.wr _ _)) ?_
  refine Ie.p rfl rfl rfl rfl ?_
  refine Ie.p rfl rfl rfl rfl ?_
  refine Ie.p rfl rfl rfl rfl ?_
  refine Ie.p rfl rfl rfl rfl ?_
  refine Ie.nil ?_
  refine Ne.seq ?_
  refine Ce.seq ?_
  refine Ce.region ?_
  refine Ie.p rfl rfl rfl rfl ?_
  refine Ie.p rfl rfl rfl rfl ?_
  refine Ie.p rfl rfl rfl rfl ?_
  refine Ie.p rfl rfl rfl rfl ?_
  refine Ie.p rfl rfl rfl rfl ?_
  refine Ie.p rfl rfl rfl rfl ?_
  refine Ie.p rfl rfl rfl rfl ?_
  refine Ie.p rfl rfl rfl rfl ?_
  refine Ie.p rfl rfl rfl rfl ?_
  refine Ie.bin (v := .bool true) rfl rfl rfl rfl rfl rfl (binS_eql (ringDiv _ (Fit.wr _ _))) ?_
  refine Ie.p rfl rfl rfl rfl ?_
  refine Ie.p rfl rfl rfl rfl ?_
  refine Ie.nil ?_
  refine Ne.seq ?_
  refine Ce.ret ?_
  exact Re.end_ rfl rfl (fun m hm => ⟨rfl, hm.ext⟩)

theorem ringz_i64 {a b : Int} {m : AW} (hm : m.lo ≤ m.next) (hl : LaidAt lays m) (ha : Fit .i64 a) (hb : Fit .i64 b) (h0 : wr .i64 b = 0) : Fc Tryz.prog 6 [.int .i64 3, .int .i64 a, .int .i64 b] m fun v m' => v = .bool true ∧ Ext m m' := by
  refine Fc.body (c := _) Tryz.func6 rfl rfl rfl rfl hm ?_
  refine Ce.seq ?_
  refine Ce.region ?_
  refine Ie.p rfl rfl rfl rfl ?_
  refine Ie.nil ?_
  refine Ne.seq ?_
  refine Ce.seq ?_
  refine Ce.seq ?_
  refine Ce.region ?_
  refine Ie.call _ rfl rfl rfl rfl rfl rfl (fun m hm => awake_ok (hl.kr hm)) ?_
  refine Ie.p rfl rfl rfl rfl ?_
  refine Ie.p rfl rfl rfl rfl ?_
  refine Ie.p rfl rfl rfl rfl ?_
  refine Ie.p rfl rfl rfl rfl ?_
  refine Ie.p rfl rfl rfl rfl ?_
  refine Ie.p rfl rfl rfl rfl ?_
  refine Ie.p rfl rfl rfl rfl ?_
  refine Ie.p rfl rfl rfl rfl ?_
  refine Ie.p rfl rfl rfl rfl ?_
  refine Ie.p rfl rfl rfl rfl ?_
  refine Ie.p rfl rfl rfl rfl ?_
  refine Ie.p rfl rfl rfl rfl ?_
  refine Ie.p rfl rfl rfl rfl ?_
  refine Ie.nil ?_
  refine Ne.seq ?_
  refine Ce.cond_false rfl ?_
  refine Ce.skip ?_
  refine Ne.seq ?_
  refine Ce.seq ?_
  refine Ce.region ?_
  refine Ie.p rfl rfl rfl rfl ?_
  refine Ie.p rfl rfl rfl rfl ?_
  refine Ie.call _ rfl rfl rfl rfl rfl rfl (fun m hm => Wrap_i64 hm.lole ha) ?_
  refine Ie.p rfl rfl rfl rfl ?_
  refine Ie.p rfl rfl rfl rfl ?_
  refine Ie.p rfl rfl rfl rfl ?_
  refine Ie.p rfl rfl rfl rfl ?_
  refine Ie.nil ?_
  refine Ne.seq ?_
  refine Ce.seq ?_
  refine Ce.region ?_
  refine Ie.p rfl rfl rfl rfl ?_
  refine Ie.p rfl rfl rfl rfl ?_
  refine Ie.call _ rfl rfl rfl rfl rfl rfl (fun m hm => Wrap_i64 hm.lole hb) ?_
  refine Ie.p rfl rfl rfl rfl ?_
  refine Ie.p rfl rfl rfl rfl ?_
  refine Ie.p rfl rfl rfl rfl ?_
  refine Ie.p rfl rfl rfl rfl ?_
  refine Ie.nil ?_
  refine Ne.seq ?_
  refine Ce.seq ?_
  refine Ce.region ?_
  refine Ie.p rfl rfl rfl rfl ?_
  refine Ie.p rfl rfl rfl rfl ?_
  refine Ie.p rfl rfl rfl rfl ?_
  refine Ie.call _ rfl rfl rfl rfl rfl rfl (fun m hm => ArithF_i64_0 hm.lole (Fit.wr _ _) (Fit.wr _ _)) ?_
  refine Ie.p rfl rfl rfl rfl ?_
  refine Ie.p rfl rfl rfl rfl ?_
  refine Ie.p rfl rfl rfl rfl ?_
  refine Ie.p rfl rfl rfl rfl ?_
  refine Ie.p rfl rfl rfl rfl ?_
  refine Ie.nil ?_
  refine Ne.seq ?_
  refine Ce.seq ?_
  refine Ce.region ?_
  refine Ie.p rfl rfl rfl rfl ?_
  refine Ie.p rfl rfl rfl rfl ?_
  refine Ie.p rfl rfl rfl rfl ?_
  refine Ie.call _ rfl rfl rfl rfl rfl rfl (fun m hm => ArithF_i64_0 hm.lole (Fit.wr _ _) (Fit.wr _ _)) ?_
  refine Ie.p rfl rfl rfl rfl ?_
  refine Ie.p rfl rfl rfl rfl ?_
  refine Ie.p rfl rfl rfl rfl ?_
  refine Ie.p rfl rfl rfl rfl ?_
  refine Ie.p rfl rfl rfl rfl ?_
  refine Ie.nil ?_
  refine Ne.seq ?_
  refine Ce.seq ?_
  refine Ce.region ?_
  refine Ie.p rfl rfl rfl rfl ?_
  refine Ie.p rfl rfl rfl rfl ?_
  refine Ie.p rfl rfl rfl rfl ?_
  refine Ie.call _ rfl rfl rfl rfl rfl rfl (fun m hm => ArithF_i64_2 hm.lole (Fit.wr _ _) (Fit.wr _ _)) ?_
  refine Ie.p rfl rfl rfl rfl ?_
  refine Ie.p rfl rfl rfl rfl ?_
  refine Ie.p rfl rfl rfl rfl ?_
  refine Ie.p rfl rfl rfl rfl ?_
  refine Ie.p rfl rfl rfl rfl ?_
  refine Ie.nil ?_
  refine Ne.seq ?_
  refine Ce.seq ?_
  refine Ce.region ?_
  refine Ie.p rfl rfl rfl rfl ?_
  refine Ie.p rfl rfl rfl rfl ?_
  refine Ie.p rfl rfl rfl rfl ?_
  refine Ie.call _ rfl rfl rfl rfl rfl rfl (fun m hm => ArithF_i64_2 hm.lole (Fit.wr _ _) (Fit.wr _ _)) ?_
  refine Ie.p rfl rfl rfl rfl ?_
  refine Ie.p rfl rfl rfl rfl ?_
  refine Ie.p rfl rfl rfl rfl ?_
  refine Ie.p rfl rfl rfl rfl ?_
  refine Ie.p rfl rfl rfl rfl ?_
  refine Ie.nil ?_
  refine Ne.seq ?_
  refine Ce.seq ?_
  refine Ce.region ?_
  refine Ie.p rfl rfl rfl rfl ?_
  refine Ie.p rfl rfl rfl rfl ?_
  refine Ie.p rfl rfl rfl rfl ?_
  refine Ie.call _ rfl rfl rfl rfl rfl rfl (fun m hm => ArithF_i64_1 hm.lole (Fit.wr _ _) (Fit.wr _ _)) ?_
  refine Ie.p rfl rfl rfl rfl ?_
  refine Ie.p rfl rfl rfl rfl ?_
  refine Ie.p rfl rfl rfl rfl ?_
  refine Ie.p rfl rfl rfl rfl ?_
  refine Ie.p rfl rfl rfl rfl ?_
  refine Ie.nil ?_
  refine Ne.seq ?_
  refine Ce.seq ?_
  refine Ce.region ?_
  refine Ie.p rfl rfl rfl rfl ?_
  refine Ie.p rfl rfl rfl rfl ?_
  refine Ie.p rfl rfl rfl rfl ?_
  refine Ie.call _ rfl rfl rfl rfl rfl rfl (fun m hm => ArithF_i64_0 hm.lole (Fit.wr _ _) (Fit.wr _ _)) ?_
  refine Ie.p rfl rfl rfl rfl ?_
  refine Ie.p rfl rfl rfl rfl ?_
  refine Ie.p rfl rfl rfl rfl ?_
  refine Ie.p rfl rfl rfl rfl ?_
  refine Ie.p rfl rfl rfl rfl ?_
  refine Ie.nil ?_
  refine Ne.seq ?_
  refine Ce.seq ?_
  refine Ce.seq ?_
  refine Ce.region ?_
  refine Ie.p rfl rfl rfl rfl ?_
  refine Ie.p rfl rfl rfl rfl ?_
  refine Ie.bin (v := .bool false) rfl rfl rfl rfl rfl rfl (binS_neq (ringAdd _ _ _)) ?_
  refine Ie.p rfl rfl rfl rfl ?_
  refine Ie.p rfl rfl rfl rfl ?_
  refine Ie.p rfl rfl rfl rfl ?_
  refine Ie.bin (v := .bool false) rfl rfl rfl rfl rfl rfl (binS_neq (ringMul _ _ _)) ?_
  refine Ie.p rfl rfl rfl rfl ?_
  refine Ie.p rfl rfl rfl rfl ?_
  refine Ie.p rfl rfl rfl rfl ?_
  refine Ie.p rfl rfl rfl rfl ?_
  refine Ie.bin (v := .bool false) rfl rfl rfl rfl rfl rfl (binS_neq (ringBack _ (Fit.wr _ _))) ?_
  refine Ie.p rfl rfl rfl rfl ?_
  refine Ie.p rfl rfl rfl rfl ?_
  refine Ie.p rfl rfl rfl rfl ?_
  refine Ie.p rfl rfl rfl rfl ?_
  refine Ie.p rfl rfl rfl rfl ?_
  refine Ie.nil ?_
  refine Ne.seq ?_
  refine Ce.cond_false rfl ?_
  refine Ce.skip ?_
  refine Ne.seq ?_
  refine Ce.seq ?_
  refine Ce.region ?_
  refine Ie.p rfl rfl rfl rfl ?_
  refine Ie.p rfl rfl rfl rfl ?_
  refine Ie.p rfl rfl rfl rfl ?_
  refine Ie.call _ rfl rfl rfl rfl rfl rfl (fun m hm => (by rw [h0]; exact ArithZ_i64_3 hm.lole (Fit.wr _ _))) ?_
  refine Ie.p rfl rfl rfl rfl ?_
  refine Ie.p rfl rfl rfl rfl ?_
  refine Ie.p rfl rfl rfl rfl ?_
  refine Ie.p rfl rfl rfl rfl ?_
  refine Ie.p rfl rfl rfl rfl ?_
  refine Ie.nil ?_
  refine Ne.seq ?_
  refine Ce.seq ?_
  refine Ce.region ?_
  refine Ie.p rfl rfl rfl rfl ?_
  refine Ie.p rfl rfl rfl rfl ?_
  refine Ie.p rfl rfl rfl rfl ?_
  refine Ie.call _ rfl rfl rfl rfl rfl rfl (fun m hm => (by rw [h0]; exact ArithZ_i64_4 hm.lole (Fit.wr _ _))) ?_
  refine Ie.p rfl rfl rfl rfl ?_
  refine Ie.p rfl rfl rfl rfl ?_
  refine Ie.p rfl rfl rfl rfl ?_
  refine Ie.p rfl rfl rfl rfl ?_
  refine Ie.p rfl rfl rfl rfl ?_
  refine Ie.nil ?_
  refine Ne.seq ?_
  refine Ce.seq ?_
  refine Ce.seq ?_
  refine Ce.region ?_
  refine Ie.p rfl rfl rfl rfl ?_
  refine Ie.bin (v := .bool true) rfl rfl rfl rfl rfl rfl (binS_eql h0) ?_
  refine Ie.nil ?_
  refine Ne.seq ?_
  refine Ce.cond_true rfl ?_
  refine Ce.seq ?_
  refine Ce.region ?_
  refine Ie.p rfl rfl rfl rfl ?_
  refine Ie.p rfl rfl rfl rfl ?_
  refine Ie.p rfl rfl rfl rfl ?_
  refine Ie.p rfl rfl rfl rfl ?_
  refine Ie.p rfl rfl rfl rfl ?_
  refine Ie.p rfl rfl rfl rfl ?_
  refine Ie.p rfl rfl rfl rfl ?_
  refine Ie.nil ?_
  refine Ne.seq ?_
  refine Ce.ret ?_
  refine Re.seq ?_
  exact Re.end_ rfl rfl (fun m hm => ⟨rfl, hm.ext⟩)

theorem ring_other {kind a b : Int} {m : AW} (hm : m.lo ≤ m.next) (hl : LaidAt lays m) (h1 : kind ≠ 1) (h2 : kind ≠ 2) (h3 : kind ≠ 3) : Fc Tryz.prog 6 [.int .i64 kind, .int .i64 a, .int .i64 b] m fun v m' => v = .bool true ∧ Ext m m' := by
  refine Fc.body (c := _) Tryz.func6 rfl rfl rfl rfl hm ?_
  refine Ce.seq ?_
  refine Ce.region ?_
  refine Ie.p rfl rfl rfl rfl ?_
  refine Ie.nil ?_
  refine Ne.seq ?_
  refine Ce.seq ?_
  refine Ce.seq ?_
  refine Ce.region ?_
  refine Ie.call _ rfl rfl rfl rfl rfl rfl (fun m hm => awake_ok (hl.kr hm)) ?_
  refine Ie.p rfl rfl rfl rfl ?_
  refine Ie.p rfl rfl rfl rfl ?_
  refine Ie.p rfl rfl rfl rfl ?_
  refine Ie.bin (v := .bool true) rfl rfl rfl rfl rfl rfl (binS_nneq h1) ?_
  refine Ie.p rfl rfl rfl rfl ?_
  refine Ie.p rfl rfl rfl rfl ?_
  refine Ie.bin (v := .bool true) rfl rfl rfl rfl rfl rfl (binS_nneq h2) ?_
  refine Ie.p rfl rfl rfl rfl ?_
  refine Ie.p rfl rfl rfl rfl ?_
  refine Ie.p rfl rfl rfl rfl ?_
  refine Ie.bin (v := .bool true) rfl rfl rfl rfl rfl rfl (binS_nneq h3) ?_
  refine Ie.p rfl rfl rfl rfl ?_
  refine Ie.p rfl rfl rfl rfl ?_
  refine Ie.nil ?_
  refine Ne.seq ?_
  refine Ce.cond_true rfl ?_
  refine Ce.seq ?_
  refine Ce.region ?_
  refine Ie.call _ rfl rfl rfl rfl rfl rfl (fun m hm => awake_ok (hl.kr hm)) ?_
  refine Ie.p rfl rfl rfl rfl ?_
  refine Ie.nil ?_
  refine Ne.seq ?_
  refine Ce.ret ?_
  refine Re.seq ?_
  exact Re.end_ rfl rfl (fun m hm => ⟨rfl, hm.ext⟩)

end Go.Proofs.YtmcjihhfgmfcpaaGreatDoor
