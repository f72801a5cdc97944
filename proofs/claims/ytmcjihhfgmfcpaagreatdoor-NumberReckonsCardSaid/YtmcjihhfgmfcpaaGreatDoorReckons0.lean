/-
  NumberReckons: the functions that it calls, followed, 0. Conditions: none.
-/
import Derived.Test.YtmcjihhfgmfcpaaGreatDoorAwk
import Derived.Test.YtmcjihhfgmfcpaaGreatDoorPla
namespace Go.Proofs.YtmcjihhfgmfcpaaGreatDoor
open Go Go.Ab
set_option linter.unusedVariables false
set_option linter.unusedSimpArgs false
set_option linter.unusedSectionVars false
open Go.Proofs.Tryz
theorem so {α : Type} {l : List α} {i : Nat} {P Q : Prop} (h : l = [] ∧ P ∨ Q) (k : i < l.length) : Q := h.elim (fun h => by rw [h.1] at k; simp at k) id
abbrev FA (t i k : Nat) : Prop := ∀ b off, fieldAddrA Tryz.prog t (.pointer (some ⟨b, off, none⟩)) i = some (.pointer (some ⟨b, off + k, none⟩))
theorem ag2 : aggT prog 2 = some false := by kernel_rfl
theorem ag3 : aggT prog 3 = some false := by kernel_rfl
theorem ag54 : aggT prog 54 = some false := by kernel_rfl
theorem ag55 : aggT prog 55 = some false := by kernel_rfl
theorem ag59 : aggT prog 59 = some true := by kernel_rfl
theorem fa43_0 : FA 43 0 0 := fun _ _ => by kernel_rfl
theorem fa43_1 : FA 43 1 1 := fun _ _ => by kernel_rfl
theorem fa43_2 : FA 43 2 2 := fun _ _ => by kernel_rfl
theorem fa43_3 : FA 43 3 3 := fun _ _ => by kernel_rfl
theorem fa59_0 : FA 59 0 0 := fun _ _ => by kernel_rfl
theorem fa59_1 : FA 59 1 1 := fun _ _ => by kernel_rfl
theorem fa59_2 : FA 59 2 9 := fun _ _ => by kernel_rfl
theorem fa59_3 : FA 59 3 10 := fun _ _ => by kernel_rfl
theorem fa59_4 : FA 59 4 11 := fun _ _ => by kernel_rfl
theorem fa59_5 : FA 59 5 12 := fun _ _ => by kernel_rfl
theorem sz55 : sizeT prog 55 = some 1 := by kernel_rfl
theorem sz59 : sizeT prog 59 = some 16 := by kernel_rfl
theorem zr59 : zeroT prog 59 = some (.agg ⟨[.nilFunc, .nilFunc, .nilFunc, .nilFunc, .nilFunc, .nilFunc, .nilFunc, .nilFunc, .nilFunc, .nilFunc, .nilFunc, .nilFunc, .nilFunc, .nilFunc, .nilFunc, .int .i64 0]⟩) := by kernel_rfl
theorem cl_u8_1 {n : Int} {m : AW} (hm : m.lo ≤ m.next) (h : Fit .i64 n) : Fc prog 82 [.int .i64 n] m fun v m' => v = .int .i64 (wr .u8 n) ∧ Ext m m' := by
 refine Fc.body (c := _) func82 rfl rfl rfl rfl hm ?_
 refine .seq (.region (.P ?_))
 refine .nil (.seq (.seq (.region (.P ?_))))
 refine .convInt rfl rfl rfl rfl underlying2 underlying5 rfl (.convInt rfl rfl rfl rfl underlying5 underlying2 rfl (.P ?_))
 refine .nil (.seq (.ret ?_))
 exact .end_ rfl rfl (fun m hm => ⟨congrArg (Value.int .i64) (wr64 _ _ (by decide) (by decide)), hm.ext⟩)
theorem cl_u8_2 {a b : Int} {m : AW} (hm : m.lo ≤ m.next) (ha : Fit .u8 a) (hb : Fit .u8 b) : Fc prog 83 [.int .i64 a, .int .i64 b] m fun v m' => v = .int .i64 (wr .u8 (a + b)) ∧ Ext m m' := by
 refine Fc.body (c := _) func83 rfl rfl rfl rfl hm ?_
 refine .seq (.region (.P ?_))
 refine .nil (.seq (.seq (.region (.P ?_))))
 refine .convInt rfl rfl rfl rfl underlying2 underlying5 rfl (.P ?_)
 refine .convInt rfl rfl rfl rfl underlying2 underlying5 rfl (.P ?_)
 refine .convInt rfl rfl rfl rfl underlying5 underlying2 rfl (.P ?_)
 refine .nil (.seq (.ret ?_))
 exact .end_ rfl rfl (fun m hm => ⟨congrArg (Value.int .i64) ((by rw [wr64 _ _ (by decide) (by decide)]; simp only [show wr .u8 a = a from ha, show wr .u8 b = b from hb])), hm.ext⟩)
theorem cl_u8_3 {a b : Int} {m : AW} (hm : m.lo ≤ m.next) (ha : Fit .u8 a) (hb : Fit .u8 b) : Fc prog 84 [.int .i64 a, .int .i64 b] m fun v m' => v = .int .i64 (wr .u8 (a - b)) ∧ Ext m m' := by
 refine Fc.body (c := _) func84 rfl rfl rfl rfl hm ?_
 refine .seq (.region (.P ?_))
 refine .nil (.seq (.seq (.region (.P ?_))))
 refine .convInt rfl rfl rfl rfl underlying2 underlying5 rfl (.P ?_)
 refine .convInt rfl rfl rfl rfl underlying2 underlying5 rfl (.P ?_)
 refine .convInt rfl rfl rfl rfl underlying5 underlying2 rfl (.P ?_)
 refine .nil (.seq (.ret ?_))
 exact .end_ rfl rfl (fun m hm => ⟨congrArg (Value.int .i64) ((by rw [wr64 _ _ (by decide) (by decide)]; simp only [show wr .u8 a = a from ha, show wr .u8 b = b from hb])), hm.ext⟩)
theorem cl_u8_4 {a b : Int} {m : AW} (hm : m.lo ≤ m.next) (ha : Fit .u8 a) (hb : Fit .u8 b) : Fc prog 85 [.int .i64 a, .int .i64 b] m fun v m' => v = .int .i64 (wr .u8 (a * b)) ∧ Ext m m' := by
 refine Fc.body (c := _) func85 rfl rfl rfl rfl hm ?_
 refine .seq (.region (.P ?_))
 refine .nil (.seq (.seq (.region (.P ?_))))
 refine .convInt rfl rfl rfl rfl underlying2 underlying5 rfl (.P ?_)
 refine .convInt rfl rfl rfl rfl underlying2 underlying5 rfl (.P ?_)
 refine .convInt rfl rfl rfl rfl underlying5 underlying2 rfl (.P ?_)
 refine .nil (.seq (.ret ?_))
 exact .end_ rfl rfl (fun m hm => ⟨congrArg (Value.int .i64) ((by rw [wr64 _ _ (by decide) (by decide)]; simp only [show wr .u8 a = a from ha, show wr .u8 b = b from hb])), hm.ext⟩)
theorem cl_u8_5 {a b : Int} {m : AW} (hm : m.lo ≤ m.next) (ha : Fit .u8 a) (hb : Fit .u8 b) (h0 : b ≠ 0) : Fc prog 86 [.int .i64 a, .int .i64 b] m fun v m' => v = .int .i64 (wr .u8 (a.tdiv b)) ∧ Ext m m' := by
 refine Fc.body (c := _) func86 rfl rfl rfl rfl hm ?_
 refine .seq (.region (.P ?_))
 refine .nil (.seq (.seq (.region (.P ?_))))
 refine .convInt rfl rfl rfl rfl underlying2 underlying5 rfl (.P ?_)
 refine .convInt rfl rfl rfl rfl underlying2 underlying5 rfl ?_
 refine .bin rfl rfl rfl rfl rfl rfl (binS_quo (by rw [show wr .u8 b = b from hb]; exact h0)) ?_
 refine .convInt rfl rfl rfl rfl underlying5 underlying2 rfl (.P ?_)
 refine .nil (.seq (.ret ?_))
 exact .end_ rfl rfl (fun m hm => ⟨congrArg (Value.int .i64) ((by rw [wr64 _ _ (by decide) (by decide)]; simp only [show wr .u8 a = a from ha, show wr .u8 b = b from hb])), hm.ext⟩)
theorem cl_u8_6 {a b : Int} {m : AW} (hm : m.lo ≤ m.next) (ha : Fit .u8 a) (hb : Fit .u8 b) (h0 : b ≠ 0) : Fc prog 87 [.int .i64 a, .int .i64 b] m fun v m' => v = .int .i64 (wr .u8 (a.tmod b)) ∧ Ext m m' := by
 refine Fc.body (c := _) func87 rfl rfl rfl rfl hm ?_
 refine .seq (.region (.P ?_))
 refine .nil (.seq (.seq (.region (.P ?_))))
 refine .convInt rfl rfl rfl rfl underlying2 underlying5 rfl (.P ?_)
 refine .convInt rfl rfl rfl rfl underlying2 underlying5 rfl ?_
 refine .bin rfl rfl rfl rfl rfl rfl (binS_rem (by rw [show wr .u8 b = b from hb]; exact h0)) ?_
 refine .convInt rfl rfl rfl rfl underlying5 underlying2 rfl (.P ?_)
 refine .nil (.seq (.ret ?_))
 exact .end_ rfl rfl (fun m hm => ⟨congrArg (Value.int .i64) ((by simp only [show wr .u8 a = a from ha, show wr .u8 b = b from hb]; rw [show wr .u8 (a.tmod b) = a.tmod b from fit_rem ha hb h0]; exact (fit_rem ha hb h0).le (by decide) (by decide))), hm.ext⟩)
theorem cl_i32_1 {n : Int} {m : AW} (hm : m.lo ≤ m.next) (h : Fit .i64 n) : Fc prog 97 [.int .i64 n] m fun v m' => v = .int .i64 (wr .i32 n) ∧ Ext m m' := by
 refine Fc.body (c := _) func97 rfl rfl rfl rfl hm ?_
 refine .seq (.region (.P ?_))
 refine .nil (.seq (.seq (.region (.P ?_))))
 refine .convInt rfl rfl rfl rfl underlying2 underlying21 rfl (.convInt rfl rfl rfl rfl underlying21 underlying2 rfl (.P ?_))
 refine .nil (.seq (.ret ?_))
 exact .end_ rfl rfl (fun m hm => ⟨congrArg (Value.int .i64) (wr64 _ _ (by decide) (by decide)), hm.ext⟩)
theorem cl_i32_2 {a b : Int} {m : AW} (hm : m.lo ≤ m.next) (ha : Fit .i32 a) (hb : Fit .i32 b) : Fc prog 98 [.int .i64 a, .int .i64 b] m fun v m' => v = .int .i64 (wr .i32 (a + b)) ∧ Ext m m' := by
 refine Fc.body (c := _) func98 rfl rfl rfl rfl hm ?_
 refine .seq (.region (.P ?_))
 refine .nil (.seq (.seq (.region (.P ?_))))
 refine .convInt rfl rfl rfl rfl underlying2 underlying21 rfl (.P ?_)
 refine .convInt rfl rfl rfl rfl underlying2 underlying21 rfl (.P ?_)
 refine .convInt rfl rfl rfl rfl underlying21 underlying2 rfl (.P ?_)
 refine .nil (.seq (.ret ?_))
 exact .end_ rfl rfl (fun m hm => ⟨congrArg (Value.int .i64) ((by rw [wr64 _ _ (by decide) (by decide)]; simp only [show wr .i32 a = a from ha, show wr .i32 b = b from hb])), hm.ext⟩)
theorem cl_i32_3 {a b : Int} {m : AW} (hm : m.lo ≤ m.next) (ha : Fit .i32 a) (hb : Fit .i32 b) : Fc prog 99 [.int .i64 a, .int .i64 b] m fun v m' => v = .int .i64 (wr .i32 (a - b)) ∧ Ext m m' := by
 refine Fc.body (c := _) func99 rfl rfl rfl rfl hm ?_
 refine .seq (.region (.P ?_))
 refine .nil (.seq (.seq (.region (.P ?_))))
 refine .convInt rfl rfl rfl rfl underlying2 underlying21 rfl (.P ?_)
 refine .convInt rfl rfl rfl rfl underlying2 underlying21 rfl (.P ?_)
 refine .convInt rfl rfl rfl rfl underlying21 underlying2 rfl (.P ?_)
 refine .nil (.seq (.ret ?_))
 exact .end_ rfl rfl (fun m hm => ⟨congrArg (Value.int .i64) ((by rw [wr64 _ _ (by decide) (by decide)]; simp only [show wr .i32 a = a from ha, show wr .i32 b = b from hb])), hm.ext⟩)
theorem cl_i32_4 {a b : Int} {m : AW} (hm : m.lo ≤ m.next) (ha : Fit .i32 a) (hb : Fit .i32 b) : Fc prog 100 [.int .i64 a, .int .i64 b] m fun v m' => v = .int .i64 (wr .i32 (a * b)) ∧ Ext m m' := by
 refine Fc.body (c := _) func100 rfl rfl rfl rfl hm ?_
 refine .seq (.region (.P ?_))
 refine .nil (.seq (.seq (.region (.P ?_))))
 refine .convInt rfl rfl rfl rfl underlying2 underlying21 rfl (.P ?_)
 refine .convInt rfl rfl rfl rfl underlying2 underlying21 rfl (.P ?_)
 refine .convInt rfl rfl rfl rfl underlying21 underlying2 rfl (.P ?_)
 refine .nil (.seq (.ret ?_))
 exact .end_ rfl rfl (fun m hm => ⟨congrArg (Value.int .i64) ((by rw [wr64 _ _ (by decide) (by decide)]; simp only [show wr .i32 a = a from ha, show wr .i32 b = b from hb])), hm.ext⟩)
theorem cl_i32_5 {a b : Int} {m : AW} (hm : m.lo ≤ m.next) (ha : Fit .i32 a) (hb : Fit .i32 b) (h0 : b ≠ 0) : Fc prog 101 [.int .i64 a, .int .i64 b] m fun v m' => v = .int .i64 (wr .i32 (a.tdiv b)) ∧ Ext m m' := by
 refine Fc.body (c := _) func101 rfl rfl rfl rfl hm ?_
 refine .seq (.region (.P ?_))
 refine .nil (.seq (.seq (.region (.P ?_))))
 refine .convInt rfl rfl rfl rfl underlying2 underlying21 rfl (.P ?_)
 refine .convInt rfl rfl rfl rfl underlying2 underlying21 rfl ?_
 refine .bin rfl rfl rfl rfl rfl rfl (binS_quo (by rw [show wr .i32 b = b from hb]; exact h0)) ?_
 refine .convInt rfl rfl rfl rfl underlying21 underlying2 rfl (.P ?_)
 refine .nil (.seq (.ret ?_))
 exact .end_ rfl rfl (fun m hm => ⟨congrArg (Value.int .i64) ((by rw [wr64 _ _ (by decide) (by decide)]; simp only [show wr .i32 a = a from ha, show wr .i32 b = b from hb])), hm.ext⟩)
theorem cl_i32_6 {a b : Int} {m : AW} (hm : m.lo ≤ m.next) (ha : Fit .i32 a) (hb : Fit .i32 b) (h0 : b ≠ 0) : Fc prog 102 [.int .i64 a, .int .i64 b] m fun v m' => v = .int .i64 (wr .i32 (a.tmod b)) ∧ Ext m m' := by
 refine Fc.body (c := _) func102 rfl rfl rfl rfl hm ?_
 refine .seq (.region (.P ?_))
 refine .nil (.seq (.seq (.region (.P ?_))))
 refine .convInt rfl rfl rfl rfl underlying2 underlying21 rfl (.P ?_)
 refine .convInt rfl rfl rfl rfl underlying2 underlying21 rfl ?_
 refine .bin rfl rfl rfl rfl rfl rfl (binS_rem (by rw [show wr .i32 b = b from hb]; exact h0)) ?_
 refine .convInt rfl rfl rfl rfl underlying21 underlying2 rfl (.P ?_)
 refine .nil (.seq (.ret ?_))
 exact .end_ rfl rfl (fun m hm => ⟨congrArg (Value.int .i64) ((by simp only [show wr .i32 a = a from ha, show wr .i32 b = b from hb]; rw [show wr .i32 (a.tmod b) = a.tmod b from fit_rem ha hb h0]; exact (fit_rem ha hb h0).le (by decide) (by decide))), hm.ext⟩)
theorem cl_i64_1 {n : Int} {m : AW} (hm : m.lo ≤ m.next) (h : Fit .i64 n) : Fc prog 112 [.int .i64 n] m fun v m' => v = .int .i64 (wr .i64 n) ∧ Ext m m' := by
 refine Fc.body (c := _) func112 rfl rfl rfl rfl hm ?_
 refine .seq (.region (.P ?_))
 refine .nil (.seq (.seq (.region (.P2 ?_))))
 refine .nil (.seq (.ret ?_))
 exact .end_ rfl rfl (fun m hm => ⟨congrArg (Value.int .i64) (h.symm), hm.ext⟩)
theorem cl_i64_2 {a b : Int} {m : AW} (hm : m.lo ≤ m.next) (ha : Fit .i64 a) (hb : Fit .i64 b) : Fc prog 113 [.int .i64 a, .int .i64 b] m fun v m' => v = .int .i64 (wr .i64 (a + b)) ∧ Ext m m' := by
 refine Fc.body (c := _) func113 rfl rfl rfl rfl hm ?_
 refine .seq (.region (.P ?_))
 refine .nil (.seq (.seq (.region ?_)))
 iterate 4 refine .P ?_
 refine .nil (.seq (.ret ?_))
 exact .end_ rfl rfl (fun m hm => ⟨congrArg (Value.int .i64) (rfl), hm.ext⟩)
theorem cl_i64_3 {a b : Int} {m : AW} (hm : m.lo ≤ m.next) (ha : Fit .i64 a) (hb : Fit .i64 b) : Fc prog 114 [.int .i64 a, .int .i64 b] m fun v m' => v = .int .i64 (wr .i64 (a - b)) ∧ Ext m m' := by
 refine Fc.body (c := _) func114 rfl rfl rfl rfl hm ?_
 refine .seq (.region (.P ?_))
 refine .nil (.seq (.seq (.region ?_)))
 iterate 4 refine .P ?_
 refine .nil (.seq (.ret ?_))
 exact .end_ rfl rfl (fun m hm => ⟨congrArg (Value.int .i64) (rfl), hm.ext⟩)
theorem cl_i64_4 {a b : Int} {m : AW} (hm : m.lo ≤ m.next) (ha : Fit .i64 a) (hb : Fit .i64 b) : Fc prog 115 [.int .i64 a, .int .i64 b] m fun v m' => v = .int .i64 (wr .i64 (a * b)) ∧ Ext m m' := by
 refine Fc.body (c := _) func115 rfl rfl rfl rfl hm ?_
 refine .seq (.region (.P ?_))
 refine .nil (.seq (.seq (.region ?_)))
 iterate 4 refine .P ?_
 refine .nil (.seq (.ret ?_))
 exact .end_ rfl rfl (fun m hm => ⟨congrArg (Value.int .i64) (rfl), hm.ext⟩)
theorem cl_i64_5 {a b : Int} {m : AW} (hm : m.lo ≤ m.next) (ha : Fit .i64 a) (hb : Fit .i64 b) (h0 : b ≠ 0) : Fc prog 116 [.int .i64 a, .int .i64 b] m fun v m' => v = .int .i64 (wr .i64 (a.tdiv b)) ∧ Ext m m' := by
 refine Fc.body (c := _) func116 rfl rfl rfl rfl hm ?_
 refine .seq (.region (.P ?_))
 refine .nil (.seq (.seq (.region (.P2 ?_))))
 refine .bin rfl rfl rfl rfl rfl rfl (binS_quo h0) ?_
 refine .P ?_
 refine .nil (.seq (.ret ?_))
 exact .end_ rfl rfl (fun m hm => ⟨congrArg (Value.int .i64) (rfl), hm.ext⟩)
theorem cl_i64_6 {a b : Int} {m : AW} (hm : m.lo ≤ m.next) (ha : Fit .i64 a) (hb : Fit .i64 b) (h0 : b ≠ 0) : Fc prog 117 [.int .i64 a, .int .i64 b] m fun v m' => v = .int .i64 (wr .i64 (a.tmod b)) ∧ Ext m m' := by
 refine Fc.body (c := _) func117 rfl rfl rfl rfl hm ?_
 refine .seq (.region (.P ?_))
 refine .nil (.seq (.seq (.region (.P2 ?_))))
 refine .bin rfl rfl rfl rfl rfl rfl (binS_rem h0) ?_
 refine .P ?_
 refine .nil (.seq (.ret ?_))
 exact .end_ rfl rfl (fun m hm => ⟨congrArg (Value.int .i64) ((fit_rem ha hb h0).symm), hm.ext⟩)
theorem shl_neg_u8 {a y : Int} {m : AW} (hm : m.lo ≤ m.next) {wb : Nat} (hw : m.heap.get wb = some (.cells [.int .i64 8] 2 false .plain none)) (hwl : wb < m.next) (hy : y < 0) : Fc prog 91 [.int .i64 a, .int .i64 y, .pointer (some ⟨wb, 0, none⟩)] m fun v m' => v = .int .i64 (0) ∧ Ext m m' := by
 refine Fc.body (c := _) func91 rfl rfl rfl rfl hm ?_
 refine .seq (.region (.P ?_))
 refine .nil (.seq (.seq (.seq (.region (.P3 ?_)))))
 refine .splitB 8 rfl (fun hs0 => ?_) (fun hs0 => ?_)
 ·refine .O ?_
  iterate 2 refine .O ?_
  refine .P ?_
  refine .nil (.seq (.cond_true rfl (.seq (.region (.P ?_)))))
  refine .nil (.seq (.ret (.seq ?_)))
  exact .end_ rfl rfl (fun m hm => ⟨rfl, hm.ext⟩)
 simp [ltI_eq, hy] at hs0
theorem shl_big_u8 {a y : Int} {m : AW} (hm : m.lo ≤ m.next) {wb : Nat} (hw : m.heap.get wb = some (.cells [.int .i64 8] 2 false .plain none)) (hwl : wb < m.next) (hy : 0 ≤ y) (hy2 : 8 ≤ y) : Fc prog 91 [.int .i64 a, .int .i64 y, .pointer (some ⟨wb, 0, none⟩)] m fun v m' => v = .int .i64 (0) ∧ Ext m m' := by
 refine Fc.body (c := _) func91 rfl rfl rfl rfl hm ?_
 refine .seq (.region (.P ?_))
 refine .nil (.seq (.seq (.seq (.region (.P3 ?_)))))
 refine .splitB 8 rfl (fun hs0 => ?_) (fun hs0 => ?_)
 ·simp [ltI_eq] at hs0; omega
 refine .P ?_
 refine .M ag2 (.base hw hwl (by simp)) rfl ?_
 refine .P2 ?_
 refine .nil (.seq (.cond rfl (fun hc0 => ?_) fun hc0 => ?_))
 ·refine .seq (.region (.P ?_))
  refine .nil (.seq (.ret (.seq ?_)))
  exact .end_ rfl rfl (fun m hm => ⟨rfl, hm.ext⟩)
 simp [ltI_eq] at hc0; omega
theorem shl_in_u8 {a : Int} {j : Nat} {m : AW} (hm : m.lo ≤ m.next) {wb : Nat} (hw : m.heap.get wb = some (.cells [.int .i64 8] 2 false .plain none)) (hwl : wb < m.next) (ha : Fit .u8 a) (hj : j < 8) : Fc prog 91 [.int .i64 a, .int .i64 (Int.ofNat j), .pointer (some ⟨wb, 0, none⟩)] m fun v m' => v = .int .i64 (wr .u8 (a * 2 ^ j)) ∧ Ext m m' := by
 refine Fc.body (c := _) func91 rfl rfl rfl rfl hm ?_
 refine .seq (.region (.P ?_))
 refine .nil (.seq (.seq (.seq (.region (.P3 ?_)))))
 refine .splitB 8 rfl (fun hs0 => ?_) (fun hs0 => ?_)
 ·simp [ltI_eq] at hs0; omega
 refine .P ?_
 refine .M ag2 (.base hw hwl (by simp)) rfl ?_
 refine .P2 ?_
 refine .nil (.seq (.cond rfl (fun hc0 => ?_) fun hc0 => ?_))
 ·simp [ltI_eq] at hc0; omega
 refine .skip (.seq (.seq (.region (.P ?_))))
 refine .convInt rfl rfl rfl rfl underlying2 underlying5 rfl (.P ?_)
 refine .convInt rfl rfl rfl rfl underlying2 underlying35 rfl ?_
 refine .as 16 (.int .u64 (Int.ofNat j)) rfl (by rw [wr_in] <;> simp [IntKind.min, IntKind.max, IntKind.signed, IntKind.bits] <;> omega) ?_
 refine .bin rfl rfl rfl rfl rfl rfl (binS_shl (by simp [IntKind.bits]; omega)) ?_
 refine .convInt rfl rfl rfl rfl underlying5 underlying2 rfl (.P ?_)
 refine .nil (.seq (.ret ?_))
 exact .end_ rfl rfl (fun m hm => ⟨congrArg (Value.int .i64) ((by rw [wr64 _ _ (by decide) (by decide)]; simp only [show wr .u8 a = a from ha])), hm.ext⟩)
theorem shr_neg_u8 {a y : Int} {m : AW} (hm : m.lo ≤ m.next) {wb : Nat} (hw : m.heap.get wb = some (.cells [.int .i64 8] 2 false .plain none)) (hwl : wb < m.next) (ha : Fit .u8 a) (hy : y < 0) : Fc prog 92 [.int .i64 a, .int .i64 y, .pointer (some ⟨wb, 0, none⟩)] m fun v m' => v = .int .i64 (0) ∧ Ext m m' := by
 refine Fc.body (c := _) func92 rfl rfl rfl rfl hm ?_
 refine .seq (.region (.P ?_))
 refine .nil (.seq (.seq (.seq (.region (.P3 ?_)))))
 refine .splitB 8 rfl (fun hs0 => ?_) (fun hs0 => ?_)
 ·refine .O ?_
  iterate 2 refine .O ?_
  refine .P ?_
  refine .nil (.seq (.cond_true rfl (.seq (.seq (.region (.P ?_))))))
  refine .convInt rfl rfl rfl rfl underlying2 underlying5 rfl (.P ?_)
  refine .nil (.seq (.cond rfl (fun hc0 => ?_) fun hc0 => ?_))
  ·(have := (wr_range .u8 a).1; simp [ltI_eq] at hc0; simp [IntKind.min, IntKind.signed] at this; omega)
  refine .skip (.seq (.seq (.region (.P ?_))))
  refine .nil (.seq (.ret (.seq ?_)))
  exact .end_ rfl rfl (fun m hm => ⟨rfl, hm.ext⟩)
 simp [ltI_eq, hy] at hs0
theorem shr_big_u8 {a y : Int} {m : AW} (hm : m.lo ≤ m.next) {wb : Nat} (hw : m.heap.get wb = some (.cells [.int .i64 8] 2 false .plain none)) (hwl : wb < m.next) (ha : Fit .u8 a) (hy : 0 ≤ y) (hy2 : 8 ≤ y) : Fc prog 92 [.int .i64 a, .int .i64 y, .pointer (some ⟨wb, 0, none⟩)] m fun v m' => v = .int .i64 (0) ∧ Ext m m' := by
 refine Fc.body (c := _) func92 rfl rfl rfl rfl hm ?_
 refine .seq (.region (.P ?_))
 refine .nil (.seq (.seq (.seq (.region (.P3 ?_)))))
 refine .splitB 8 rfl (fun hs0 => ?_) (fun hs0 => ?_)
 ·simp [ltI_eq] at hs0; omega
 refine .P ?_
 refine .M ag2 (.base hw hwl (by simp)) rfl ?_
 refine .P2 ?_
 refine .nil (.seq (.cond rfl (fun hc0 => ?_) fun hc0 => ?_))
 ·refine .seq (.seq (.region (.P ?_)))
  refine .convInt rfl rfl rfl rfl underlying2 underlying5 rfl (.P ?_)
  refine .nil (.seq (.cond rfl (fun hc1 => ?_) fun hc1 => ?_))
  ·(have := (wr_range .u8 a).1; simp [ltI_eq] at hc1; simp [IntKind.min, IntKind.signed] at this; omega)
  refine .skip (.seq (.seq (.region (.P ?_))))
  refine .nil (.seq (.ret (.seq ?_)))
  exact .end_ rfl rfl (fun m hm => ⟨rfl, hm.ext⟩)
 simp [ltI_eq] at hc0; omega
theorem shr_in_u8 {a : Int} {j : Nat} {m : AW} (hm : m.lo ≤ m.next) {wb : Nat} (hw : m.heap.get wb = some (.cells [.int .i64 8] 2 false .plain none)) (hwl : wb < m.next) (ha : Fit .u8 a) (hj : j < 8) : Fc prog 92 [.int .i64 a, .int .i64 (Int.ofNat j), .pointer (some ⟨wb, 0, none⟩)] m fun v m' => v = .int .i64 (a.fdiv (2 ^ j)) ∧ Ext m m' := by
 refine Fc.body (c := _) func92 rfl rfl rfl rfl hm ?_
 refine .seq (.region (.P ?_))
 refine .nil (.seq (.seq (.seq (.region (.P3 ?_)))))
 refine .splitB 8 rfl (fun hs0 => ?_) (fun hs0 => ?_)
 ·simp [ltI_eq] at hs0; omega
 refine .P ?_
 refine .M ag2 (.base hw hwl (by simp)) rfl ?_
 refine .P2 ?_
 refine .nil (.seq (.cond rfl (fun hc0 => ?_) fun hc0 => ?_))
 ·simp [ltI_eq] at hc0; omega
 refine .skip (.seq (.seq (.region (.P ?_))))
 refine .convInt rfl rfl rfl rfl underlying2 underlying5 rfl (.P ?_)
 refine .convInt rfl rfl rfl rfl underlying2 underlying35 rfl ?_
 refine .as 19 (.int .u64 (Int.ofNat j)) rfl (by rw [wr_in] <;> simp [IntKind.min, IntKind.max, IntKind.signed, IntKind.bits] <;> omega) ?_
 refine .bin rfl rfl rfl rfl rfl rfl (binS_shr (by simp [IntKind.bits]; omega)) ?_
 refine .convInt rfl rfl rfl rfl underlying5 underlying2 rfl (.P ?_)
 refine .nil (.seq (.ret ?_))
 exact .end_ rfl rfl (fun m hm => ⟨congrArg (Value.int .i64) ((by rw [show wr .u8 a = a from ha]; exact (fit_shr ha j).le (by decide) (by decide))), hm.ext⟩)
theorem shl_neg_i32 {a y : Int} {m : AW} (hm : m.lo ≤ m.next) {wb : Nat} (hw : m.heap.get wb = some (.cells [.int .i64 32] 2 false .plain none)) (hwl : wb < m.next) (hy : y < 0) : Fc prog 106 [.int .i64 a, .int .i64 y, .pointer (some ⟨wb, 0, none⟩)] m fun v m' => v = .int .i64 (0) ∧ Ext m m' := by
 refine Fc.body (c := _) func106 rfl rfl rfl rfl hm ?_
 refine .seq (.region (.P ?_))
 refine .nil (.seq (.seq (.seq (.region (.P3 ?_)))))
 refine .splitB 8 rfl (fun hs0 => ?_) (fun hs0 => ?_)
 ·refine .O ?_
  iterate 2 refine .O ?_
  refine .P ?_
  refine .nil (.seq (.cond_true rfl (.seq (.region (.P ?_)))))
  refine .nil (.seq (.ret (.seq ?_)))
  exact .end_ rfl rfl (fun m hm => ⟨rfl, hm.ext⟩)
 simp [ltI_eq, hy] at hs0
theorem shl_big_i32 {a y : Int} {m : AW} (hm : m.lo ≤ m.next) {wb : Nat} (hw : m.heap.get wb = some (.cells [.int .i64 32] 2 false .plain none)) (hwl : wb < m.next) (hy : 0 ≤ y) (hy2 : 32 ≤ y) : Fc prog 106 [.int .i64 a, .int .i64 y, .pointer (some ⟨wb, 0, none⟩)] m fun v m' => v = .int .i64 (0) ∧ Ext m m' := by
 refine Fc.body (c := _) func106 rfl rfl rfl rfl hm ?_
 refine .seq (.region (.P ?_))
 refine .nil (.seq (.seq (.seq (.region (.P3 ?_)))))
 refine .splitB 8 rfl (fun hs0 => ?_) (fun hs0 => ?_)
 ·simp [ltI_eq] at hs0; omega
 refine .P ?_
 refine .M ag2 (.base hw hwl (by simp)) rfl ?_
 refine .P2 ?_
 refine .nil (.seq (.cond rfl (fun hc0 => ?_) fun hc0 => ?_))
 ·refine .seq (.region (.P ?_))
  refine .nil (.seq (.ret (.seq ?_)))
  exact .end_ rfl rfl (fun m hm => ⟨rfl, hm.ext⟩)
 simp [ltI_eq] at hc0; omega
theorem shl_in_i32 {a : Int} {j : Nat} {m : AW} (hm : m.lo ≤ m.next) {wb : Nat} (hw : m.heap.get wb = some (.cells [.int .i64 32] 2 false .plain none)) (hwl : wb < m.next) (ha : Fit .i32 a) (hj : j < 32) : Fc prog 106 [.int .i64 a, .int .i64 (Int.ofNat j), .pointer (some ⟨wb, 0, none⟩)] m fun v m' => v = .int .i64 (wr .i32 (a * 2 ^ j)) ∧ Ext m m' := by
 refine Fc.body (c := _) func106 rfl rfl rfl rfl hm ?_
 refine .seq (.region (.P ?_))
 refine .nil (.seq (.seq (.seq (.region (.P3 ?_)))))
 refine .splitB 8 rfl (fun hs0 => ?_) (fun hs0 => ?_)
 ·simp [ltI_eq] at hs0; omega
 refine .P ?_
 refine .M ag2 (.base hw hwl (by simp)) rfl ?_
 refine .P2 ?_
 refine .nil (.seq (.cond rfl (fun hc0 => ?_) fun hc0 => ?_))
 ·simp [ltI_eq] at hc0; omega
 refine .skip (.seq (.seq (.region (.P ?_))))
 refine .convInt rfl rfl rfl rfl underlying2 underlying21 rfl (.P ?_)
 refine .convInt rfl rfl rfl rfl underlying2 underlying35 rfl ?_
 refine .as 16 (.int .u64 (Int.ofNat j)) rfl (by rw [wr_in] <;> simp [IntKind.min, IntKind.max, IntKind.signed, IntKind.bits] <;> omega) ?_
 refine .bin rfl rfl rfl rfl rfl rfl (binS_shl (by simp [IntKind.bits]; omega)) ?_
 refine .convInt rfl rfl rfl rfl underlying21 underlying2 rfl (.P ?_)
 refine .nil (.seq (.ret ?_))
 exact .end_ rfl rfl (fun m hm => ⟨congrArg (Value.int .i64) ((by rw [wr64 _ _ (by decide) (by decide)]; simp only [show wr .i32 a = a from ha])), hm.ext⟩)
theorem shr_neg_i32 {a y : Int} {m : AW} (hm : m.lo ≤ m.next) {wb : Nat} (hw : m.heap.get wb = some (.cells [.int .i64 32] 2 false .plain none)) (hwl : wb < m.next) (ha : Fit .i32 a) (hy : y < 0) : Fc prog 107 [.int .i64 a, .int .i64 y, .pointer (some ⟨wb, 0, none⟩)] m fun v m' => v = .int .i64 (if a < 0 then -1 else 0) ∧ Ext m m' := by
 refine Fc.body (c := _) func107 rfl rfl rfl rfl hm ?_
 refine .seq (.region (.P ?_))
 refine .nil (.seq (.seq (.seq (.region (.P3 ?_)))))
 refine .splitB 8 rfl (fun hs0 => ?_) (fun hs0 => ?_)
 ·refine .O ?_
  iterate 2 refine .O ?_
  refine .P ?_
  refine .nil (.seq (.cond_true rfl (.seq (.seq (.region (.P ?_))))))
  refine .convInt rfl rfl rfl rfl underlying2 underlying21 rfl (.P ?_)
  refine .nil (.seq (.cond rfl (fun hc0 => ?_) fun hc0 => ?_))
  ·refine .seq (.region (.P ?_))
   refine .nil (.seq (.ret (.seq (.seq ?_))))
   exact .end_ rfl rfl (fun m hm => ⟨by rw [if_pos (by simpa [ltI_eq, show wr .i32 a = a from ha] using hc0)]; rfl, hm.ext⟩)
  refine .skip (.seq (.seq (.region (.P ?_))))
  refine .nil (.seq (.ret (.seq ?_)))
  exact .end_ rfl rfl (fun m hm => ⟨by rw [if_neg (by simpa [ltI_eq, show wr .i32 a = a from ha] using hc0)]; rfl, hm.ext⟩)
 simp [ltI_eq, hy] at hs0
theorem shr_big_i32 {a y : Int} {m : AW} (hm : m.lo ≤ m.next) {wb : Nat} (hw : m.heap.get wb = some (.cells [.int .i64 32] 2 false .plain none)) (hwl : wb < m.next) (ha : Fit .i32 a) (hy : 0 ≤ y) (hy2 : 32 ≤ y) : Fc prog 107 [.int .i64 a, .int .i64 y, .pointer (some ⟨wb, 0, none⟩)] m fun v m' => v = .int .i64 (if a < 0 then -1 else 0) ∧ Ext m m' := by
 refine Fc.body (c := _) func107 rfl rfl rfl rfl hm ?_
 refine .seq (.region (.P ?_))
 refine .nil (.seq (.seq (.seq (.region (.P3 ?_)))))
 refine .splitB 8 rfl (fun hs0 => ?_) (fun hs0 => ?_)
 ·simp [ltI_eq] at hs0; omega
 refine .P ?_
 refine .M ag2 (.base hw hwl (by simp)) rfl ?_
 refine .P2 ?_
 refine .nil (.seq (.cond rfl (fun hc0 => ?_) fun hc0 => ?_))
 ·refine .seq (.seq (.region (.P ?_)))
  refine .convInt rfl rfl rfl rfl underlying2 underlying21 rfl (.P ?_)
  refine .nil (.seq (.cond rfl (fun hc1 => ?_) fun hc1 => ?_))
  ·refine .seq (.region (.P ?_))
   refine .nil (.seq (.ret (.seq (.seq ?_))))
   exact .end_ rfl rfl (fun m hm => ⟨by rw [if_pos (by simpa [ltI_eq, show wr .i32 a = a from ha] using hc1)]; rfl, hm.ext⟩)
  refine .skip (.seq (.seq (.region (.P ?_))))
  refine .nil (.seq (.ret (.seq ?_)))
  exact .end_ rfl rfl (fun m hm => ⟨by rw [if_neg (by simpa [ltI_eq, show wr .i32 a = a from ha] using hc1)]; rfl, hm.ext⟩)
 simp [ltI_eq] at hc0; omega
theorem shr_in_i32 {a : Int} {j : Nat} {m : AW} (hm : m.lo ≤ m.next) {wb : Nat} (hw : m.heap.get wb = some (.cells [.int .i64 32] 2 false .plain none)) (hwl : wb < m.next) (ha : Fit .i32 a) (hj : j < 32) : Fc prog 107 [.int .i64 a, .int .i64 (Int.ofNat j), .pointer (some ⟨wb, 0, none⟩)] m fun v m' => v = .int .i64 (a.fdiv (2 ^ j)) ∧ Ext m m' := by
 refine Fc.body (c := _) func107 rfl rfl rfl rfl hm ?_
 refine .seq (.region (.P ?_))
 refine .nil (.seq (.seq (.seq (.region (.P3 ?_)))))
 refine .splitB 8 rfl (fun hs0 => ?_) (fun hs0 => ?_)
 ·simp [ltI_eq] at hs0; omega
 refine .P ?_
 refine .M ag2 (.base hw hwl (by simp)) rfl ?_
 refine .P2 ?_
 refine .nil (.seq (.cond rfl (fun hc0 => ?_) fun hc0 => ?_))
 ·simp [ltI_eq] at hc0; omega
 refine .skip (.seq (.seq (.region (.P ?_))))
 refine .convInt rfl rfl rfl rfl underlying2 underlying21 rfl (.P ?_)
 refine .convInt rfl rfl rfl rfl underlying2 underlying35 rfl ?_
 refine .as 19 (.int .u64 (Int.ofNat j)) rfl (by rw [wr_in] <;> simp [IntKind.min, IntKind.max, IntKind.signed, IntKind.bits] <;> omega) ?_
 refine .bin rfl rfl rfl rfl rfl rfl (binS_shr (by simp [IntKind.bits]; omega)) ?_
 refine .convInt rfl rfl rfl rfl underlying21 underlying2 rfl (.P ?_)
 refine .nil (.seq (.ret ?_))
 exact .end_ rfl rfl (fun m hm => ⟨congrArg (Value.int .i64) ((by rw [show wr .i32 a = a from ha]; exact (fit_shr ha j).le (by decide) (by decide))), hm.ext⟩)
theorem shl_neg_i64 {a y : Int} {m : AW} (hm : m.lo ≤ m.next) {wb : Nat} (hw : m.heap.get wb = some (.cells [.int .i64 64] 2 false .plain none)) (hwl : wb < m.next) (hy : y < 0) : Fc prog 121 [.int .i64 a, .int .i64 y, .pointer (some ⟨wb, 0, none⟩)] m fun v m' => v = .int .i64 (0) ∧ Ext m m' := by
 refine Fc.body (c := _) func121 rfl rfl rfl rfl hm ?_
 refine .seq (.region (.P ?_))
 refine .nil (.seq (.seq (.seq (.region (.P3 ?_)))))
 refine .splitB 8 rfl (fun hs0 => ?_) (fun hs0 => ?_)
 ·refine .O ?_
  iterate 2 refine .O ?_
  refine .P ?_
  refine .nil (.seq (.cond_true rfl (.seq (.region (.P ?_)))))
  refine .nil (.seq (.ret (.seq ?_)))
  exact .end_ rfl rfl (fun m hm => ⟨rfl, hm.ext⟩)
 simp [ltI_eq, hy] at hs0
theorem shl_big_i64 {a y : Int} {m : AW} (hm : m.lo ≤ m.next) {wb : Nat} (hw : m.heap.get wb = some (.cells [.int .i64 64] 2 false .plain none)) (hwl : wb < m.next) (hy : 0 ≤ y) (hy2 : 64 ≤ y) : Fc prog 121 [.int .i64 a, .int .i64 y, .pointer (some ⟨wb, 0, none⟩)] m fun v m' => v = .int .i64 (0) ∧ Ext m m' := by
 refine Fc.body (c := _) func121 rfl rfl rfl rfl hm ?_
 refine .seq (.region (.P ?_))
 refine .nil (.seq (.seq (.seq (.region (.P3 ?_)))))
 refine .splitB 8 rfl (fun hs0 => ?_) (fun hs0 => ?_)
 ·simp [ltI_eq] at hs0; omega
 refine .P ?_
 refine .M ag2 (.base hw hwl (by simp)) rfl ?_
 refine .P2 ?_
 refine .nil (.seq (.cond rfl (fun hc0 => ?_) fun hc0 => ?_))
 ·refine .seq (.region (.P ?_))
  refine .nil (.seq (.ret (.seq ?_)))
  exact .end_ rfl rfl (fun m hm => ⟨rfl, hm.ext⟩)
 simp [ltI_eq] at hc0; omega
theorem shl_in_i64 {a : Int} {j : Nat} {m : AW} (hm : m.lo ≤ m.next) {wb : Nat} (hw : m.heap.get wb = some (.cells [.int .i64 64] 2 false .plain none)) (hwl : wb < m.next) (ha : Fit .i64 a) (hj : j < 64) : Fc prog 121 [.int .i64 a, .int .i64 (Int.ofNat j), .pointer (some ⟨wb, 0, none⟩)] m fun v m' => v = .int .i64 (wr .i64 (a * 2 ^ j)) ∧ Ext m m' := by
 refine Fc.body (c := _) func121 rfl rfl rfl rfl hm ?_
 refine .seq (.region (.P ?_))
 refine .nil (.seq (.seq (.seq (.region (.P3 ?_)))))
 refine .splitB 8 rfl (fun hs0 => ?_) (fun hs0 => ?_)
 ·simp [ltI_eq] at hs0; omega
 refine .P ?_
 refine .M ag2 (.base hw hwl (by simp)) rfl ?_
 refine .P2 ?_
 refine .nil (.seq (.cond rfl (fun hc0 => ?_) fun hc0 => ?_))
 ·simp [ltI_eq] at hc0; omega
 refine .skip (.seq (.seq (.region (.P2 ?_))))
 refine .convInt rfl rfl rfl rfl underlying2 underlying35 rfl ?_
 refine .as 15 (.int .u64 (Int.ofNat j)) rfl (by rw [wr_in] <;> simp [IntKind.min, IntKind.max, IntKind.signed, IntKind.bits] <;> omega) ?_
 refine .bin rfl rfl rfl rfl rfl rfl (binS_shl (by simp [IntKind.bits]; omega)) ?_
 refine .P ?_
 refine .nil (.seq (.ret ?_))
 exact .end_ rfl rfl (fun m hm => ⟨congrArg (Value.int .i64) (rfl), hm.ext⟩)
theorem shr_neg_i64 {a y : Int} {m : AW} (hm : m.lo ≤ m.next) {wb : Nat} (hw : m.heap.get wb = some (.cells [.int .i64 64] 2 false .plain none)) (hwl : wb < m.next) (ha : Fit .i64 a) (hy : y < 0) : Fc prog 122 [.int .i64 a, .int .i64 y, .pointer (some ⟨wb, 0, none⟩)] m fun v m' => v = .int .i64 (if a < 0 then -1 else 0) ∧ Ext m m' := by
 refine Fc.body (c := _) func122 rfl rfl rfl rfl hm ?_
 refine .seq (.region (.P ?_))
 refine .nil (.seq (.seq (.seq (.region (.P3 ?_)))))
 refine .splitB 8 rfl (fun hs0 => ?_) (fun hs0 => ?_)
 ·refine .O ?_
  iterate 2 refine .O ?_
  refine .P ?_
  refine .nil (.seq (.cond_true rfl (.seq (.seq (.region (.P2 ?_))))))
  refine .nil (.seq (.cond rfl (fun hc0 => ?_) fun hc0 => ?_))
  ·refine .seq (.region (.P ?_))
   refine .nil (.seq (.ret (.seq (.seq ?_))))
   exact .end_ rfl rfl (fun m hm => ⟨by rw [if_pos (by simpa [ltI_eq] using hc0)]; rfl, hm.ext⟩)
  refine .skip (.seq (.seq (.region (.P ?_))))
  refine .nil (.seq (.ret (.seq ?_)))
  exact .end_ rfl rfl (fun m hm => ⟨by rw [if_neg (by simpa [ltI_eq] using hc0)]; rfl, hm.ext⟩)
 simp [ltI_eq, hy] at hs0
theorem shr_big_i64 {a y : Int} {m : AW} (hm : m.lo ≤ m.next) {wb : Nat} (hw : m.heap.get wb = some (.cells [.int .i64 64] 2 false .plain none)) (hwl : wb < m.next) (ha : Fit .i64 a) (hy : 0 ≤ y) (hy2 : 64 ≤ y) : Fc prog 122 [.int .i64 a, .int .i64 y, .pointer (some ⟨wb, 0, none⟩)] m fun v m' => v = .int .i64 (if a < 0 then -1 else 0) ∧ Ext m m' := by
 refine Fc.body (c := _) func122 rfl rfl rfl rfl hm ?_
 refine .seq (.region (.P ?_))
 refine .nil (.seq (.seq (.seq (.region (.P3 ?_)))))
 refine .splitB 8 rfl (fun hs0 => ?_) (fun hs0 => ?_)
 ·simp [ltI_eq] at hs0; omega
 refine .P ?_
 refine .M ag2 (.base hw hwl (by simp)) rfl ?_
 refine .P2 ?_
 refine .nil (.seq (.cond rfl (fun hc0 => ?_) fun hc0 => ?_))
 ·refine .seq (.seq (.region (.P2 ?_)))
  refine .nil (.seq (.cond rfl (fun hc1 => ?_) fun hc1 => ?_))
  ·refine .seq (.region (.P ?_))
   refine .nil (.seq (.ret (.seq (.seq ?_))))
   exact .end_ rfl rfl (fun m hm => ⟨by rw [if_pos (by simpa [ltI_eq] using hc1)]; rfl, hm.ext⟩)
  refine .skip (.seq (.seq (.region (.P ?_))))
  refine .nil (.seq (.ret (.seq ?_)))
  exact .end_ rfl rfl (fun m hm => ⟨by rw [if_neg (by simpa [ltI_eq] using hc1)]; rfl, hm.ext⟩)
 simp [ltI_eq] at hc0; omega
theorem shr_in_i64 {a : Int} {j : Nat} {m : AW} (hm : m.lo ≤ m.next) {wb : Nat} (hw : m.heap.get wb = some (.cells [.int .i64 64] 2 false .plain none)) (hwl : wb < m.next) (ha : Fit .i64 a) (hj : j < 64) : Fc prog 122 [.int .i64 a, .int .i64 (Int.ofNat j), .pointer (some ⟨wb, 0, none⟩)] m fun v m' => v = .int .i64 (a.fdiv (2 ^ j)) ∧ Ext m m' := by
 refine Fc.body (c := _) func122 rfl rfl rfl rfl hm ?_
 refine .seq (.region (.P ?_))
 refine .nil (.seq (.seq (.seq (.region (.P3 ?_)))))
 refine .splitB 8 rfl (fun hs0 => ?_) (fun hs0 => ?_)
 ·simp [ltI_eq] at hs0; omega
 refine .P ?_
 refine .M ag2 (.base hw hwl (by simp)) rfl ?_
 refine .P2 ?_
 refine .nil (.seq (.cond rfl (fun hc0 => ?_) fun hc0 => ?_))
 ·simp [ltI_eq] at hc0; omega
 refine .skip (.seq (.seq (.region (.P2 ?_))))
 refine .convInt rfl rfl rfl rfl underlying2 underlying35 rfl ?_
 refine .as 17 (.int .u64 (Int.ofNat j)) rfl (by rw [wr_in] <;> simp [IntKind.min, IntKind.max, IntKind.signed, IntKind.bits] <;> omega) ?_
 refine .bin rfl rfl rfl rfl rfl rfl (binS_shr (by simp [IntKind.bits]; omega)) ?_
 refine .P ?_
 refine .nil (.seq (.ret ?_))
 exact .end_ rfl rfl (fun m hm => ⟨congrArg (Value.int .i64) (rfl), hm.ext⟩)
def tabR : List Value := [.func (.func 127) ⟨[]⟩ ⟨[]⟩, .func (.func 128) ⟨[]⟩ ⟨[]⟩, .func (.func 129) ⟨[]⟩ ⟨[]⟩, .func (.func 130) ⟨[]⟩ ⟨[]⟩, .func (.func 131) ⟨[]⟩ ⟨[]⟩, .nilFunc, .nilFunc, .nilFunc, .nilFunc, .nilFunc, .nilFunc, .func (.func 132) ⟨[]⟩ ⟨[]⟩, .nilFunc, .func (.func 133) ⟨[]⟩ ⟨[]⟩, .func (.func 134) ⟨[]⟩ ⟨[]⟩, .int .i64 4607182418800017408]
def tab_u8 (b : Nat) : List Value := [.func (.func 82) ⟨[]⟩ ⟨[]⟩, .func (.func 83) ⟨[]⟩ ⟨[]⟩, .func (.func 84) ⟨[]⟩ ⟨[]⟩, .func (.func 85) ⟨[]⟩ ⟨[]⟩, .func (.func 86) ⟨[]⟩ ⟨[]⟩, .func (.func 87) ⟨[]⟩ ⟨[]⟩, .func (.func 88) ⟨[]⟩ ⟨[]⟩, .func (.func 89) ⟨[]⟩ ⟨[]⟩, .func (.func 90) ⟨[]⟩ ⟨[]⟩, .func (.func 91) ⟨[]⟩ ⟨[.pointer (some ⟨b, 0, none⟩)]⟩, .func (.func 92) ⟨[]⟩ ⟨[.pointer (some ⟨b, 0, none⟩)]⟩, .func (.func 93) ⟨[]⟩ ⟨[]⟩, .func (.func 94) ⟨[]⟩ ⟨[]⟩, .func (.func 95) ⟨[]⟩ ⟨[]⟩, .func (.func 96) ⟨[]⟩ ⟨[]⟩, .int .i64 1]
theorem ints_u8 {m : AW} (hm : m.lo ≤ m.next) : Fc prog 59 [.int .i64 8] m fun v m' => ∃ b, True ∧ v = .agg ⟨tab_u8 b⟩ ∧ Ext m m' ∧ News m m' [(b, .cells [.int .i64 8] 2 false .plain none)] := by
 refine Fc.body (c := _) func59 rfl rfl rfl rfl hm ?_
 refine .seq (.region ?_)
 refine .box rfl rfl rfl rfl rfl (fun b1 hb1 => ?_)
 refine .alloc rfl rfl rfl rfl zr59 (fun b2 hb2 => ?_)
 refine .nil (.seq (.seq (.region ?_)))
 refine .p (v := .agg ⟨[.func (.func 83) ⟨[]⟩ ⟨[]⟩, .func (.func 84) ⟨[]⟩ ⟨[]⟩, .func (.func 85) ⟨[]⟩ ⟨[]⟩, .func (.func 86) ⟨[]⟩ ⟨[]⟩, .func (.func 87) ⟨[]⟩ ⟨[]⟩, .func (.func 88) ⟨[]⟩ ⟨[]⟩, .func (.func 89) ⟨[]⟩ ⟨[]⟩, .func (.func 90) ⟨[]⟩ ⟨[]⟩]⟩) rfl rfl rfl (by kernel_rfl) ?_
 refine .P2 ?_
 refine .p (v := .agg ⟨tab_u8 b1⟩) rfl rfl rfl (by kernel_rfl) ?_
 refine .S sz59 ?_
 refine .nil (.seq (.ret ?_))
 refine .endH rfl (.agg rfl ag59 sz59 (by repeat first | exact .head | exact .app .head | exact .base ‹_› ‹_› (by simp) | refine .tail ?_ | refine .app ?_) (Nat.le_of_ble_eq_true rfl) rfl .nil) ?_
 exact fun m hm => ⟨b1, trivial, rfl, hm.ext, hm.news (.cons _ (.refl _))⟩
theorem of_u8 {m : AW} (hm : m.lo ≤ m.next) : Fc prog 34 [.int .i64 1] m fun v m' => ∃ b, True ∧ v = .tuple ⟨[.agg ⟨tab_u8 b⟩, .int .i64 0]⟩ ∧ Ext m m' ∧ News m m' [(b, .cells [.int .i64 8] 2 false .plain none)] := by
 refine Fc.body (c := _) func34 rfl rfl rfl rfl hm ?_
 refine .seq (.region ?_)
 refine .alloc rfl rfl rfl rfl zr59 (fun b2 hb2 => ?_)
 refine .P ?_
 refine .nil (.seq (.seq (.seq (.region (.P ?_)))))
 refine .nil (.seq (.block (.seq (.region (.P2 ?_)))))
 refine .nil (.seq (.cond_true rfl (.seq (.region ?_))))
 refine .calln _ _ _ rfl rfl rfl rfl rfl rfl (fun m hm => ints_u8 hm.lole) (fun x hx => ?_)
 clear hx
 refine .S sz59 ?_
 refine .P ?_
 refine .nil (.seq (.ret (.blk (.seq ?_))))
 refine .endH rfl (.agg rfl ag59 sz59 (by repeat first | exact .head | exact .app .head | exact .base ‹_› ‹_› (by simp) | refine .tail ?_ | refine .app ?_) (Nat.le_of_ble_eq_true rfl) rfl (.tmp rfl .nil)) ?_
 exact fun m hm => ⟨x, trivial, rfl, hm.ext, hm.news (by first | exact .cons_cons _ (List.nil_sublist _) | exact .cons _ (.cons_cons _ (List.nil_sublist _)))⟩
def tab_i32 (b : Nat) : List Value := [.func (.func 97) ⟨[]⟩ ⟨[]⟩, .func (.func 98) ⟨[]⟩ ⟨[]⟩, .func (.func 99) ⟨[]⟩ ⟨[]⟩, .func (.func 100) ⟨[]⟩ ⟨[]⟩, .func (.func 101) ⟨[]⟩ ⟨[]⟩, .func (.func 102) ⟨[]⟩ ⟨[]⟩, .func (.func 103) ⟨[]⟩ ⟨[]⟩, .func (.func 104) ⟨[]⟩ ⟨[]⟩, .func (.func 105) ⟨[]⟩ ⟨[]⟩, .func (.func 106) ⟨[]⟩ ⟨[.pointer (some ⟨b, 0, none⟩)]⟩, .func (.func 107) ⟨[]⟩ ⟨[.pointer (some ⟨b, 0, none⟩)]⟩, .func (.func 108) ⟨[]⟩ ⟨[]⟩, .func (.func 109) ⟨[]⟩ ⟨[]⟩, .func (.func 110) ⟨[]⟩ ⟨[]⟩, .func (.func 111) ⟨[]⟩ ⟨[]⟩, .int .i64 1]
theorem ints_i32 {m : AW} (hm : m.lo ≤ m.next) : Fc prog 60 [.int .i64 32] m fun v m' => ∃ b, True ∧ v = .agg ⟨tab_i32 b⟩ ∧ Ext m m' ∧ News m m' [(b, .cells [.int .i64 32] 2 false .plain none)] := by
 refine Fc.body (c := _) func60 rfl rfl rfl rfl hm ?_
 refine .seq (.region ?_)
 refine .box rfl rfl rfl rfl rfl (fun b1 hb1 => ?_)
 refine .alloc rfl rfl rfl rfl zr59 (fun b2 hb2 => ?_)
 refine .nil (.seq (.seq (.region ?_)))
 refine .p (v := .agg ⟨[.func (.func 98) ⟨[]⟩ ⟨[]⟩, .func (.func 99) ⟨[]⟩ ⟨[]⟩, .func (.func 100) ⟨[]⟩ ⟨[]⟩, .func (.func 101) ⟨[]⟩ ⟨[]⟩, .func (.func 102) ⟨[]⟩ ⟨[]⟩, .func (.func 103) ⟨[]⟩ ⟨[]⟩, .func (.func 104) ⟨[]⟩ ⟨[]⟩, .func (.func 105) ⟨[]⟩ ⟨[]⟩]⟩) rfl rfl rfl (by kernel_rfl) ?_
 refine .P2 ?_
 refine .p (v := .agg ⟨tab_i32 b1⟩) rfl rfl rfl (by kernel_rfl) ?_
 refine .S sz59 ?_
 refine .nil (.seq (.ret ?_))
 refine .endH rfl (.agg rfl ag59 sz59 (by repeat first | exact .head | exact .app .head | exact .base ‹_› ‹_› (by simp) | refine .tail ?_ | refine .app ?_) (Nat.le_of_ble_eq_true rfl) rfl .nil) ?_
 exact fun m hm => ⟨b1, trivial, rfl, hm.ext, hm.news (.cons _ (.refl _))⟩
theorem of_i32 {m : AW} (hm : m.lo ≤ m.next) : Fc prog 34 [.int .i64 2] m fun v m' => ∃ b, True ∧ v = .tuple ⟨[.agg ⟨tab_i32 b⟩, .int .i64 0]⟩ ∧ Ext m m' ∧ News m m' [(b, .cells [.int .i64 32] 2 false .plain none)] := by
 refine Fc.body (c := _) func34 rfl rfl rfl rfl hm ?_
 refine .seq (.region ?_)
 refine .alloc rfl rfl rfl rfl zr59 (fun b2 hb2 => ?_)
 refine .P ?_
 refine .nil (.seq (.seq (.seq (.region (.P ?_)))))
 refine .nil (.seq (.block (.seq (.region (.P2 ?_)))))
 refine .nil (.seq (.cond_false rfl (.seq (.region (.P2 ?_)))))
 refine .nil (.seq (.cond_true rfl (.seq (.region ?_))))
 refine .calln _ _ _ rfl rfl rfl rfl rfl rfl (fun m hm => ints_i32 hm.lole) (fun x hx => ?_)
 clear hx
 refine .S sz59 ?_
 refine .P ?_
 refine .nil (.seq (.ret (.blk (.seq ?_))))
 refine .endH rfl (.agg rfl ag59 sz59 (by repeat first | exact .head | exact .app .head | exact .base ‹_› ‹_› (by simp) | refine .tail ?_ | refine .app ?_) (Nat.le_of_ble_eq_true rfl) rfl (.tmp rfl .nil)) ?_
 exact fun m hm => ⟨x, trivial, rfl, hm.ext, hm.news (by first | exact .cons_cons _ (List.nil_sublist _) | exact .cons _ (.cons_cons _ (List.nil_sublist _)))⟩
def tab_i64 (b : Nat) : List Value := [.func (.func 112) ⟨[]⟩ ⟨[]⟩, .func (.func 113) ⟨[]⟩ ⟨[]⟩, .func (.func 114) ⟨[]⟩ ⟨[]⟩, .func (.func 115) ⟨[]⟩ ⟨[]⟩, .func (.func 116) ⟨[]⟩ ⟨[]⟩, .func (.func 117) ⟨[]⟩ ⟨[]⟩, .func (.func 118) ⟨[]⟩ ⟨[]⟩, .func (.func 119) ⟨[]⟩ ⟨[]⟩, .func (.func 120) ⟨[]⟩ ⟨[]⟩, .func (.func 121) ⟨[]⟩ ⟨[.pointer (some ⟨b, 0, none⟩)]⟩, .func (.func 122) ⟨[]⟩ ⟨[.pointer (some ⟨b, 0, none⟩)]⟩, .func (.func 123) ⟨[]⟩ ⟨[]⟩, .func (.func 124) ⟨[]⟩ ⟨[]⟩, .func (.func 125) ⟨[]⟩ ⟨[]⟩, .func (.func 126) ⟨[]⟩ ⟨[]⟩, .int .i64 1]
theorem ints_i64 {m : AW} (hm : m.lo ≤ m.next) : Fc prog 61 [.int .i64 64] m fun v m' => ∃ b, True ∧ v = .agg ⟨tab_i64 b⟩ ∧ Ext m m' ∧ News m m' [(b, .cells [.int .i64 64] 2 false .plain none)] := by
 refine Fc.body (c := _) func61 rfl rfl rfl rfl hm ?_
 refine .seq (.region ?_)
 refine .box rfl rfl rfl rfl rfl (fun b1 hb1 => ?_)
 refine .alloc rfl rfl rfl rfl zr59 (fun b2 hb2 => ?_)
 refine .nil (.seq (.seq (.region ?_)))
 refine .p (v := .agg ⟨[.func (.func 113) ⟨[]⟩ ⟨[]⟩, .func (.func 114) ⟨[]⟩ ⟨[]⟩, .func (.func 115) ⟨[]⟩ ⟨[]⟩, .func (.func 116) ⟨[]⟩ ⟨[]⟩, .func (.func 117) ⟨[]⟩ ⟨[]⟩, .func (.func 118) ⟨[]⟩ ⟨[]⟩, .func (.func 119) ⟨[]⟩ ⟨[]⟩, .func (.func 120) ⟨[]⟩ ⟨[]⟩]⟩) rfl rfl rfl (by kernel_rfl) ?_
 refine .P2 ?_
 refine .p (v := .agg ⟨tab_i64 b1⟩) rfl rfl rfl (by kernel_rfl) ?_
 refine .S sz59 ?_
 refine .nil (.seq (.ret ?_))
 refine .endH rfl (.agg rfl ag59 sz59 (by repeat first | exact .head | exact .app .head | exact .base ‹_› ‹_› (by simp) | refine .tail ?_ | refine .app ?_) (Nat.le_of_ble_eq_true rfl) rfl .nil) ?_
 exact fun m hm => ⟨b1, trivial, rfl, hm.ext, hm.news (.cons _ (.refl _))⟩
theorem of_i64 {m : AW} (hm : m.lo ≤ m.next) : Fc prog 34 [.int .i64 3] m fun v m' => ∃ b, True ∧ v = .tuple ⟨[.agg ⟨tab_i64 b⟩, .int .i64 0]⟩ ∧ Ext m m' ∧ News m m' [(b, .cells [.int .i64 64] 2 false .plain none)] := by
 refine Fc.body (c := _) func34 rfl rfl rfl rfl hm ?_
 refine .seq (.region ?_)
 refine .alloc rfl rfl rfl rfl zr59 (fun b2 hb2 => ?_)
 refine .P ?_
 refine .nil (.seq (.seq (.seq (.region (.P ?_)))))
 refine .nil (.seq (.block (.seq (.region (.P2 ?_)))))
 refine .nil (.seq (.cond_false rfl (.seq (.region (.P2 ?_)))))
 refine .nil (.seq (.cond_false rfl (.seq (.region (.P2 ?_)))))
 refine .nil (.seq (.cond_true rfl (.seq (.region ?_))))
 refine .calln _ _ _ rfl rfl rfl rfl rfl rfl (fun m hm => ints_i64 hm.lole) (fun x hx => ?_)
 clear hx
 refine .S sz59 ?_
 refine .P ?_
 refine .nil (.seq (.ret (.blk (.seq ?_))))
 refine .endH rfl (.agg rfl ag59 sz59 (by repeat first | exact .head | exact .app .head | exact .base ‹_› ‹_› (by simp) | refine .tail ?_ | refine .app ?_) (Nat.le_of_ble_eq_true rfl) rfl (.tmp rfl .nil)) ?_
 exact fun m hm => ⟨x, trivial, rfl, hm.ext, hm.news (by first | exact .cons_cons _ (List.nil_sublist _) | exact .cons _ (.cons_cons _ (List.nil_sublist _)))⟩
theorem reals_ok {m : AW} (hm : m.lo ≤ m.next) : Fc prog 62 [] m fun v m' => v = .agg ⟨tabR⟩ ∧ Ext m m' := by
 refine Fc.body (c := _) func62 rfl rfl rfl rfl hm ?_
 refine .seq (.region ?_)
 refine .alloc rfl rfl rfl rfl zr59 (fun b0 hb0 => ?_)
 refine .nil (.seq (.seq (.region ?_)))
 refine .p (v := .agg ⟨[.func (.func 128) ⟨[]⟩ ⟨[]⟩, .func (.func 129) ⟨[]⟩ ⟨[]⟩, .func (.func 130) ⟨[]⟩ ⟨[]⟩, .func (.func 131) ⟨[]⟩ ⟨[]⟩, .nilFunc, .nilFunc, .nilFunc, .nilFunc]⟩) rfl rfl rfl (by kernel_rfl) ?_
 refine .p (v := .agg ⟨tabR⟩) rfl rfl rfl (by kernel_rfl) ?_
 refine .S sz59 ?_
 refine .nil (.seq (.ret ?_))
 refine .endH rfl (.agg rfl ag59 sz59 (by repeat first | exact .head | exact .app .head | exact .base ‹_› ‹_› (by simp) | refine .tail ?_ | refine .app ?_) (Nat.le_of_ble_eq_true rfl) rfl .nil) ?_
 exact fun m hm => ⟨rfl, hm.ext⟩
theorem of_real {m : AW} (hm : m.lo ≤ m.next) : Fc prog 34 [.int .i64 4] m fun v m' => v = .tuple ⟨[.agg ⟨tabR⟩, .int .i64 0]⟩ ∧ Ext m m' := by
 refine Fc.body (c := _) func34 rfl rfl rfl rfl hm ?_
 refine .seq (.region ?_)
 refine .alloc rfl rfl rfl rfl zr59 (fun b2 hb2 => ?_)
 refine .P ?_
 refine .nil (.seq (.seq (.seq (.region (.P ?_)))))
 refine .nil (.seq (.block (.seq (.region (.P2 ?_)))))
 refine .nil (.seq (.cond_false rfl (.seq (.region (.P2 ?_)))))
 refine .nil (.seq (.cond_false rfl (.seq (.region (.P2 ?_)))))
 refine .nil (.seq (.cond_false rfl (.seq (.region (.P2 ?_)))))
 refine .nil (.seq (.cond_true rfl (.seq (.region ?_))))
 refine .call _ rfl rfl rfl rfl rfl rfl (fun m hm => reals_ok hm.lole) ?_
 refine .S sz59 ?_
 refine .P ?_
 refine .nil (.seq (.ret (.blk (.seq ?_))))
 refine .endH rfl (.agg rfl ag59 sz59 (by repeat first | exact .head | exact .app .head | exact .base ‹_› ‹_› (by simp) | refine .tail ?_ | refine .app ?_) (Nat.le_of_ble_eq_true rfl) rfl (.tmp rfl .nil)) ?_
 exact fun m hm => ⟨rfl, hm.ext⟩
def tab0 : List Value := [.nilFunc, .nilFunc, .nilFunc, .nilFunc, .nilFunc, .nilFunc, .nilFunc, .nilFunc, .nilFunc, .nilFunc, .nilFunc, .nilFunc, .nilFunc, .nilFunc, .nilFunc, .int .i64 0]
theorem of_none {kind : Int} {m : AW} (hm : m.lo ≤ m.next) (h1 : kind ≠ 1) (h2 : kind ≠ 2) (h3 : kind ≠ 3) (h4 : kind ≠ 4) : Fc prog 34 [.int .i64 kind] m fun v m' => v = .tuple ⟨[.agg ⟨tab0⟩, .int .i64 13]⟩ ∧ Ext m m' := by
 refine Fc.body (c := _) func34 rfl rfl rfl rfl hm ?_
 refine .seq (.region ?_)
 refine .alloc rfl rfl rfl rfl zr59 (fun b2 hb2 => ?_)
 refine .P ?_
 refine .nil (.seq (.seq (.seq (.region (.P ?_)))))
 refine .nil (.seq (.block (.seq (.region (.P2 ?_)))))
 refine .nil (.seq ?_)
 refine .cond_false (by rw [eqI_eq]; simp only [h1, decide_false]; rfl) ?_
 refine .seq (.region (.P2 ?_))
 refine .nil (.seq ?_)
 refine .cond_false (by rw [eqI_eq]; simp only [h2, decide_false]; rfl) ?_
 refine .seq (.region (.P2 ?_))
 refine .nil (.seq ?_)
 refine .cond_false (by rw [eqI_eq]; simp only [h3, decide_false]; rfl) ?_
 refine .seq (.region (.P2 ?_))
 refine .nil (.seq ?_)
 refine .cond_false (by rw [eqI_eq]; simp only [h4, decide_false]; rfl) ?_
 refine .skip (.blk (.seq (.seq (.region ?_))))
 refine .p (v := .agg ⟨tab0⟩) rfl rfl rfl (by kernel_rfl) ?_
 refine .S sz59 ?_
 refine .P ?_
 refine .nil (.seq (.ret ?_))
 refine .endH rfl (.agg rfl ag59 sz59 (by repeat first | exact .head | exact .app .head | exact .base ‹_› ‹_› (by simp) | refine .tail ?_ | refine .app ?_) (Nat.le_of_ble_eq_true rfl) rfl (.tmp rfl .nil)) ?_
 exact fun m hm => ⟨rfl, hm.ext⟩
theorem arithmetic_0 {m : AW} (hm : m.lo ≤ m.next) : Fc prog 51 [.int .i64 0] m fun v m' => v = .tuple ⟨[.int .i64 0, .bool true]⟩ ∧ Ext m m' := by
 refine Fc.body (c := _) func51 rfl rfl rfl rfl hm ?_
 refine .seq (.region (.P2 ?_))
 refine .nil (.seq (.seq (.seq (.region ?_))))
 refine .p (v := .agg ⟨[.int .i64 0, .int .i64 1, .int .i64 2, .int .i64 3, .int .i64 4, .int .i64 5, .int .i64 6, .int .i64 7]⟩) rfl rfl rfl (by kernel_rfl) ?_
 refine .P ?_
 refine .nil (.seq (.block (.unroll (.seq (.region (.P ?_))))))
 refine .nil (.seq (.seq (.cond_true rfl (.skip (.seq (.seq (.block (.seq (.region (.P ?_))))))))))
 refine .p (v := .int .i64 0) rfl rfl rfl (by kernel_rfl) ?_
 refine .P2 ?_
 refine .nil (.seq (.seq (.region (.P3 ?_))))
 refine .nil (.seq (.cond_true rfl (.seq (.region (.P3 ?_)))))
 refine .nil (.seq (.ret (.blk (.seq (.seq (.blk (.seq ?_)))))))
 exact .end_ rfl rfl (fun m hm => ⟨rfl, hm.ext⟩)
theorem arithmetic_1 {m : AW} (hm : m.lo ≤ m.next) : Fc prog 51 [.int .i64 1] m fun v m' => v = .tuple ⟨[.int .i64 1, .bool true]⟩ ∧ Ext m m' := by
 refine Fc.body (c := _) func51 rfl rfl rfl rfl hm ?_
 refine .seq (.region (.P2 ?_))
 refine .nil (.seq (.seq (.seq (.region ?_))))
 refine .p (v := .agg ⟨[.int .i64 0, .int .i64 1, .int .i64 2, .int .i64 3, .int .i64 4, .int .i64 5, .int .i64 6, .int .i64 7]⟩) rfl rfl rfl (by kernel_rfl) ?_
 refine .P ?_
 refine .nil (.seq (.block (.unroll (.seq (.region (.P ?_))))))
 refine .nil (.seq (.seq (.cond_true rfl (.skip (.seq (.seq (.block (.seq (.region (.P ?_))))))))))
 refine .p (v := .int .i64 0) rfl rfl rfl (by kernel_rfl) ?_
 refine .P2 ?_
 refine .nil (.seq (.seq (.region (.P3 ?_))))
 refine .nil (.seq (.cond_false rfl (.skip (.blk (.seq (.region (.P2 ?_)))))))
 refine .nil (.seq (.unroll (.seq (.region (.P ?_)))))
 refine .nil (.seq (.seq (.cond_true rfl (.skip (.seq (.seq (.block (.seq (.region (.P ?_))))))))))
 refine .p (v := .int .i64 1) rfl rfl rfl (by kernel_rfl) ?_
 refine .P2 ?_
 refine .nil (.seq (.seq (.region (.P3 ?_))))
 refine .nil (.seq (.cond_true rfl (.seq (.region (.P3 ?_)))))
 refine .nil (.seq (.ret (.blk (.seq (.seq (.blk (.seq ?_)))))))
 exact .end_ rfl rfl (fun m hm => ⟨rfl, hm.ext⟩)
theorem arithmetic_2 {m : AW} (hm : m.lo ≤ m.next) : Fc prog 51 [.int .i64 2] m fun v m' => v = .tuple ⟨[.int .i64 2, .bool true]⟩ ∧ Ext m m' := by
 refine Fc.body (c := _) func51 rfl rfl rfl rfl hm ?_
 refine .seq (.region (.P2 ?_))
 refine .nil (.seq (.seq (.seq (.region ?_))))
 refine .p (v := .agg ⟨[.int .i64 0, .int .i64 1, .int .i64 2, .int .i64 3, .int .i64 4, .int .i64 5, .int .i64 6, .int .i64 7]⟩) rfl rfl rfl (by kernel_rfl) ?_
 refine .P ?_
 refine .nil (.seq (.block (.unroll (.seq (.region (.P ?_))))))
 refine .nil (.seq (.seq (.cond_true rfl (.skip (.seq (.seq (.block (.seq (.region (.P ?_))))))))))
 refine .p (v := .int .i64 0) rfl rfl rfl (by kernel_rfl) ?_
 refine .P2 ?_
 refine .nil (.seq (.seq (.region (.P3 ?_))))
 refine .nil (.seq (.cond_false rfl (.skip (.blk (.seq (.region (.P2 ?_)))))))
 refine .nil (.seq (.unroll (.seq (.region (.P ?_)))))
 refine .nil (.seq (.seq (.cond_true rfl (.skip (.seq (.seq (.block (.seq (.region (.P ?_))))))))))
 refine .p (v := .int .i64 1) rfl rfl rfl (by kernel_rfl) ?_
 refine .P2 ?_
 refine .nil (.seq (.seq (.region (.P3 ?_))))
 refine .nil (.seq (.cond_false rfl (.skip (.blk (.seq (.region (.P2 ?_)))))))
 refine .nil (.seq (.unroll (.seq (.region (.P ?_)))))
 refine .nil (.seq (.seq (.cond_true rfl (.skip (.seq (.seq (.block (.seq (.region (.P ?_))))))))))
 refine .p (v := .int .i64 2) rfl rfl rfl (by kernel_rfl) ?_
 refine .P2 ?_
 refine .nil (.seq (.seq (.region (.P3 ?_))))
 refine .nil (.seq (.cond_true rfl (.seq (.region (.P3 ?_)))))
 refine .nil (.seq (.ret (.blk (.seq (.seq (.blk (.seq ?_)))))))
 exact .end_ rfl rfl (fun m hm => ⟨rfl, hm.ext⟩)
theorem arithmetic_3 {m : AW} (hm : m.lo ≤ m.next) : Fc prog 51 [.int .i64 3] m fun v m' => v = .tuple ⟨[.int .i64 3, .bool true]⟩ ∧ Ext m m' := by
 refine Fc.body (c := _) func51 rfl rfl rfl rfl hm ?_
 refine .seq (.region (.P2 ?_))
 refine .nil (.seq (.seq (.seq (.region ?_))))
 refine .p (v := .agg ⟨[.int .i64 0, .int .i64 1, .int .i64 2, .int .i64 3, .int .i64 4, .int .i64 5, .int .i64 6, .int .i64 7]⟩) rfl rfl rfl (by kernel_rfl) ?_
 refine .P ?_
 refine .nil (.seq (.block (.unroll (.seq (.region (.P ?_))))))
 refine .nil (.seq (.seq (.cond_true rfl (.skip (.seq (.seq (.block (.seq (.region (.P ?_))))))))))
 refine .p (v := .int .i64 0) rfl rfl rfl (by kernel_rfl) ?_
 refine .P2 ?_
 refine .nil (.seq (.seq (.region (.P3 ?_))))
 refine .nil (.seq (.cond_false rfl (.skip (.blk (.seq (.region (.P2 ?_)))))))
 refine .nil (.seq (.unroll (.seq (.region (.P ?_)))))
 refine .nil (.seq (.seq (.cond_true rfl (.skip (.seq (.seq (.block (.seq (.region (.P ?_))))))))))
 refine .p (v := .int .i64 1) rfl rfl rfl (by kernel_rfl) ?_
 refine .P2 ?_
 refine .nil (.seq (.seq (.region (.P3 ?_))))
 refine .nil (.seq (.cond_false rfl (.skip (.blk (.seq (.region (.P2 ?_)))))))
 refine .nil (.seq (.unroll (.seq (.region (.P ?_)))))
 refine .nil (.seq (.seq (.cond_true rfl (.skip (.seq (.seq (.block (.seq (.region (.P ?_))))))))))
 refine .p (v := .int .i64 2) rfl rfl rfl (by kernel_rfl) ?_
 refine .P2 ?_
 refine .nil (.seq (.seq (.region (.P3 ?_))))
 refine .nil (.seq (.cond_false rfl (.skip (.blk (.seq (.region (.P2 ?_)))))))
 refine .nil (.seq (.unroll (.seq (.region (.P ?_)))))
 refine .nil (.seq (.seq (.cond_true rfl (.skip (.seq (.seq (.block (.seq (.region (.P ?_))))))))))
 refine .p (v := .int .i64 3) rfl rfl rfl (by kernel_rfl) ?_
 refine .P2 ?_
 refine .nil (.seq (.seq (.region (.P3 ?_))))
 refine .nil (.seq (.cond_true rfl (.seq (.region (.P3 ?_)))))
 refine .nil (.seq (.ret (.blk (.seq (.seq (.blk (.seq ?_)))))))
 exact .end_ rfl rfl (fun m hm => ⟨rfl, hm.ext⟩)
theorem arithmetic_4 {m : AW} (hm : m.lo ≤ m.next) : Fc prog 51 [.int .i64 4] m fun v m' => v = .tuple ⟨[.int .i64 4, .bool true]⟩ ∧ Ext m m' := by
 refine Fc.body (c := _) func51 rfl rfl rfl rfl hm ?_
 refine .seq (.region (.P2 ?_))
 refine .nil (.seq (.seq (.seq (.region ?_))))
 refine .p (v := .agg ⟨[.int .i64 0, .int .i64 1, .int .i64 2, .int .i64 3, .int .i64 4, .int .i64 5, .int .i64 6, .int .i64 7]⟩) rfl rfl rfl (by kernel_rfl) ?_
 refine .P ?_
 refine .nil (.seq (.block (.unroll (.seq (.region (.P ?_))))))
 refine .nil (.seq (.seq (.cond_true rfl (.skip (.seq (.seq (.block (.seq (.region (.P ?_))))))))))
 refine .p (v := .int .i64 0) rfl rfl rfl (by kernel_rfl) ?_
 refine .P2 ?_
 refine .nil (.seq (.seq (.region (.P3 ?_))))
 refine .nil (.seq (.cond_false rfl (.skip (.blk (.seq (.region (.P2 ?_)))))))
 refine .nil (.seq (.unroll (.seq (.region (.P ?_)))))
 refine .nil (.seq (.seq (.cond_true rfl (.skip (.seq (.seq (.block (.seq (.region (.P ?_))))))))))
 refine .p (v := .int .i64 1) rfl rfl rfl (by kernel_rfl) ?_
 refine .P2 ?_
 refine .nil (.seq (.seq (.region (.P3 ?_))))
 refine .nil (.seq (.cond_false rfl (.skip (.blk (.seq (.region (.P2 ?_)))))))
 refine .nil (.seq (.unroll (.seq (.region (.P ?_)))))
 refine .nil (.seq (.seq (.cond_true rfl (.skip (.seq (.seq (.block (.seq (.region (.P ?_))))))))))
 refine .p (v := .int .i64 2) rfl rfl rfl (by kernel_rfl) ?_
 refine .P2 ?_
 refine .nil (.seq (.seq (.region (.P3 ?_))))
 refine .nil (.seq (.cond_false rfl (.skip (.blk (.seq (.region (.P2 ?_)))))))
 refine .nil (.seq (.unroll (.seq (.region (.P ?_)))))
 refine .nil (.seq (.seq (.cond_true rfl (.skip (.seq (.seq (.block (.seq (.region (.P ?_))))))))))
 refine .p (v := .int .i64 3) rfl rfl rfl (by kernel_rfl) ?_
 refine .P2 ?_
 refine .nil (.seq (.seq (.region (.P3 ?_))))
 refine .nil (.seq (.cond_false rfl (.skip (.blk (.seq (.region (.P2 ?_)))))))
 refine .nil (.seq (.unroll (.seq (.region (.P ?_)))))
 refine .nil (.seq (.seq (.cond_true rfl (.skip (.seq (.seq (.block (.seq (.region (.P ?_))))))))))
 refine .p (v := .int .i64 4) rfl rfl rfl (by kernel_rfl) ?_
 refine .P2 ?_
 refine .nil (.seq (.seq (.region (.P3 ?_))))
 refine .nil (.seq (.cond_true rfl (.seq (.region (.P3 ?_)))))
 refine .nil (.seq (.ret (.blk (.seq (.seq (.blk (.seq ?_)))))))
 exact .end_ rfl rfl (fun m hm => ⟨rfl, hm.ext⟩)
theorem arithmetic_5 {m : AW} (hm : m.lo ≤ m.next) : Fc prog 51 [.int .i64 5] m fun v m' => v = .tuple ⟨[.int .i64 5, .bool true]⟩ ∧ Ext m m' := by
 refine Fc.body (c := _) func51 rfl rfl rfl rfl hm ?_
 refine .seq (.region (.P2 ?_))
 refine .nil (.seq (.seq (.seq (.region ?_))))
 refine .p (v := .agg ⟨[.int .i64 0, .int .i64 1, .int .i64 2, .int .i64 3, .int .i64 4, .int .i64 5, .int .i64 6, .int .i64 7]⟩) rfl rfl rfl (by kernel_rfl) ?_
 refine .P ?_
 refine .nil (.seq (.block (.unroll (.seq (.region (.P ?_))))))
 refine .nil (.seq (.seq (.cond_true rfl (.skip (.seq (.seq (.block (.seq (.region (.P ?_))))))))))
 refine .p (v := .int .i64 0) rfl rfl rfl (by kernel_rfl) ?_
 refine .P2 ?_
 refine .nil (.seq (.seq (.region (.P3 ?_))))
 refine .nil (.seq (.cond_false rfl (.skip (.blk (.seq (.region (.P2 ?_)))))))
 refine .nil (.seq (.unroll (.seq (.region (.P ?_)))))
 refine .nil (.seq (.seq (.cond_true rfl (.skip (.seq (.seq (.block (.seq (.region (.P ?_))))))))))
 refine .p (v := .int .i64 1) rfl rfl rfl (by kernel_rfl) ?_
 refine .P2 ?_
 refine .nil (.seq (.seq (.region (.P3 ?_))))
 refine .nil (.seq (.cond_false rfl (.skip (.blk (.seq (.region (.P2 ?_)))))))
 refine .nil (.seq (.unroll (.seq (.region (.P ?_)))))
 refine .nil (.seq (.seq (.cond_true rfl (.skip (.seq (.seq (.block (.seq (.region (.P ?_))))))))))
 refine .p (v := .int .i64 2) rfl rfl rfl (by kernel_rfl) ?_
 refine .P2 ?_
 refine .nil (.seq (.seq (.region (.P3 ?_))))
 refine .nil (.seq (.cond_false rfl (.skip (.blk (.seq (.region (.P2 ?_)))))))
 refine .nil (.seq (.unroll (.seq (.region (.P ?_)))))
 refine .nil (.seq (.seq (.cond_true rfl (.skip (.seq (.seq (.block (.seq (.region (.P ?_))))))))))
 refine .p (v := .int .i64 3) rfl rfl rfl (by kernel_rfl) ?_
 refine .P2 ?_
 refine .nil (.seq (.seq (.region (.P3 ?_))))
 refine .nil (.seq (.cond_false rfl (.skip (.blk (.seq (.region (.P2 ?_)))))))
 refine .nil (.seq (.unroll (.seq (.region (.P ?_)))))
 refine .nil (.seq (.seq (.cond_true rfl (.skip (.seq (.seq (.block (.seq (.region (.P ?_))))))))))
 refine .p (v := .int .i64 4) rfl rfl rfl (by kernel_rfl) ?_
 refine .P2 ?_
 refine .nil (.seq (.seq (.region (.P3 ?_))))
 refine .nil (.seq (.cond_false rfl (.skip (.blk (.seq (.region (.P2 ?_)))))))
 refine .nil (.seq (.unroll (.seq (.region (.P ?_)))))
 refine .nil (.seq (.seq (.cond_true rfl (.skip (.seq (.seq (.block (.seq (.region (.P ?_))))))))))
 refine .p (v := .int .i64 5) rfl rfl rfl (by kernel_rfl) ?_
 refine .P2 ?_
 refine .nil (.seq (.seq (.region (.P3 ?_))))
 refine .nil (.seq (.cond_true rfl (.seq (.region (.P3 ?_)))))
 refine .nil (.seq (.ret (.blk (.seq (.seq (.blk (.seq ?_)))))))
 exact .end_ rfl rfl (fun m hm => ⟨rfl, hm.ext⟩)
theorem arithmetic_6 {m : AW} (hm : m.lo ≤ m.next) : Fc prog 51 [.int .i64 6] m fun v m' => v = .tuple ⟨[.int .i64 6, .bool true]⟩ ∧ Ext m m' := by
 refine Fc.body (c := _) func51 rfl rfl rfl rfl hm ?_
 refine .seq (.region (.P2 ?_))
 refine .nil (.seq (.seq (.seq (.region ?_))))
 refine .p (v := .agg ⟨[.int .i64 0, .int .i64 1, .int .i64 2, .int .i64 3, .int .i64 4, .int .i64 5, .int .i64 6, .int .i64 7]⟩) rfl rfl rfl (by kernel_rfl) ?_
 refine .P ?_
 refine .nil (.seq (.block (.unroll (.seq (.region (.P ?_))))))
 refine .nil (.seq (.seq (.cond_true rfl (.skip (.seq (.seq (.block (.seq (.region (.P ?_))))))))))
 refine .p (v := .int .i64 0) rfl rfl rfl (by kernel_rfl) ?_
 refine .P2 ?_
 refine .nil (.seq (.seq (.region (.P3 ?_))))
 refine .nil (.seq (.cond_false rfl (.skip (.blk (.seq (.region (.P2 ?_)))))))
 refine .nil (.seq (.unroll (.seq (.region (.P ?_)))))
 refine .nil (.seq (.seq (.cond_true rfl (.skip (.seq (.seq (.block (.seq (.region (.P ?_))))))))))
 refine .p (v := .int .i64 1) rfl rfl rfl (by kernel_rfl) ?_
 refine .P2 ?_
 refine .nil (.seq (.seq (.region (.P3 ?_))))
 refine .nil (.seq (.cond_false rfl (.skip (.blk (.seq (.region (.P2 ?_)))))))
 refine .nil (.seq (.unroll (.seq (.region (.P ?_)))))
 refine .nil (.seq (.seq (.cond_true rfl (.skip (.seq (.seq (.block (.seq (.region (.P ?_))))))))))
 refine .p (v := .int .i64 2) rfl rfl rfl (by kernel_rfl) ?_
 refine .P2 ?_
 refine .nil (.seq (.seq (.region (.P3 ?_))))
 refine .nil (.seq (.cond_false rfl (.skip (.blk (.seq (.region (.P2 ?_)))))))
 refine .nil (.seq (.unroll (.seq (.region (.P ?_)))))
 refine .nil (.seq (.seq (.cond_true rfl (.skip (.seq (.seq (.block (.seq (.region (.P ?_))))))))))
 refine .p (v := .int .i64 3) rfl rfl rfl (by kernel_rfl) ?_
 refine .P2 ?_
 refine .nil (.seq (.seq (.region (.P3 ?_))))
 refine .nil (.seq (.cond_false rfl (.skip (.blk (.seq (.region (.P2 ?_)))))))
 refine .nil (.seq (.unroll (.seq (.region (.P ?_)))))
 refine .nil (.seq (.seq (.cond_true rfl (.skip (.seq (.seq (.block (.seq (.region (.P ?_))))))))))
 refine .p (v := .int .i64 4) rfl rfl rfl (by kernel_rfl) ?_
 refine .P2 ?_
 refine .nil (.seq (.seq (.region (.P3 ?_))))
 refine .nil (.seq (.cond_false rfl (.skip (.blk (.seq (.region (.P2 ?_)))))))
 refine .nil (.seq (.unroll (.seq (.region (.P ?_)))))
 refine .nil (.seq (.seq (.cond_true rfl (.skip (.seq (.seq (.block (.seq (.region (.P ?_))))))))))
 refine .p (v := .int .i64 5) rfl rfl rfl (by kernel_rfl) ?_
 refine .P2 ?_
 refine .nil (.seq (.seq (.region (.P3 ?_))))
 refine .nil (.seq (.cond_false rfl (.skip (.blk (.seq (.region (.P2 ?_)))))))
 refine .nil (.seq (.unroll (.seq (.region (.P ?_)))))
 refine .nil (.seq (.seq (.cond_true rfl (.skip (.seq (.seq (.block (.seq (.region (.P ?_))))))))))
 refine .p (v := .int .i64 6) rfl rfl rfl (by kernel_rfl) ?_
 refine .P2 ?_
 refine .nil (.seq (.seq (.region (.P3 ?_))))
 refine .nil (.seq (.cond_true rfl (.seq (.region (.P3 ?_)))))
 refine .nil (.seq (.ret (.blk (.seq (.seq (.blk (.seq ?_)))))))
 exact .end_ rfl rfl (fun m hm => ⟨rfl, hm.ext⟩)
theorem arithmetic_7 {m : AW} (hm : m.lo ≤ m.next) : Fc prog 51 [.int .i64 7] m fun v m' => v = .tuple ⟨[.int .i64 7, .bool true]⟩ ∧ Ext m m' := by
 refine Fc.body (c := _) func51 rfl rfl rfl rfl hm ?_
 refine .seq (.region (.P2 ?_))
 refine .nil (.seq (.seq (.seq (.region ?_))))
 refine .p (v := .agg ⟨[.int .i64 0, .int .i64 1, .int .i64 2, .int .i64 3, .int .i64 4, .int .i64 5, .int .i64 6, .int .i64 7]⟩) rfl rfl rfl (by kernel_rfl) ?_
 refine .P ?_
 refine .nil (.seq (.block (.unroll (.seq (.region (.P ?_))))))
 refine .nil (.seq (.seq (.cond_true rfl (.skip (.seq (.seq (.block (.seq (.region (.P ?_))))))))))
 refine .p (v := .int .i64 0) rfl rfl rfl (by kernel_rfl) ?_
 refine .P2 ?_
 refine .nil (.seq (.seq (.region (.P3 ?_))))
 refine .nil (.seq (.cond_false rfl (.skip (.blk (.seq (.region (.P2 ?_)))))))
 refine .nil (.seq (.unroll (.seq (.region (.P ?_)))))
 refine .nil (.seq (.seq (.cond_true rfl (.skip (.seq (.seq (.block (.seq (.region (.P ?_))))))))))
 refine .p (v := .int .i64 1) rfl rfl rfl (by kernel_rfl) ?_
 refine .P2 ?_
 refine .nil (.seq (.seq (.region (.P3 ?_))))
 refine .nil (.seq (.cond_false rfl (.skip (.blk (.seq (.region (.P2 ?_)))))))
 refine .nil (.seq (.unroll (.seq (.region (.P ?_)))))
 refine .nil (.seq (.seq (.cond_true rfl (.skip (.seq (.seq (.block (.seq (.region (.P ?_))))))))))
 refine .p (v := .int .i64 2) rfl rfl rfl (by kernel_rfl) ?_
 refine .P2 ?_
 refine .nil (.seq (.seq (.region (.P3 ?_))))
 refine .nil (.seq (.cond_false rfl (.skip (.blk (.seq (.region (.P2 ?_)))))))
 refine .nil (.seq (.unroll (.seq (.region (.P ?_)))))
 refine .nil (.seq (.seq (.cond_true rfl (.skip (.seq (.seq (.block (.seq (.region (.P ?_))))))))))
 refine .p (v := .int .i64 3) rfl rfl rfl (by kernel_rfl) ?_
 refine .P2 ?_
 refine .nil (.seq (.seq (.region (.P3 ?_))))
 refine .nil (.seq (.cond_false rfl (.skip (.blk (.seq (.region (.P2 ?_)))))))
 refine .nil (.seq (.unroll (.seq (.region (.P ?_)))))
 refine .nil (.seq (.seq (.cond_true rfl (.skip (.seq (.seq (.block (.seq (.region (.P ?_))))))))))
 refine .p (v := .int .i64 4) rfl rfl rfl (by kernel_rfl) ?_
 refine .P2 ?_
 refine .nil (.seq (.seq (.region (.P3 ?_))))
 refine .nil (.seq (.cond_false rfl (.skip (.blk (.seq (.region (.P2 ?_)))))))
 refine .nil (.seq (.unroll (.seq (.region (.P ?_)))))
 refine .nil (.seq (.seq (.cond_true rfl (.skip (.seq (.seq (.block (.seq (.region (.P ?_))))))))))
 refine .p (v := .int .i64 5) rfl rfl rfl (by kernel_rfl) ?_
 refine .P2 ?_
 refine .nil (.seq (.seq (.region (.P3 ?_))))
 refine .nil (.seq (.cond_false rfl (.skip (.blk (.seq (.region (.P2 ?_)))))))
 refine .nil (.seq (.unroll (.seq (.region (.P ?_)))))
 refine .nil (.seq (.seq (.cond_true rfl (.skip (.seq (.seq (.block (.seq (.region (.P ?_))))))))))
 refine .p (v := .int .i64 6) rfl rfl rfl (by kernel_rfl) ?_
 refine .P2 ?_
 refine .nil (.seq (.seq (.region (.P3 ?_))))
 refine .nil (.seq (.cond_false rfl (.skip (.blk (.seq (.region (.P2 ?_)))))))
 refine .nil (.seq (.unroll (.seq (.region (.P ?_)))))
 refine .nil (.seq (.seq (.cond_true rfl (.skip (.seq (.seq (.block (.seq (.region (.P ?_))))))))))
 refine .p (v := .int .i64 7) rfl rfl rfl (by kernel_rfl) ?_
 refine .P2 ?_
 refine .nil (.seq (.seq (.region (.P3 ?_))))
 refine .nil (.seq (.cond_true rfl (.seq (.region (.P3 ?_)))))
 refine .nil (.seq (.ret (.blk (.seq (.seq (.blk (.seq ?_)))))))
 exact .end_ rfl rfl (fun m hm => ⟨rfl, hm.ext⟩)
theorem arithmetic_none {op : Int} {m : AW} (hm : m.lo ≤ m.next) (h : op < 0 ∨ 7 < op) : Fc prog 51 [.int .i64 op] m fun v m' => v = .tuple ⟨[.int .i64 0, .bool false]⟩ ∧ Ext m m' := by
 refine Fc.body (c := _) func51 rfl rfl rfl rfl hm ?_
 refine .seq (.region (.P2 ?_))
 refine .nil (.seq (.seq (.seq (.region ?_))))
 refine .p (v := .agg ⟨[.int .i64 0, .int .i64 1, .int .i64 2, .int .i64 3, .int .i64 4, .int .i64 5, .int .i64 6, .int .i64 7]⟩) rfl rfl rfl (by kernel_rfl) ?_
 refine .P ?_
 refine .nil (.seq (.block (.unroll (.seq (.region (.P ?_))))))
 refine .nil (.seq (.seq (.cond_true rfl (.skip (.seq (.seq (.block (.seq (.region (.P ?_))))))))))
 refine .p (v := .int .i64 0) rfl rfl rfl (by kernel_rfl) ?_
 refine .P2 ?_
 refine .nil (.seq (.seq (.region (.P3 ?_))))
 refine .nil (.seq ?_)
 refine .cond_false (by rw [eqI_eq, decide_eq_false (by omega)]; rfl) ?_
 refine .skip (.blk (.seq (.region (.P2 ?_))))
 refine .nil (.seq (.unroll (.seq (.region (.P ?_)))))
 refine .nil (.seq (.seq (.cond_true rfl (.skip (.seq (.seq (.block (.seq (.region (.P ?_))))))))))
 refine .p (v := .int .i64 1) rfl rfl rfl (by kernel_rfl) ?_
 refine .P2 ?_
 refine .nil (.seq (.seq (.region (.P3 ?_))))
 refine .nil (.seq ?_)
 refine .cond_false (by rw [eqI_eq, decide_eq_false (by omega)]; rfl) ?_
 refine .skip (.blk (.seq (.region (.P2 ?_))))
 refine .nil (.seq (.unroll (.seq (.region (.P ?_)))))
 refine .nil (.seq (.seq (.cond_true rfl (.skip (.seq (.seq (.block (.seq (.region (.P ?_))))))))))
 refine .p (v := .int .i64 2) rfl rfl rfl (by kernel_rfl) ?_
 refine .P2 ?_
 refine .nil (.seq (.seq (.region (.P3 ?_))))
 refine .nil (.seq ?_)
 refine .cond_false (by rw [eqI_eq, decide_eq_false (by omega)]; rfl) ?_
 refine .skip (.blk (.seq (.region (.P2 ?_))))
 refine .nil (.seq (.unroll (.seq (.region (.P ?_)))))
 refine .nil (.seq (.seq (.cond_true rfl (.skip (.seq (.seq (.block (.seq (.region (.P ?_))))))))))
 refine .p (v := .int .i64 3) rfl rfl rfl (by kernel_rfl) ?_
 refine .P2 ?_
 refine .nil (.seq (.seq (.region (.P3 ?_))))
 refine .nil (.seq ?_)
 refine .cond_false (by rw [eqI_eq, decide_eq_false (by omega)]; rfl) ?_
 refine .skip (.blk (.seq (.region (.P2 ?_))))
 refine .nil (.seq (.unroll (.seq (.region (.P ?_)))))
 refine .nil (.seq (.seq (.cond_true rfl (.skip (.seq (.seq (.block (.seq (.region (.P ?_))))))))))
 refine .p (v := .int .i64 4) rfl rfl rfl (by kernel_rfl) ?_
 refine .P2 ?_
 refine .nil (.seq (.seq (.region (.P3 ?_))))
 refine .nil (.seq ?_)
 refine .cond_false (by rw [eqI_eq, decide_eq_false (by omega)]; rfl) ?_
 refine .skip (.blk (.seq (.region (.P2 ?_))))
 refine .nil (.seq (.unroll (.seq (.region (.P ?_)))))
 refine .nil (.seq (.seq (.cond_true rfl (.skip (.seq (.seq (.block (.seq (.region (.P ?_))))))))))
 refine .p (v := .int .i64 5) rfl rfl rfl (by kernel_rfl) ?_
 refine .P2 ?_
 refine .nil (.seq (.seq (.region (.P3 ?_))))
 refine .nil (.seq ?_)
 refine .cond_false (by rw [eqI_eq, decide_eq_false (by omega)]; rfl) ?_
 refine .skip (.blk (.seq (.region (.P2 ?_))))
 refine .nil (.seq (.unroll (.seq (.region (.P ?_)))))
 refine .nil (.seq (.seq (.cond_true rfl (.skip (.seq (.seq (.block (.seq (.region (.P ?_))))))))))
 refine .p (v := .int .i64 6) rfl rfl rfl (by kernel_rfl) ?_
 refine .P2 ?_
 refine .nil (.seq (.seq (.region (.P3 ?_))))
 refine .nil (.seq ?_)
 refine .cond_false (by rw [eqI_eq, decide_eq_false (by omega)]; rfl) ?_
 refine .skip (.blk (.seq (.region (.P2 ?_))))
 refine .nil (.seq (.unroll (.seq (.region (.P ?_)))))
 refine .nil (.seq (.seq (.cond_true rfl (.skip (.seq (.seq (.block (.seq (.region (.P ?_))))))))))
 refine .p (v := .int .i64 7) rfl rfl rfl (by kernel_rfl) ?_
 refine .P2 ?_
 refine .nil (.seq (.seq (.region (.P3 ?_))))
 refine .nil (.seq ?_)
 refine .cond_false (by rw [eqI_eq, decide_eq_false (by omega)]; rfl) ?_
 refine .skip (.blk (.seq (.region (.P2 ?_))))
 refine .nil (.seq (.unroll (.seq (.region (.P ?_)))))
 refine .nil (.seq (.seq (.cond_false rfl (.exit (.seq (.seq (.here (.seq (.seq (.region (.P2 ?_)))))))))))
 refine .nil (.seq (.ret ?_))
 exact .end_ rfl rfl (fun m hm => ⟨rfl, hm.ext⟩)
theorem Arith_u8_0 {a b : Int} {m : AW} (hm : m.lo ≤ m.next) (ha : Fit .i64 a) (hb : Fit .i64 b) : Fc prog 19 [.int .i64 1, .int .i64 0, .int .i64 a, .int .i64 b] m fun v m' => v = .tuple ⟨[.int .i64 (wr .u8 (wr .u8 a + wr .u8 b)), .int .i64 0]⟩ ∧ Ext m m' := by
 refine Fc.body (c := _) func19 rfl rfl rfl rfl hm ?_
 refine .seq (.region (.P2 ?_))
 refine .nil (.seq (.seq (.region (.P ?_))))
 refine .calln _ _ _ rfl rfl rfl rfl rfl rfl (fun m hm => of_u8 hm.lole) (fun x hx => ?_)
 clear hx
 refine .P3 ?_
 refine .alloc rfl rfl rfl rfl zr59 (fun b10 hb10 => ?_)
 refine .S sz59 ?_
 refine .P ?_
 refine .nil (.seq (.seq (.seq (.region (.P2 ?_)))))
 refine .nil (.seq (.cond_false rfl (.skip (.seq (.seq (.block (.seq (.region (.P3 ?_)))))))))
 iterate 3 refine .O ?_
 refine .P2 ?_
 refine .nil (.seq (.cond_false rfl (.seq (.region (.P3 ?_)))))
 iterate 3 refine .O ?_
 refine .P2 ?_
 refine .nil (.seq (.cond_false rfl (.skip (.blk (.seq (.seq (.region (.P ?_))))))))
 refine .call _ rfl rfl rfl rfl rfl rfl (fun m hm => arithmetic_0 hm.lole) ?_
 iterate 5 refine .P ?_
 refine .nil (.seq (.seq (.seq (.region ?_))))
 iterate 4 refine .P ?_
 refine .F fa59_1 ?_
 refine .indexArr rfl rfl rfl rfl underlying56 sz55 rfl rfl (by decide) ?_
 refine .L ag55 ?_
 refine .bin (v := .bool false) rfl rfl rfl rfl rfl rfl (by kernel_rfl) ?_
 refine .P ?_
 refine .nil (.seq (.cond_false rfl (.skip (.seq (.seq ?_)))))
 refine .D [(15, 0), (3, 1), (15, 0), (7, 7), (12, 0), (0, 16), (12, 0), (7, 127), (15, 255), (15, 511)] (by kernel_rfl) (by kernel_rfl) (fun base hbase hB => ?_)
 refine .F fa59_0 ?_
 refine .J ag54 ?_
 refine .P ?_
 refine .call _ rfl rfl rfl rfl rfl rfl rfl rfl rfl (fun m hm => cl_u8_1 hm.lole ha) ?_
 refine .F fa59_0 ?_
 refine .R ag54 hB ?_
 refine .P ?_
 refine .call _ rfl rfl rfl rfl rfl rfl rfl rfl rfl (fun m hm => cl_u8_1 hm.lole hb) ?_
 iterate 2 refine .P ?_
 refine .nil (.seq (.seq (.seq (.region ?_))))
 iterate 7 refine .P ?_
 iterate 2 refine .O ?_
 refine .P2 ?_
 iterate 2 refine .O ?_
 refine .P ?_
 refine .nil (.seq (.cond_false rfl (.skip (.seq (.seq (.region (.P ?_)))))))
 refine .F fa59_1 ?_
 refine .indexArr rfl rfl rfl rfl underlying56 sz55 rfl rfl (by decide) ?_
 refine .L ag55 ?_
 refine .P2 ?_
 refine .call _ rfl rfl rfl rfl rfl rfl (fun m hm => cl_u8_2 hm.lole (Fit.wr .u8 a) (Fit.wr .u8 b)) ?_
 refine .P2 ?_
 refine .nil (.seq (.ret ?_))
 exact .end_ rfl rfl (fun m hm => ⟨rfl, hm.ext⟩)
theorem Arith_u8_1 {a b : Int} {m : AW} (hm : m.lo ≤ m.next) (ha : Fit .i64 a) (hb : Fit .i64 b) : Fc prog 19 [.int .i64 1, .int .i64 1, .int .i64 a, .int .i64 b] m fun v m' => v = .tuple ⟨[.int .i64 (wr .u8 (wr .u8 a - wr .u8 b)), .int .i64 0]⟩ ∧ Ext m m' := by
 refine Fc.body (c := _) func19 rfl rfl rfl rfl hm ?_
 refine .seq (.region (.P2 ?_))
 refine .nil (.seq (.seq (.region (.P ?_))))
 refine .calln _ _ _ rfl rfl rfl rfl rfl rfl (fun m hm => of_u8 hm.lole) (fun x hx => ?_)
 clear hx
 refine .P3 ?_
 refine .alloc rfl rfl rfl rfl zr59 (fun b10 hb10 => ?_)
 refine .S sz59 ?_
 refine .P ?_
 refine .nil (.seq (.seq (.seq (.region (.P2 ?_)))))
 refine .nil (.seq (.cond_false rfl (.skip (.seq (.seq (.block (.seq (.region (.P3 ?_)))))))))
 iterate 3 refine .O ?_
 refine .P2 ?_
 refine .nil (.seq (.cond_false rfl (.seq (.region (.P3 ?_)))))
 iterate 3 refine .O ?_
 refine .P2 ?_
 refine .nil (.seq (.cond_false rfl (.skip (.blk (.seq (.seq (.region (.P ?_))))))))
 refine .call _ rfl rfl rfl rfl rfl rfl (fun m hm => arithmetic_1 hm.lole) ?_
 iterate 5 refine .P ?_
 refine .nil (.seq (.seq (.seq (.region ?_))))
 iterate 4 refine .P ?_
 refine .F fa59_1 ?_
 refine .indexArr rfl rfl rfl rfl underlying56 sz55 rfl rfl (by decide) ?_
 refine .L ag55 ?_
 refine .bin (v := .bool false) rfl rfl rfl rfl rfl rfl (by kernel_rfl) ?_
 refine .P ?_
 refine .nil (.seq (.cond_false rfl (.skip (.seq (.seq ?_)))))
 refine .D [(15, 0), (3, 1), (15, 0), (7, 7), (12, 0), (0, 16), (12, 0), (7, 127), (15, 255), (15, 511)] (by kernel_rfl) (by kernel_rfl) (fun base hbase hB => ?_)
 refine .F fa59_0 ?_
 refine .J ag54 ?_
 refine .P ?_
 refine .call _ rfl rfl rfl rfl rfl rfl rfl rfl rfl (fun m hm => cl_u8_1 hm.lole ha) ?_
 refine .F fa59_0 ?_
 refine .R ag54 hB ?_
 refine .P ?_
 refine .call _ rfl rfl rfl rfl rfl rfl rfl rfl rfl (fun m hm => cl_u8_1 hm.lole hb) ?_
 iterate 2 refine .P ?_
 refine .nil (.seq (.seq (.seq (.region ?_))))
 iterate 7 refine .P ?_
 iterate 2 refine .O ?_
 refine .P2 ?_
 iterate 2 refine .O ?_
 refine .P ?_
 refine .nil (.seq (.cond_false rfl (.skip (.seq (.seq (.region (.P ?_)))))))
 refine .F fa59_1 ?_
 refine .indexArr rfl rfl rfl rfl underlying56 sz55 rfl rfl (by decide) ?_
 refine .L ag55 ?_
 refine .P2 ?_
 refine .call _ rfl rfl rfl rfl rfl rfl (fun m hm => cl_u8_3 hm.lole (Fit.wr .u8 a) (Fit.wr .u8 b)) ?_
 refine .P2 ?_
 refine .nil (.seq (.ret ?_))
 exact .end_ rfl rfl (fun m hm => ⟨rfl, hm.ext⟩)
theorem Arith_u8_2 {a b : Int} {m : AW} (hm : m.lo ≤ m.next) (ha : Fit .i64 a) (hb : Fit .i64 b) : Fc prog 19 [.int .i64 1, .int .i64 2, .int .i64 a, .int .i64 b] m fun v m' => v = .tuple ⟨[.int .i64 (wr .u8 (wr .u8 a * wr .u8 b)), .int .i64 0]⟩ ∧ Ext m m' := by
 refine Fc.body (c := _) func19 rfl rfl rfl rfl hm ?_
 refine .seq (.region (.P2 ?_))
 refine .nil (.seq (.seq (.region (.P ?_))))
 refine .calln _ _ _ rfl rfl rfl rfl rfl rfl (fun m hm => of_u8 hm.lole) (fun x hx => ?_)
 clear hx
 refine .P3 ?_
 refine .alloc rfl rfl rfl rfl zr59 (fun b10 hb10 => ?_)
 refine .S sz59 ?_
 refine .P ?_
 refine .nil (.seq (.seq (.seq (.region (.P2 ?_)))))
 refine .nil (.seq (.cond_false rfl (.skip (.seq (.seq (.block (.seq (.region (.P3 ?_)))))))))
 iterate 3 refine .O ?_
 refine .P2 ?_
 refine .nil (.seq (.cond_false rfl (.seq (.region (.P3 ?_)))))
 iterate 3 refine .O ?_
 refine .P2 ?_
 refine .nil (.seq (.cond_false rfl (.skip (.blk (.seq (.seq (.region (.P ?_))))))))
 refine .call _ rfl rfl rfl rfl rfl rfl (fun m hm => arithmetic_2 hm.lole) ?_
 iterate 5 refine .P ?_
 refine .nil (.seq (.seq (.seq (.region ?_))))
 iterate 4 refine .P ?_
 refine .F fa59_1 ?_
 refine .indexArr rfl rfl rfl rfl underlying56 sz55 rfl rfl (by decide) ?_
 refine .L ag55 ?_
 refine .bin (v := .bool false) rfl rfl rfl rfl rfl rfl (by kernel_rfl) ?_
 refine .P ?_
 refine .nil (.seq (.cond_false rfl (.skip (.seq (.seq ?_)))))
 refine .D [(15, 0), (3, 1), (15, 0), (7, 7), (12, 0), (0, 16), (12, 0), (7, 127), (15, 255), (15, 511)] (by kernel_rfl) (by kernel_rfl) (fun base hbase hB => ?_)
 refine .F fa59_0 ?_
 refine .J ag54 ?_
 refine .P ?_
 refine .call _ rfl rfl rfl rfl rfl rfl rfl rfl rfl (fun m hm => cl_u8_1 hm.lole ha) ?_
 refine .F fa59_0 ?_
 refine .R ag54 hB ?_
 refine .P ?_
 refine .call _ rfl rfl rfl rfl rfl rfl rfl rfl rfl (fun m hm => cl_u8_1 hm.lole hb) ?_
 iterate 2 refine .P ?_
 refine .nil (.seq (.seq (.seq (.region ?_))))
 iterate 7 refine .P ?_
 iterate 2 refine .O ?_
 refine .P2 ?_
 iterate 2 refine .O ?_
 refine .P ?_
 refine .nil (.seq (.cond_false rfl (.skip (.seq (.seq (.region (.P ?_)))))))
 refine .F fa59_1 ?_
 refine .indexArr rfl rfl rfl rfl underlying56 sz55 rfl rfl (by decide) ?_
 refine .L ag55 ?_
 refine .P2 ?_
 refine .call _ rfl rfl rfl rfl rfl rfl (fun m hm => cl_u8_4 hm.lole (Fit.wr .u8 a) (Fit.wr .u8 b)) ?_
 refine .P2 ?_
 refine .nil (.seq (.ret ?_))
 exact .end_ rfl rfl (fun m hm => ⟨rfl, hm.ext⟩)
theorem Arith_u8_3 {a b : Int} {m : AW} (hm : m.lo ≤ m.next) (ha : Fit .i64 a) (hb : Fit .i64 b) (h0 : wr .u8 b ≠ 0) : Fc prog 19 [.int .i64 1, .int .i64 3, .int .i64 a, .int .i64 b] m fun v m' => v = .tuple ⟨[.int .i64 (wr .u8 ((wr .u8 a).tdiv (wr .u8 b))), .int .i64 0]⟩ ∧ Ext m m' := by
 refine Fc.body (c := _) func19 rfl rfl rfl rfl hm ?_
 refine .seq (.region (.P2 ?_))
 refine .nil (.seq (.seq (.region (.P ?_))))
 refine .calln _ _ _ rfl rfl rfl rfl rfl rfl (fun m hm => of_u8 hm.lole) (fun x hx => ?_)
 clear hx
 refine .P3 ?_
 refine .alloc rfl rfl rfl rfl zr59 (fun b10 hb10 => ?_)
 refine .S sz59 ?_
 refine .P ?_
 refine .nil (.seq (.seq (.seq (.region (.P2 ?_)))))
 refine .nil (.seq (.cond_false rfl (.skip (.seq (.seq (.block (.seq (.region (.P3 ?_)))))))))
 iterate 3 refine .O ?_
 refine .P2 ?_
 refine .nil (.seq (.cond_false rfl (.seq (.region (.P3 ?_)))))
 iterate 3 refine .O ?_
 refine .P2 ?_
 refine .nil (.seq (.cond_false rfl (.skip (.blk (.seq (.seq (.region (.P ?_))))))))
 refine .call _ rfl rfl rfl rfl rfl rfl (fun m hm => arithmetic_3 hm.lole) ?_
 iterate 5 refine .P ?_
 refine .nil (.seq (.seq (.seq (.region ?_))))
 iterate 4 refine .P ?_
 refine .F fa59_1 ?_
 refine .indexArr rfl rfl rfl rfl underlying56 sz55 rfl rfl (by decide) ?_
 refine .L ag55 ?_
 refine .bin (v := .bool false) rfl rfl rfl rfl rfl rfl (by kernel_rfl) ?_
 refine .P ?_
 refine .nil (.seq (.cond_false rfl (.skip (.seq (.seq ?_)))))
 refine .D [(15, 0), (3, 1), (15, 0), (7, 7), (12, 0), (0, 16), (12, 0), (7, 127), (15, 255), (15, 511)] (by kernel_rfl) (by kernel_rfl) (fun base hbase hB => ?_)
 refine .F fa59_0 ?_
 refine .J ag54 ?_
 refine .P ?_
 refine .call _ rfl rfl rfl rfl rfl rfl rfl rfl rfl (fun m hm => cl_u8_1 hm.lole ha) ?_
 refine .F fa59_0 ?_
 refine .R ag54 hB ?_
 refine .P ?_
 refine .call _ rfl rfl rfl rfl rfl rfl rfl rfl rfl (fun m hm => cl_u8_1 hm.lole hb) ?_
 iterate 2 refine .P ?_
 refine .nil (.seq (.seq (.seq (.region (.P3 ?_)))))
 iterate 2 refine .O ?_
 iterate 9 refine .P ?_
 refine .nil (.seq ?_)
 refine .cond_false (by rw [eqI_eq, decide_eq_false h0]; rfl) ?_
 refine .skip (.seq (.seq (.region (.P ?_))))
 refine .F fa59_1 ?_
 refine .indexArr rfl rfl rfl rfl underlying56 sz55 rfl rfl (by decide) ?_
 refine .L ag55 ?_
 refine .P2 ?_
 refine .call _ rfl rfl rfl rfl rfl rfl (fun m hm => cl_u8_5 hm.lole (Fit.wr .u8 a) (Fit.wr .u8 b) h0) ?_
 refine .P2 ?_
 refine .nil (.seq (.ret ?_))
 exact .end_ rfl rfl (fun m hm => ⟨rfl, hm.ext⟩)
theorem Arith_u8_3z {a b : Int} {m : AW} (hm : m.lo ≤ m.next) (ha : Fit .i64 a) (hb : Fit .i64 b) (h0 : wr .u8 b = 0) : Fc prog 19 [.int .i64 1, .int .i64 3, .int .i64 a, .int .i64 b] m fun v m' => v = .tuple ⟨[.int .i64 0, .int .i64 11]⟩ ∧ Ext m m' := by
 refine Fc.body (c := _) func19 rfl rfl rfl rfl hm ?_
 refine .seq (.region (.P2 ?_))
 refine .nil (.seq (.seq (.region (.P ?_))))
 refine .calln _ _ _ rfl rfl rfl rfl rfl rfl (fun m hm => of_u8 hm.lole) (fun x hx => ?_)
 clear hx
 refine .P3 ?_
 refine .alloc rfl rfl rfl rfl zr59 (fun b10 hb10 => ?_)
 refine .S sz59 ?_
 refine .P ?_
 refine .nil (.seq (.seq (.seq (.region (.P2 ?_)))))
 refine .nil (.seq (.cond_false rfl (.skip (.seq (.seq (.block (.seq (.region (.P3 ?_)))))))))
 iterate 3 refine .O ?_
 refine .P2 ?_
 refine .nil (.seq (.cond_false rfl (.seq (.region (.P3 ?_)))))
 iterate 3 refine .O ?_
 refine .P2 ?_
 refine .nil (.seq (.cond_false rfl (.skip (.blk (.seq (.seq (.region (.P ?_))))))))
 refine .call _ rfl rfl rfl rfl rfl rfl (fun m hm => arithmetic_3 hm.lole) ?_
 iterate 5 refine .P ?_
 refine .nil (.seq (.seq (.seq (.region ?_))))
 iterate 4 refine .P ?_
 refine .F fa59_1 ?_
 refine .indexArr rfl rfl rfl rfl underlying56 sz55 rfl rfl (by decide) ?_
 refine .L ag55 ?_
 refine .bin (v := .bool false) rfl rfl rfl rfl rfl rfl (by kernel_rfl) ?_
 refine .P ?_
 refine .nil (.seq (.cond_false rfl (.skip (.seq (.seq ?_)))))
 refine .D [(15, 0), (3, 1), (15, 0), (7, 7), (12, 0), (0, 16), (12, 0), (7, 127), (15, 255), (15, 511)] (by kernel_rfl) (by kernel_rfl) (fun base hbase hB => ?_)
 refine .F fa59_0 ?_
 refine .J ag54 ?_
 refine .P ?_
 refine .call _ rfl rfl rfl rfl rfl rfl rfl rfl rfl (fun m hm => cl_u8_1 hm.lole ha) ?_
 refine .F fa59_0 ?_
 refine .R ag54 hB ?_
 refine .P ?_
 refine .call _ rfl rfl rfl rfl rfl rfl rfl rfl rfl (fun m hm => cl_u8_1 hm.lole hb) ?_
 iterate 2 refine .P ?_
 refine .nil (.seq (.seq (.seq (.region (.P3 ?_)))))
 iterate 2 refine .O ?_
 iterate 9 refine .P ?_
 refine .nil (.seq ?_)
 refine .cond_true (by rw [eqI_eq, decide_eq_true h0]; rfl) ?_
 refine .seq (.region (.P2 ?_))
 refine .nil (.seq (.ret (.seq ?_)))
 exact .end_ rfl rfl (fun m hm => ⟨rfl, hm.ext⟩)
theorem Arith_u8_4 {a b : Int} {m : AW} (hm : m.lo ≤ m.next) (ha : Fit .i64 a) (hb : Fit .i64 b) (h0 : wr .u8 b ≠ 0) : Fc prog 19 [.int .i64 1, .int .i64 4, .int .i64 a, .int .i64 b] m fun v m' => v = .tuple ⟨[.int .i64 (wr .u8 ((wr .u8 a).tmod (wr .u8 b))), .int .i64 0]⟩ ∧ Ext m m' := by
 refine Fc.body (c := _) func19 rfl rfl rfl rfl hm ?_
 refine .seq (.region (.P2 ?_))
 refine .nil (.seq (.seq (.region (.P ?_))))
 refine .calln _ _ _ rfl rfl rfl rfl rfl rfl (fun m hm => of_u8 hm.lole) (fun x hx => ?_)
 clear hx
 refine .P3 ?_
 refine .alloc rfl rfl rfl rfl zr59 (fun b10 hb10 => ?_)
 refine .S sz59 ?_
 refine .P ?_
 refine .nil (.seq (.seq (.seq (.region (.P2 ?_)))))
 refine .nil (.seq (.cond_false rfl (.skip (.seq (.seq (.block (.seq (.region (.P3 ?_)))))))))
 iterate 3 refine .O ?_
 refine .P2 ?_
 refine .nil (.seq (.cond_false rfl (.seq (.region (.P3 ?_)))))
 iterate 3 refine .O ?_
 refine .P2 ?_
 refine .nil (.seq (.cond_false rfl (.skip (.blk (.seq (.seq (.region (.P ?_))))))))
 refine .call _ rfl rfl rfl rfl rfl rfl (fun m hm => arithmetic_4 hm.lole) ?_
 iterate 5 refine .P ?_
 refine .nil (.seq (.seq (.seq (.region ?_))))
 iterate 4 refine .P ?_
 refine .F fa59_1 ?_
 refine .indexArr rfl rfl rfl rfl underlying56 sz55 rfl rfl (by decide) ?_
 refine .L ag55 ?_
 refine .bin (v := .bool false) rfl rfl rfl rfl rfl rfl (by kernel_rfl) ?_
 refine .P ?_
 refine .nil (.seq (.cond_false rfl (.skip (.seq (.seq ?_)))))
 refine .D [(15, 0), (3, 1), (15, 0), (7, 7), (12, 0), (0, 16), (12, 0), (7, 127), (15, 255), (15, 511)] (by kernel_rfl) (by kernel_rfl) (fun base hbase hB => ?_)
 refine .F fa59_0 ?_
 refine .J ag54 ?_
 refine .P ?_
 refine .call _ rfl rfl rfl rfl rfl rfl rfl rfl rfl (fun m hm => cl_u8_1 hm.lole ha) ?_
 refine .F fa59_0 ?_
 refine .R ag54 hB ?_
 refine .P ?_
 refine .call _ rfl rfl rfl rfl rfl rfl rfl rfl rfl (fun m hm => cl_u8_1 hm.lole hb) ?_
 iterate 2 refine .P ?_
 refine .nil (.seq (.seq (.seq (.region ?_))))
 iterate 14 refine .P ?_
 refine .nil (.seq ?_)
 refine .cond_false (by rw [eqI_eq, decide_eq_false h0]; rfl) ?_
 refine .skip (.seq (.seq (.region (.P ?_))))
 refine .F fa59_1 ?_
 refine .indexArr rfl rfl rfl rfl underlying56 sz55 rfl rfl (by decide) ?_
 refine .L ag55 ?_
 refine .P2 ?_
 refine .call _ rfl rfl rfl rfl rfl rfl (fun m hm => cl_u8_6 hm.lole (Fit.wr .u8 a) (Fit.wr .u8 b) h0) ?_
 refine .P2 ?_
 refine .nil (.seq (.ret ?_))
 exact .end_ rfl rfl (fun m hm => ⟨rfl, hm.ext⟩)
theorem Arith_u8_4z {a b : Int} {m : AW} (hm : m.lo ≤ m.next) (ha : Fit .i64 a) (hb : Fit .i64 b) (h0 : wr .u8 b = 0) : Fc prog 19 [.int .i64 1, .int .i64 4, .int .i64 a, .int .i64 b] m fun v m' => v = .tuple ⟨[.int .i64 0, .int .i64 11]⟩ ∧ Ext m m' := by
 refine Fc.body (c := _) func19 rfl rfl rfl rfl hm ?_
 refine .seq (.region (.P2 ?_))
 refine .nil (.seq (.seq (.region (.P ?_))))
 refine .calln _ _ _ rfl rfl rfl rfl rfl rfl (fun m hm => of_u8 hm.lole) (fun x hx => ?_)
 clear hx
 refine .P3 ?_
 refine .alloc rfl rfl rfl rfl zr59 (fun b10 hb10 => ?_)
 refine .S sz59 ?_
 refine .P ?_
 refine .nil (.seq (.seq (.seq (.region (.P2 ?_)))))
 refine .nil (.seq (.cond_false rfl (.skip (.seq (.seq (.block (.seq (.region (.P3 ?_)))))))))
 iterate 3 refine .O ?_
 refine .P2 ?_
 refine .nil (.seq (.cond_false rfl (.seq (.region (.P3 ?_)))))
 iterate 3 refine .O ?_
 refine .P2 ?_
 refine .nil (.seq (.cond_false rfl (.skip (.blk (.seq (.seq (.region (.P ?_))))))))
 refine .call _ rfl rfl rfl rfl rfl rfl (fun m hm => arithmetic_4 hm.lole) ?_
 iterate 5 refine .P ?_
 refine .nil (.seq (.seq (.seq (.region ?_))))
 iterate 4 refine .P ?_
 refine .F fa59_1 ?_
 refine .indexArr rfl rfl rfl rfl underlying56 sz55 rfl rfl (by decide) ?_
 refine .L ag55 ?_
 refine .bin (v := .bool false) rfl rfl rfl rfl rfl rfl (by kernel_rfl) ?_
 refine .P ?_
 refine .nil (.seq (.cond_false rfl (.skip (.seq (.seq ?_)))))
 refine .D [(15, 0), (3, 1), (15, 0), (7, 7), (12, 0), (0, 16), (12, 0), (7, 127), (15, 255), (15, 511)] (by kernel_rfl) (by kernel_rfl) (fun base hbase hB => ?_)
 refine .F fa59_0 ?_
 refine .J ag54 ?_
 refine .P ?_
 refine .call _ rfl rfl rfl rfl rfl rfl rfl rfl rfl (fun m hm => cl_u8_1 hm.lole ha) ?_
 refine .F fa59_0 ?_
 refine .R ag54 hB ?_
 refine .P ?_
 refine .call _ rfl rfl rfl rfl rfl rfl rfl rfl rfl (fun m hm => cl_u8_1 hm.lole hb) ?_
 iterate 2 refine .P ?_
 refine .nil (.seq (.seq (.seq (.region ?_))))
 iterate 14 refine .P ?_
 refine .nil (.seq ?_)
 refine .cond_true (by rw [eqI_eq, decide_eq_true h0]; rfl) ?_
 refine .seq (.region (.P2 ?_))
 refine .nil (.seq (.ret (.seq ?_)))
 exact .end_ rfl rfl (fun m hm => ⟨rfl, hm.ext⟩)
theorem Arith_i32_0 {a b : Int} {m : AW} (hm : m.lo ≤ m.next) (ha : Fit .i64 a) (hb : Fit .i64 b) : Fc prog 19 [.int .i64 2, .int .i64 0, .int .i64 a, .int .i64 b] m fun v m' => v = .tuple ⟨[.int .i64 (wr .i32 (wr .i32 a + wr .i32 b)), .int .i64 0]⟩ ∧ Ext m m' := by
 refine Fc.body (c := _) func19 rfl rfl rfl rfl hm ?_
 refine .seq (.region (.P2 ?_))
 refine .nil (.seq (.seq (.region (.P ?_))))
 refine .calln _ _ _ rfl rfl rfl rfl rfl rfl (fun m hm => of_i32 hm.lole) (fun x hx => ?_)
 clear hx
 refine .P3 ?_
 refine .alloc rfl rfl rfl rfl zr59 (fun b10 hb10 => ?_)
 refine .S sz59 ?_
 refine .P ?_
 refine .nil (.seq (.seq (.seq (.region (.P2 ?_)))))
 refine .nil (.seq (.cond_false rfl (.skip (.seq (.seq (.block (.seq (.region (.P3 ?_)))))))))
 iterate 3 refine .O ?_
 refine .P2 ?_
 refine .nil (.seq (.cond_false rfl (.seq (.region (.P3 ?_)))))
 iterate 3 refine .O ?_
 refine .P2 ?_
 refine .nil (.seq (.cond_false rfl (.skip (.blk (.seq (.seq (.region (.P ?_))))))))
 refine .call _ rfl rfl rfl rfl rfl rfl (fun m hm => arithmetic_0 hm.lole) ?_
 iterate 5 refine .P ?_
 refine .nil (.seq (.seq (.seq (.region ?_))))
 iterate 4 refine .P ?_
 refine .F fa59_1 ?_
 refine .indexArr rfl rfl rfl rfl underlying56 sz55 rfl rfl (by decide) ?_
 refine .L ag55 ?_
 refine .bin (v := .bool false) rfl rfl rfl rfl rfl rfl (by kernel_rfl) ?_
 refine .P ?_
 refine .nil (.seq (.cond_false rfl (.skip (.seq (.seq ?_)))))
 refine .D [(15, 0), (3, 1), (15, 0), (7, 7), (12, 0), (0, 16), (12, 0), (7, 127), (15, 255), (15, 511)] (by kernel_rfl) (by kernel_rfl) (fun base hbase hB => ?_)
 refine .F fa59_0 ?_
 refine .J ag54 ?_
 refine .P ?_
 refine .call _ rfl rfl rfl rfl rfl rfl rfl rfl rfl (fun m hm => cl_i32_1 hm.lole ha) ?_
 refine .F fa59_0 ?_
 refine .R ag54 hB ?_
 refine .P ?_
 refine .call _ rfl rfl rfl rfl rfl rfl rfl rfl rfl (fun m hm => cl_i32_1 hm.lole hb) ?_
 iterate 2 refine .P ?_
 refine .nil (.seq (.seq (.seq (.region ?_))))
 iterate 7 refine .P ?_
 iterate 2 refine .O ?_
 refine .P2 ?_
 iterate 2 refine .O ?_
 refine .P ?_
 refine .nil (.seq (.cond_false rfl (.skip (.seq (.seq (.region (.P ?_)))))))
 refine .F fa59_1 ?_
 refine .indexArr rfl rfl rfl rfl underlying56 sz55 rfl rfl (by decide) ?_
 refine .L ag55 ?_
 refine .P2 ?_
 refine .call _ rfl rfl rfl rfl rfl rfl (fun m hm => cl_i32_2 hm.lole (Fit.wr .i32 a) (Fit.wr .i32 b)) ?_
 refine .P2 ?_
 refine .nil (.seq (.ret ?_))
 exact .end_ rfl rfl (fun m hm => ⟨rfl, hm.ext⟩)
theorem Arith_i32_1 {a b : Int} {m : AW} (hm : m.lo ≤ m.next) (ha : Fit .i64 a) (hb : Fit .i64 b) : Fc prog 19 [.int .i64 2, .int .i64 1, .int .i64 a, .int .i64 b] m fun v m' => v = .tuple ⟨[.int .i64 (wr .i32 (wr .i32 a - wr .i32 b)), .int .i64 0]⟩ ∧ Ext m m' := by
 refine Fc.body (c := _) func19 rfl rfl rfl rfl hm ?_
 refine .seq (.region (.P2 ?_))
 refine .nil (.seq (.seq (.region (.P ?_))))
 refine .calln _ _ _ rfl rfl rfl rfl rfl rfl (fun m hm => of_i32 hm.lole) (fun x hx => ?_)
 clear hx
 refine .P3 ?_
 refine .alloc rfl rfl rfl rfl zr59 (fun b10 hb10 => ?_)
 refine .S sz59 ?_
 refine .P ?_
 refine .nil (.seq (.seq (.seq (.region (.P2 ?_)))))
 refine .nil (.seq (.cond_false rfl (.skip (.seq (.seq (.block (.seq (.region (.P3 ?_)))))))))
 iterate 3 refine .O ?_
 refine .P2 ?_
 refine .nil (.seq (.cond_false rfl (.seq (.region (.P3 ?_)))))
 iterate 3 refine .O ?_
 refine .P2 ?_
 refine .nil (.seq (.cond_false rfl (.skip (.blk (.seq (.seq (.region (.P ?_))))))))
 refine .call _ rfl rfl rfl rfl rfl rfl (fun m hm => arithmetic_1 hm.lole) ?_
 iterate 5 refine .P ?_
 refine .nil (.seq (.seq (.seq (.region ?_))))
 iterate 4 refine .P ?_
 refine .F fa59_1 ?_
 refine .indexArr rfl rfl rfl rfl underlying56 sz55 rfl rfl (by decide) ?_
 refine .L ag55 ?_
 refine .bin (v := .bool false) rfl rfl rfl rfl rfl rfl (by kernel_rfl) ?_
 refine .P ?_
 refine .nil (.seq (.cond_false rfl (.skip (.seq (.seq ?_)))))
 refine .D [(15, 0), (3, 1), (15, 0), (7, 7), (12, 0), (0, 16), (12, 0), (7, 127), (15, 255), (15, 511)] (by kernel_rfl) (by kernel_rfl) (fun base hbase hB => ?_)
 refine .F fa59_0 ?_
 refine .J ag54 ?_
 refine .P ?_
 refine .call _ rfl rfl rfl rfl rfl rfl rfl rfl rfl (fun m hm => cl_i32_1 hm.lole ha) ?_
 refine .F fa59_0 ?_
 refine .R ag54 hB ?_
 refine .P ?_
 refine .call _ rfl rfl rfl rfl rfl rfl rfl rfl rfl (fun m hm => cl_i32_1 hm.lole hb) ?_
 iterate 2 refine .P ?_
 refine .nil (.seq (.seq (.seq (.region ?_))))
 iterate 7 refine .P ?_
 iterate 2 refine .O ?_
 refine .P2 ?_
 iterate 2 refine .O ?_
 refine .P ?_
 refine .nil (.seq (.cond_false rfl (.skip (.seq (.seq (.region (.P ?_)))))))
 refine .F fa59_1 ?_
 refine .indexArr rfl rfl rfl rfl underlying56 sz55 rfl rfl (by decide) ?_
 refine .L ag55 ?_
 refine .P2 ?_
 refine .call _ rfl rfl rfl rfl rfl rfl (fun m hm => cl_i32_3 hm.lole (Fit.wr .i32 a) (Fit.wr .i32 b)) ?_
 refine .P2 ?_
 refine .nil (.seq (.ret ?_))
 exact .end_ rfl rfl (fun m hm => ⟨rfl, hm.ext⟩)
theorem Arith_i32_2 {a b : Int} {m : AW} (hm : m.lo ≤ m.next) (ha : Fit .i64 a) (hb : Fit .i64 b) : Fc prog 19 [.int .i64 2, .int .i64 2, .int .i64 a, .int .i64 b] m fun v m' => v = .tuple ⟨[.int .i64 (wr .i32 (wr .i32 a * wr .i32 b)), .int .i64 0]⟩ ∧ Ext m m' := by
 refine Fc.body (c := _) func19 rfl rfl rfl rfl hm ?_
 refine .seq (.region (.P2 ?_))
 refine .nil (.seq (.seq (.region (.P ?_))))
 refine .calln _ _ _ rfl rfl rfl rfl rfl rfl (fun m hm => of_i32 hm.lole) (fun x hx => ?_)
 clear hx
 refine .P3 ?_
 refine .alloc rfl rfl rfl rfl zr59 (fun b10 hb10 => ?_)
 refine .S sz59 ?_
 refine .P ?_
 refine .nil (.seq (.seq (.seq (.region (.P2 ?_)))))
 refine .nil (.seq (.cond_false rfl (.skip (.seq (.seq (.block (.seq (.region (.P3 ?_)))))))))
 iterate 3 refine .O ?_
 refine .P2 ?_
 refine .nil (.seq (.cond_false rfl (.seq (.region (.P3 ?_)))))
 iterate 3 refine .O ?_
 refine .P2 ?_
 refine .nil (.seq (.cond_false rfl (.skip (.blk (.seq (.seq (.region (.P ?_))))))))
 refine .call _ rfl rfl rfl rfl rfl rfl (fun m hm => arithmetic_2 hm.lole) ?_
 iterate 5 refine .P ?_
 refine .nil (.seq (.seq (.seq (.region ?_))))
 iterate 4 refine .P ?_
 refine .F fa59_1 ?_
 refine .indexArr rfl rfl rfl rfl underlying56 sz55 rfl rfl (by decide) ?_
 refine .L ag55 ?_
 refine .bin (v := .bool false) rfl rfl rfl rfl rfl rfl (by kernel_rfl) ?_
 refine .P ?_
 refine .nil (.seq (.cond_false rfl (.skip (.seq (.seq ?_)))))
 refine .D [(15, 0), (3, 1), (15, 0), (7, 7), (12, 0), (0, 16), (12, 0), (7, 127), (15, 255), (15, 511)] (by kernel_rfl) (by kernel_rfl) (fun base hbase hB => ?_)
 refine .F fa59_0 ?_
 refine .J ag54 ?_
 refine .P ?_
 refine .call _ rfl rfl rfl rfl rfl rfl rfl rfl rfl (fun m hm => cl_i32_1 hm.lole ha) ?_
 refine .F fa59_0 ?_
 refine .R ag54 hB ?_
 refine .P ?_
 refine .call _ rfl rfl rfl rfl rfl rfl rfl rfl rfl (fun m hm => cl_i32_1 hm.lole hb) ?_
 iterate 2 refine .P ?_
 refine .nil (.seq (.seq (.seq (.region ?_))))
 iterate 7 refine .P ?_
 iterate 2 refine .O ?_
 refine .P2 ?_
 iterate 2 refine .O ?_
 refine .P ?_
 refine .nil (.seq (.cond_false rfl (.skip (.seq (.seq (.region (.P ?_)))))))
 refine .F fa59_1 ?_
 refine .indexArr rfl rfl rfl rfl underlying56 sz55 rfl rfl (by decide) ?_
 refine .L ag55 ?_
 refine .P2 ?_
 refine .call _ rfl rfl rfl rfl rfl rfl (fun m hm => cl_i32_4 hm.lole (Fit.wr .i32 a) (Fit.wr .i32 b)) ?_
 refine .P2 ?_
 refine .nil (.seq (.ret ?_))
 exact .end_ rfl rfl (fun m hm => ⟨rfl, hm.ext⟩)
theorem Arith_i32_3 {a b : Int} {m : AW} (hm : m.lo ≤ m.next) (ha : Fit .i64 a) (hb : Fit .i64 b) (h0 : wr .i32 b ≠ 0) : Fc prog 19 [.int .i64 2, .int .i64 3, .int .i64 a, .int .i64 b] m fun v m' => v = .tuple ⟨[.int .i64 (wr .i32 ((wr .i32 a).tdiv (wr .i32 b))), .int .i64 0]⟩ ∧ Ext m m' := by
 refine Fc.body (c := _) func19 rfl rfl rfl rfl hm ?_
 refine .seq (.region (.P2 ?_))
 refine .nil (.seq (.seq (.region (.P ?_))))
 refine .calln _ _ _ rfl rfl rfl rfl rfl rfl (fun m hm => of_i32 hm.lole) (fun x hx => ?_)
 clear hx
 refine .P3 ?_
 refine .alloc rfl rfl rfl rfl zr59 (fun b10 hb10 => ?_)
 refine .S sz59 ?_
 refine .P ?_
 refine .nil (.seq (.seq (.seq (.region (.P2 ?_)))))
 refine .nil (.seq (.cond_false rfl (.skip (.seq (.seq (.block (.seq (.region (.P3 ?_)))))))))
 iterate 3 refine .O ?_
 refine .P2 ?_
 refine .nil (.seq (.cond_false rfl (.seq (.region (.P3 ?_)))))
 iterate 3 refine .O ?_
 refine .P2 ?_
 refine .nil (.seq (.cond_false rfl (.skip (.blk (.seq (.seq (.region (.P ?_))))))))
 refine .call _ rfl rfl rfl rfl rfl rfl (fun m hm => arithmetic_3 hm.lole) ?_
 iterate 5 refine .P ?_
 refine .nil (.seq (.seq (.seq (.region ?_))))
 iterate 4 refine .P ?_
 refine .F fa59_1 ?_
 refine .indexArr rfl rfl rfl rfl underlying56 sz55 rfl rfl (by decide) ?_
 refine .L ag55 ?_
 refine .bin (v := .bool false) rfl rfl rfl rfl rfl rfl (by kernel_rfl) ?_
 refine .P ?_
 refine .nil (.seq (.cond_false rfl (.skip (.seq (.seq ?_)))))
 refine .D [(15, 0), (3, 1), (15, 0), (7, 7), (12, 0), (0, 16), (12, 0), (7, 127), (15, 255), (15, 511)] (by kernel_rfl) (by kernel_rfl) (fun base hbase hB => ?_)
 refine .F fa59_0 ?_
 refine .J ag54 ?_
 refine .P ?_
 refine .call _ rfl rfl rfl rfl rfl rfl rfl rfl rfl (fun m hm => cl_i32_1 hm.lole ha) ?_
 refine .F fa59_0 ?_
 refine .R ag54 hB ?_
 refine .P ?_
 refine .call _ rfl rfl rfl rfl rfl rfl rfl rfl rfl (fun m hm => cl_i32_1 hm.lole hb) ?_
 iterate 2 refine .P ?_
 refine .nil (.seq (.seq (.seq (.region (.P3 ?_)))))
 iterate 2 refine .O ?_
 iterate 9 refine .P ?_
 refine .nil (.seq ?_)
 refine .cond_false (by rw [eqI_eq, decide_eq_false h0]; rfl) ?_
 refine .skip (.seq (.seq (.region (.P ?_))))
 refine .F fa59_1 ?_
 refine .indexArr rfl rfl rfl rfl underlying56 sz55 rfl rfl (by decide) ?_
 refine .L ag55 ?_
 refine .P2 ?_
 refine .call _ rfl rfl rfl rfl rfl rfl (fun m hm => cl_i32_5 hm.lole (Fit.wr .i32 a) (Fit.wr .i32 b) h0) ?_
 refine .P2 ?_
 refine .nil (.seq (.ret ?_))
 exact .end_ rfl rfl (fun m hm => ⟨rfl, hm.ext⟩)
theorem Arith_i32_3z {a b : Int} {m : AW} (hm : m.lo ≤ m.next) (ha : Fit .i64 a) (hb : Fit .i64 b) (h0 : wr .i32 b = 0) : Fc prog 19 [.int .i64 2, .int .i64 3, .int .i64 a, .int .i64 b] m fun v m' => v = .tuple ⟨[.int .i64 0, .int .i64 11]⟩ ∧ Ext m m' := by
 refine Fc.body (c := _) func19 rfl rfl rfl rfl hm ?_
 refine .seq (.region (.P2 ?_))
 refine .nil (.seq (.seq (.region (.P ?_))))
 refine .calln _ _ _ rfl rfl rfl rfl rfl rfl (fun m hm => of_i32 hm.lole) (fun x hx => ?_)
 clear hx
 refine .P3 ?_
 refine .alloc rfl rfl rfl rfl zr59 (fun b10 hb10 => ?_)
 refine .S sz59 ?_
 refine .P ?_
 refine .nil (.seq (.seq (.seq (.region (.P2 ?_)))))
 refine .nil (.seq (.cond_false rfl (.skip (.seq (.seq (.block (.seq (.region (.P3 ?_)))))))))
 iterate 3 refine .O ?_
 refine .P2 ?_
 refine .nil (.seq (.cond_false rfl (.seq (.region (.P3 ?_)))))
 iterate 3 refine .O ?_
 refine .P2 ?_
 refine .nil (.seq (.cond_false rfl (.skip (.blk (.seq (.seq (.region (.P ?_))))))))
 refine .call _ rfl rfl rfl rfl rfl rfl (fun m hm => arithmetic_3 hm.lole) ?_
 iterate 5 refine .P ?_
 refine .nil (.seq (.seq (.seq (.region ?_))))
 iterate 4 refine .P ?_
 refine .F fa59_1 ?_
 refine .indexArr rfl rfl rfl rfl underlying56 sz55 rfl rfl (by decide) ?_
 refine .L ag55 ?_
 refine .bin (v := .bool false) rfl rfl rfl rfl rfl rfl (by kernel_rfl) ?_
 refine .P ?_
 refine .nil (.seq (.cond_false rfl (.skip (.seq (.seq ?_)))))
 refine .D [(15, 0), (3, 1), (15, 0), (7, 7), (12, 0), (0, 16), (12, 0), (7, 127), (15, 255), (15, 511)] (by kernel_rfl) (by kernel_rfl) (fun base hbase hB => ?_)
 refine .F fa59_0 ?_
 refine .J ag54 ?_
 refine .P ?_
 refine .call _ rfl rfl rfl rfl rfl rfl rfl rfl rfl (fun m hm => cl_i32_1 hm.lole ha) ?_
 refine .F fa59_0 ?_
 refine .R ag54 hB ?_
 refine .P ?_
 refine .call _ rfl rfl rfl rfl rfl rfl rfl rfl rfl (fun m hm => cl_i32_1 hm.lole hb) ?_
 iterate 2 refine .P ?_
 refine .nil (.seq (.seq (.seq (.region (.P3 ?_)))))
 iterate 2 refine .O ?_
 iterate 9 refine .P ?_
 refine .nil (.seq ?_)
 refine .cond_true (by rw [eqI_eq, decide_eq_true h0]; rfl) ?_
 refine .seq (.region (.P2 ?_))
 refine .nil (.seq (.ret (.seq ?_)))
 exact .end_ rfl rfl (fun m hm => ⟨rfl, hm.ext⟩)
theorem Arith_i32_4 {a b : Int} {m : AW} (hm : m.lo ≤ m.next) (ha : Fit .i64 a) (hb : Fit .i64 b) (h0 : wr .i32 b ≠ 0) : Fc prog 19 [.int .i64 2, .int .i64 4, .int .i64 a, .int .i64 b] m fun v m' => v = .tuple ⟨[.int .i64 (wr .i32 ((wr .i32 a).tmod (wr .i32 b))), .int .i64 0]⟩ ∧ Ext m m' := by
 refine Fc.body (c := _) func19 rfl rfl rfl rfl hm ?_
 refine .seq (.region (.P2 ?_))
 refine .nil (.seq (.seq (.region (.P ?_))))
 refine .calln _ _ _ rfl rfl rfl rfl rfl rfl (fun m hm => of_i32 hm.lole) (fun x hx => ?_)
 clear hx
 refine .P3 ?_
 refine .alloc rfl rfl rfl rfl zr59 (fun b10 hb10 => ?_)
 refine .S sz59 ?_
 refine .P ?_
 refine .nil (.seq (.seq (.seq (.region (.P2 ?_)))))
 refine .nil (.seq (.cond_false rfl (.skip (.seq (.seq (.block (.seq (.region (.P3 ?_)))))))))
 iterate 3 refine .O ?_
 refine .P2 ?_
 refine .nil (.seq (.cond_false rfl (.seq (.region (.P3 ?_)))))
 iterate 3 refine .O ?_
 refine .P2 ?_
 refine .nil (.seq (.cond_false rfl (.skip (.blk (.seq (.seq (.region (.P ?_))))))))
 refine .call _ rfl rfl rfl rfl rfl rfl (fun m hm => arithmetic_4 hm.lole) ?_
 iterate 5 refine .P ?_
 refine .nil (.seq (.seq (.seq (.region ?_))))
 iterate 4 refine .P ?_
 refine .F fa59_1 ?_
 refine .indexArr rfl rfl rfl rfl underlying56 sz55 rfl rfl (by decide) ?_
 refine .L ag55 ?_
 refine .bin (v := .bool false) rfl rfl rfl rfl rfl rfl (by kernel_rfl) ?_
 refine .P ?_
 refine .nil (.seq (.cond_false rfl (.skip (.seq (.seq ?_)))))
 refine .D [(15, 0), (3, 1), (15, 0), (7, 7), (12, 0), (0, 16), (12, 0), (7, 127), (15, 255), (15, 511)] (by kernel_rfl) (by kernel_rfl) (fun base hbase hB => ?_)
 refine .F fa59_0 ?_
 refine .J ag54 ?_
 refine .P ?_
 refine .call _ rfl rfl rfl rfl rfl rfl rfl rfl rfl (fun m hm => cl_i32_1 hm.lole ha) ?_
 refine .F fa59_0 ?_
 refine .R ag54 hB ?_
 refine .P ?_
 refine .call _ rfl rfl rfl rfl rfl rfl rfl rfl rfl (fun m hm => cl_i32_1 hm.lole hb) ?_
 iterate 2 refine .P ?_
 refine .nil (.seq (.seq (.seq (.region ?_))))
 iterate 14 refine .P ?_
 refine .nil (.seq ?_)
 refine .cond_false (by rw [eqI_eq, decide_eq_false h0]; rfl) ?_
 refine .skip (.seq (.seq (.region (.P ?_))))
 refine .F fa59_1 ?_
 refine .indexArr rfl rfl rfl rfl underlying56 sz55 rfl rfl (by decide) ?_
 refine .L ag55 ?_
 refine .P2 ?_
 refine .call _ rfl rfl rfl rfl rfl rfl (fun m hm => cl_i32_6 hm.lole (Fit.wr .i32 a) (Fit.wr .i32 b) h0) ?_
 refine .P2 ?_
 refine .nil (.seq (.ret ?_))
 exact .end_ rfl rfl (fun m hm => ⟨rfl, hm.ext⟩)
theorem Arith_i32_4z {a b : Int} {m : AW} (hm : m.lo ≤ m.next) (ha : Fit .i64 a) (hb : Fit .i64 b) (h0 : wr .i32 b = 0) : Fc prog 19 [.int .i64 2, .int .i64 4, .int .i64 a, .int .i64 b] m fun v m' => v = .tuple ⟨[.int .i64 0, .int .i64 11]⟩ ∧ Ext m m' := by
 refine Fc.body (c := _) func19 rfl rfl rfl rfl hm ?_
 refine .seq (.region (.P2 ?_))
 refine .nil (.seq (.seq (.region (.P ?_))))
 refine .calln _ _ _ rfl rfl rfl rfl rfl rfl (fun m hm => of_i32 hm.lole) (fun x hx => ?_)
 clear hx
 refine .P3 ?_
 refine .alloc rfl rfl rfl rfl zr59 (fun b10 hb10 => ?_)
 refine .S sz59 ?_
 refine .P ?_
 refine .nil (.seq (.seq (.seq (.region (.P2 ?_)))))
 refine .nil (.seq (.cond_false rfl (.skip (.seq (.seq (.block (.seq (.region (.P3 ?_)))))))))
 iterate 3 refine .O ?_
 refine .P2 ?_
 refine .nil (.seq (.cond_false rfl (.seq (.region (.P3 ?_)))))
 iterate 3 refine .O ?_
 refine .P2 ?_
 refine .nil (.seq (.cond_false rfl (.skip (.blk (.seq (.seq (.region (.P ?_))))))))
 refine .call _ rfl rfl rfl rfl rfl rfl (fun m hm => arithmetic_4 hm.lole) ?_
 iterate 5 refine .P ?_
 refine .nil (.seq (.seq (.seq (.region ?_))))
 iterate 4 refine .P ?_
 refine .F fa59_1 ?_
 refine .indexArr rfl rfl rfl rfl underlying56 sz55 rfl rfl (by decide) ?_
 refine .L ag55 ?_
 refine .bin (v := .bool false) rfl rfl rfl rfl rfl rfl (by kernel_rfl) ?_
 refine .P ?_
 refine .nil (.seq (.cond_false rfl (.skip (.seq (.seq ?_)))))
 refine .D [(15, 0), (3, 1), (15, 0), (7, 7), (12, 0), (0, 16), (12, 0), (7, 127), (15, 255), (15, 511)] (by kernel_rfl) (by kernel_rfl) (fun base hbase hB => ?_)
 refine .F fa59_0 ?_
 refine .J ag54 ?_
 refine .P ?_
 refine .call _ rfl rfl rfl rfl rfl rfl rfl rfl rfl (fun m hm => cl_i32_1 hm.lole ha) ?_
 refine .F fa59_0 ?_
 refine .R ag54 hB ?_
 refine .P ?_
 refine .call _ rfl rfl rfl rfl rfl rfl rfl rfl rfl (fun m hm => cl_i32_1 hm.lole hb) ?_
 iterate 2 refine .P ?_
 refine .nil (.seq (.seq (.seq (.region ?_))))
 iterate 14 refine .P ?_
 refine .nil (.seq ?_)
 refine .cond_true (by rw [eqI_eq, decide_eq_true h0]; rfl) ?_
 refine .seq (.region (.P2 ?_))
 refine .nil (.seq (.ret (.seq ?_)))
 exact .end_ rfl rfl (fun m hm => ⟨rfl, hm.ext⟩)
theorem Arith_i64_0 {a b : Int} {m : AW} (hm : m.lo ≤ m.next) (ha : Fit .i64 a) (hb : Fit .i64 b) : Fc prog 19 [.int .i64 3, .int .i64 0, .int .i64 a, .int .i64 b] m fun v m' => v = .tuple ⟨[.int .i64 (wr .i64 (wr .i64 a + wr .i64 b)), .int .i64 0]⟩ ∧ Ext m m' := by
 refine Fc.body (c := _) func19 rfl rfl rfl rfl hm ?_
 refine .seq (.region (.P2 ?_))
 refine .nil (.seq (.seq (.region (.P ?_))))
 refine .calln _ _ _ rfl rfl rfl rfl rfl rfl (fun m hm => of_i64 hm.lole) (fun x hx => ?_)
 clear hx
 refine .P3 ?_
 refine .alloc rfl rfl rfl rfl zr59 (fun b10 hb10 => ?_)
 refine .S sz59 ?_
 refine .P ?_
 refine .nil (.seq (.seq (.seq (.region (.P2 ?_)))))
 refine .nil (.seq (.cond_false rfl (.skip (.seq (.seq (.block (.seq (.region (.P3 ?_)))))))))
 iterate 3 refine .O ?_
 refine .P2 ?_
 refine .nil (.seq (.cond_false rfl (.seq (.region (.P3 ?_)))))
 iterate 3 refine .O ?_
 refine .P2 ?_
 refine .nil (.seq (.cond_false rfl (.skip (.blk (.seq (.seq (.region (.P ?_))))))))
 refine .call _ rfl rfl rfl rfl rfl rfl (fun m hm => arithmetic_0 hm.lole) ?_
 iterate 5 refine .P ?_
 refine .nil (.seq (.seq (.seq (.region ?_))))
 iterate 4 refine .P ?_
 refine .F fa59_1 ?_
 refine .indexArr rfl rfl rfl rfl underlying56 sz55 rfl rfl (by decide) ?_
 refine .L ag55 ?_
 refine .bin (v := .bool false) rfl rfl rfl rfl rfl rfl (by kernel_rfl) ?_
 refine .P ?_
 refine .nil (.seq (.cond_false rfl (.skip (.seq (.seq ?_)))))
 refine .D [(15, 0), (3, 1), (15, 0), (7, 7), (12, 0), (0, 16), (12, 0), (7, 127), (15, 255), (15, 511)] (by kernel_rfl) (by kernel_rfl) (fun base hbase hB => ?_)
 refine .F fa59_0 ?_
 refine .J ag54 ?_
 refine .P ?_
 refine .call _ rfl rfl rfl rfl rfl rfl rfl rfl rfl (fun m hm => cl_i64_1 hm.lole ha) ?_
 refine .F fa59_0 ?_
 refine .R ag54 hB ?_
 refine .P ?_
 refine .call _ rfl rfl rfl rfl rfl rfl rfl rfl rfl (fun m hm => cl_i64_1 hm.lole hb) ?_
 iterate 2 refine .P ?_
 refine .nil (.seq (.seq (.seq (.region ?_))))
 iterate 7 refine .P ?_
 iterate 2 refine .O ?_
 refine .P2 ?_
 iterate 2 refine .O ?_
 refine .P ?_
 refine .nil (.seq (.cond_false rfl (.skip (.seq (.seq (.region (.P ?_)))))))
 refine .F fa59_1 ?_
 refine .indexArr rfl rfl rfl rfl underlying56 sz55 rfl rfl (by decide) ?_
 refine .L ag55 ?_
 refine .P2 ?_
 refine .call _ rfl rfl rfl rfl rfl rfl (fun m hm => cl_i64_2 hm.lole (Fit.wr .i64 a) (Fit.wr .i64 b)) ?_
 refine .P2 ?_
 refine .nil (.seq (.ret ?_))
 exact .end_ rfl rfl (fun m hm => ⟨rfl, hm.ext⟩)
theorem Arith_i64_1 {a b : Int} {m : AW} (hm : m.lo ≤ m.next) (ha : Fit .i64 a) (hb : Fit .i64 b) : Fc prog 19 [.int .i64 3, .int .i64 1, .int .i64 a, .int .i64 b] m fun v m' => v = .tuple ⟨[.int .i64 (wr .i64 (wr .i64 a - wr .i64 b)), .int .i64 0]⟩ ∧ Ext m m' := by
 refine Fc.body (c := _) func19 rfl rfl rfl rfl hm ?_
 refine .seq (.region (.P2 ?_))
 refine .nil (.seq (.seq (.region (.P ?_))))
 refine .calln _ _ _ rfl rfl rfl rfl rfl rfl (fun m hm => of_i64 hm.lole) (fun x hx => ?_)
 clear hx
 refine .P3 ?_
 refine .alloc rfl rfl rfl rfl zr59 (fun b10 hb10 => ?_)
 refine .S sz59 ?_
 refine .P ?_
 refine .nil (.seq (.seq (.seq (.region (.P2 ?_)))))
 refine .nil (.seq (.cond_false rfl (.skip (.seq (.seq (.block (.seq (.region (.P3 ?_)))))))))
 iterate 3 refine .O ?_
 refine .P2 ?_
 refine .nil (.seq (.cond_false rfl (.seq (.region (.P3 ?_)))))
 iterate 3 refine .O ?_
 refine .P2 ?_
 refine .nil (.seq (.cond_false rfl (.skip (.blk (.seq (.seq (.region (.P ?_))))))))
 refine .call _ rfl rfl rfl rfl rfl rfl (fun m hm => arithmetic_1 hm.lole) ?_
 iterate 5 refine .P ?_
 refine .nil (.seq (.seq (.seq (.region ?_))))
 iterate 4 refine .P ?_
 refine .F fa59_1 ?_
 refine .indexArr rfl rfl rfl rfl underlying56 sz55 rfl rfl (by decide) ?_
 refine .L ag55 ?_
 refine .bin (v := .bool false) rfl rfl rfl rfl rfl rfl (by kernel_rfl) ?_
 refine .P ?_
 refine .nil (.seq (.cond_false rfl (.skip (.seq (.seq ?_)))))
 refine .D [(15, 0), (3, 1), (15, 0), (7, 7), (12, 0), (0, 16), (12, 0), (7, 127), (15, 255), (15, 511)] (by kernel_rfl) (by kernel_rfl) (fun base hbase hB => ?_)
 refine .F fa59_0 ?_
 refine .J ag54 ?_
 refine .P ?_
 refine .call _ rfl rfl rfl rfl rfl rfl rfl rfl rfl (fun m hm => cl_i64_1 hm.lole ha) ?_
 refine .F fa59_0 ?_
 refine .R ag54 hB ?_
 refine .P ?_
 refine .call _ rfl rfl rfl rfl rfl rfl rfl rfl rfl (fun m hm => cl_i64_1 hm.lole hb) ?_
 iterate 2 refine .P ?_
 refine .nil (.seq (.seq (.seq (.region ?_))))
 iterate 7 refine .P ?_
 iterate 2 refine .O ?_
 refine .P2 ?_
 iterate 2 refine .O ?_
 refine .P ?_
 refine .nil (.seq (.cond_false rfl (.skip (.seq (.seq (.region (.P ?_)))))))
 refine .F fa59_1 ?_
 refine .indexArr rfl rfl rfl rfl underlying56 sz55 rfl rfl (by decide) ?_
 refine .L ag55 ?_
 refine .P2 ?_
 refine .call _ rfl rfl rfl rfl rfl rfl (fun m hm => cl_i64_3 hm.lole (Fit.wr .i64 a) (Fit.wr .i64 b)) ?_
 refine .P2 ?_
 refine .nil (.seq (.ret ?_))
 exact .end_ rfl rfl (fun m hm => ⟨rfl, hm.ext⟩)
theorem Arith_i64_2 {a b : Int} {m : AW} (hm : m.lo ≤ m.next) (ha : Fit .i64 a) (hb : Fit .i64 b) : Fc prog 19 [.int .i64 3, .int .i64 2, .int .i64 a, .int .i64 b] m fun v m' => v = .tuple ⟨[.int .i64 (wr .i64 (wr .i64 a * wr .i64 b)), .int .i64 0]⟩ ∧ Ext m m' := by
 refine Fc.body (c := _) func19 rfl rfl rfl rfl hm ?_
 refine .seq (.region (.P2 ?_))
 refine .nil (.seq (.seq (.region (.P ?_))))
 refine .calln _ _ _ rfl rfl rfl rfl rfl rfl (fun m hm => of_i64 hm.lole) (fun x hx => ?_)
 clear hx
 refine .P3 ?_
 refine .alloc rfl rfl rfl rfl zr59 (fun b10 hb10 => ?_)
 refine .S sz59 ?_
 refine .P ?_
 refine .nil (.seq (.seq (.seq (.region (.P2 ?_)))))
 refine .nil (.seq (.cond_false rfl (.skip (.seq (.seq (.block (.seq (.region (.P3 ?_)))))))))
 iterate 3 refine .O ?_
 refine .P2 ?_
 refine .nil (.seq (.cond_false rfl (.seq (.region (.P3 ?_)))))
 iterate 3 refine .O ?_
 refine .P2 ?_
 refine .nil (.seq (.cond_false rfl (.skip (.blk (.seq (.seq (.region (.P ?_))))))))
 refine .call _ rfl rfl rfl rfl rfl rfl (fun m hm => arithmetic_2 hm.lole) ?_
 iterate 5 refine .P ?_
 refine .nil (.seq (.seq (.seq (.region ?_))))
 iterate 4 refine .P ?_
 refine .F fa59_1 ?_
 refine .indexArr rfl rfl rfl rfl underlying56 sz55 rfl rfl (by decide) ?_
 refine .L ag55 ?_
 refine .bin (v := .bool false) rfl rfl rfl rfl rfl rfl (by kernel_rfl) ?_
 refine .P ?_
 refine .nil (.seq (.cond_false rfl (.skip (.seq (.seq ?_)))))
 refine .D [(15, 0), (3, 1), (15, 0), (7, 7), (12, 0), (0, 16), (12, 0), (7, 127), (15, 255), (15, 511)] (by kernel_rfl) (by kernel_rfl) (fun base hbase hB => ?_)
 refine .F fa59_0 ?_
 refine .J ag54 ?_
 refine .P ?_
 refine .call _ rfl rfl rfl rfl rfl rfl rfl rfl rfl (fun m hm => cl_i64_1 hm.lole ha) ?_
 refine .F fa59_0 ?_
 refine .R ag54 hB ?_
 refine .P ?_
 refine .call _ rfl rfl rfl rfl rfl rfl rfl rfl rfl (fun m hm => cl_i64_1 hm.lole hb) ?_
 iterate 2 refine .P ?_
 refine .nil (.seq (.seq (.seq (.region ?_))))
 iterate 7 refine .P ?_
 iterate 2 refine .O ?_
 refine .P2 ?_
 iterate 2 refine .O ?_
 refine .P ?_
 refine .nil (.seq (.cond_false rfl (.skip (.seq (.seq (.region (.P ?_)))))))
 refine .F fa59_1 ?_
 refine .indexArr rfl rfl rfl rfl underlying56 sz55 rfl rfl (by decide) ?_
 refine .L ag55 ?_
 refine .P2 ?_
 refine .call _ rfl rfl rfl rfl rfl rfl (fun m hm => cl_i64_4 hm.lole (Fit.wr .i64 a) (Fit.wr .i64 b)) ?_
 refine .P2 ?_
 refine .nil (.seq (.ret ?_))
 exact .end_ rfl rfl (fun m hm => ⟨rfl, hm.ext⟩)
theorem Arith_i64_3 {a b : Int} {m : AW} (hm : m.lo ≤ m.next) (ha : Fit .i64 a) (hb : Fit .i64 b) (h0 : wr .i64 b ≠ 0) : Fc prog 19 [.int .i64 3, .int .i64 3, .int .i64 a, .int .i64 b] m fun v m' => v = .tuple ⟨[.int .i64 (wr .i64 ((wr .i64 a).tdiv (wr .i64 b))), .int .i64 0]⟩ ∧ Ext m m' := by
 refine Fc.body (c := _) func19 rfl rfl rfl rfl hm ?_
 refine .seq (.region (.P2 ?_))
 refine .nil (.seq (.seq (.region (.P ?_))))
 refine .calln _ _ _ rfl rfl rfl rfl rfl rfl (fun m hm => of_i64 hm.lole) (fun x hx => ?_)
 clear hx
 refine .P3 ?_
 refine .alloc rfl rfl rfl rfl zr59 (fun b10 hb10 => ?_)
 refine .S sz59 ?_
 refine .P ?_
 refine .nil (.seq (.seq (.seq (.region (.P2 ?_)))))
 refine .nil (.seq (.cond_false rfl (.skip (.seq (.seq (.block (.seq (.region (.P3 ?_)))))))))
 iterate 3 refine .O ?_
 refine .P2 ?_
 refine .nil (.seq (.cond_false rfl (.seq (.region (.P3 ?_)))))
 iterate 3 refine .O ?_
 refine .P2 ?_
 refine .nil (.seq (.cond_false rfl (.skip (.blk (.seq (.seq (.region (.P ?_))))))))
 refine .call _ rfl rfl rfl rfl rfl rfl (fun m hm => arithmetic_3 hm.lole) ?_
 iterate 5 refine .P ?_
 refine .nil (.seq (.seq (.seq (.region ?_))))
 iterate 4 refine .P ?_
 refine .F fa59_1 ?_
 refine .indexArr rfl rfl rfl rfl underlying56 sz55 rfl rfl (by decide) ?_
 refine .L ag55 ?_
 refine .bin (v := .bool false) rfl rfl rfl rfl rfl rfl (by kernel_rfl) ?_
 refine .P ?_
 refine .nil (.seq (.cond_false rfl (.skip (.seq (.seq ?_)))))
 refine .D [(15, 0), (3, 1), (15, 0), (7, 7), (12, 0), (0, 16), (12, 0), (7, 127), (15, 255), (15, 511)] (by kernel_rfl) (by kernel_rfl) (fun base hbase hB => ?_)
 refine .F fa59_0 ?_
 refine .J ag54 ?_
 refine .P ?_
 refine .call _ rfl rfl rfl rfl rfl rfl rfl rfl rfl (fun m hm => cl_i64_1 hm.lole ha) ?_
 refine .F fa59_0 ?_
 refine .R ag54 hB ?_
 refine .P ?_
 refine .call _ rfl rfl rfl rfl rfl rfl rfl rfl rfl (fun m hm => cl_i64_1 hm.lole hb) ?_
 iterate 2 refine .P ?_
 refine .nil (.seq (.seq (.seq (.region (.P3 ?_)))))
 iterate 2 refine .O ?_
 iterate 9 refine .P ?_
 refine .nil (.seq ?_)
 refine .cond_false (by rw [eqI_eq, decide_eq_false h0]; rfl) ?_
 refine .skip (.seq (.seq (.region (.P ?_))))
 refine .F fa59_1 ?_
 refine .indexArr rfl rfl rfl rfl underlying56 sz55 rfl rfl (by decide) ?_
 refine .L ag55 ?_
 refine .P2 ?_
 refine .call _ rfl rfl rfl rfl rfl rfl (fun m hm => cl_i64_5 hm.lole (Fit.wr .i64 a) (Fit.wr .i64 b) h0) ?_
 refine .P2 ?_
 refine .nil (.seq (.ret ?_))
 exact .end_ rfl rfl (fun m hm => ⟨rfl, hm.ext⟩)
theorem Arith_i64_3z {a b : Int} {m : AW} (hm : m.lo ≤ m.next) (ha : Fit .i64 a) (hb : Fit .i64 b) (h0 : wr .i64 b = 0) : Fc prog 19 [.int .i64 3, .int .i64 3, .int .i64 a, .int .i64 b] m fun v m' => v = .tuple ⟨[.int .i64 0, .int .i64 11]⟩ ∧ Ext m m' := by
 refine Fc.body (c := _) func19 rfl rfl rfl rfl hm ?_
 refine .seq (.region (.P2 ?_))
 refine .nil (.seq (.seq (.region (.P ?_))))
 refine .calln _ _ _ rfl rfl rfl rfl rfl rfl (fun m hm => of_i64 hm.lole) (fun x hx => ?_)
 clear hx
 refine .P3 ?_
 refine .alloc rfl rfl rfl rfl zr59 (fun b10 hb10 => ?_)
 refine .S sz59 ?_
 refine .P ?_
 refine .nil (.seq (.seq (.seq (.region (.P2 ?_)))))
 refine .nil (.seq (.cond_false rfl (.skip (.seq (.seq (.block (.seq (.region (.P3 ?_)))))))))
 iterate 3 refine .O ?_
 refine .P2 ?_
 refine .nil (.seq (.cond_false rfl (.seq (.region (.P3 ?_)))))
 iterate 3 refine .O ?_
 refine .P2 ?_
 refine .nil (.seq (.cond_false rfl (.skip (.blk (.seq (.seq (.region (.P ?_))))))))
 refine .call _ rfl rfl rfl rfl rfl rfl (fun m hm => arithmetic_3 hm.lole) ?_
 iterate 5 refine .P ?_
 refine .nil (.seq (.seq (.seq (.region ?_))))
 iterate 4 refine .P ?_
 refine .F fa59_1 ?_
 refine .indexArr rfl rfl rfl rfl underlying56 sz55 rfl rfl (by decide) ?_
 refine .L ag55 ?_
 refine .bin (v := .bool false) rfl rfl rfl rfl rfl rfl (by kernel_rfl) ?_
 refine .P ?_
 refine .nil (.seq (.cond_false rfl (.skip (.seq (.seq ?_)))))
 refine .D [(15, 0), (3, 1), (15, 0), (7, 7), (12, 0), (0, 16), (12, 0), (7, 127), (15, 255), (15, 511)] (by kernel_rfl) (by kernel_rfl) (fun base hbase hB => ?_)
 refine .F fa59_0 ?_
 refine .J ag54 ?_
 refine .P ?_
 refine .call _ rfl rfl rfl rfl rfl rfl rfl rfl rfl (fun m hm => cl_i64_1 hm.lole ha) ?_
 refine .F fa59_0 ?_
 refine .R ag54 hB ?_
 refine .P ?_
 refine .call _ rfl rfl rfl rfl rfl rfl rfl rfl rfl (fun m hm => cl_i64_1 hm.lole hb) ?_
 iterate 2 refine .P ?_
 refine .nil (.seq (.seq (.seq (.region (.P3 ?_)))))
 iterate 2 refine .O ?_
 iterate 9 refine .P ?_
 refine .nil (.seq ?_)
 refine .cond_true (by rw [eqI_eq, decide_eq_true h0]; rfl) ?_
 refine .seq (.region (.P2 ?_))
 refine .nil (.seq (.ret (.seq ?_)))
 exact .end_ rfl rfl (fun m hm => ⟨rfl, hm.ext⟩)
theorem Arith_i64_4 {a b : Int} {m : AW} (hm : m.lo ≤ m.next) (ha : Fit .i64 a) (hb : Fit .i64 b) (h0 : wr .i64 b ≠ 0) : Fc prog 19 [.int .i64 3, .int .i64 4, .int .i64 a, .int .i64 b] m fun v m' => v = .tuple ⟨[.int .i64 (wr .i64 ((wr .i64 a).tmod (wr .i64 b))), .int .i64 0]⟩ ∧ Ext m m' := by
 refine Fc.body (c := _) func19 rfl rfl rfl rfl hm ?_
 refine .seq (.region (.P2 ?_))
 refine .nil (.seq (.seq (.region (.P ?_))))
 refine .calln _ _ _ rfl rfl rfl rfl rfl rfl (fun m hm => of_i64 hm.lole) (fun x hx => ?_)
 clear hx
 refine .P3 ?_
 refine .alloc rfl rfl rfl rfl zr59 (fun b10 hb10 => ?_)
 refine .S sz59 ?_
 refine .P ?_
 refine .nil (.seq (.seq (.seq (.region (.P2 ?_)))))
 refine .nil (.seq (.cond_false rfl (.skip (.seq (.seq (.block (.seq (.region (.P3 ?_)))))))))
 iterate 3 refine .O ?_
 refine .P2 ?_
 refine .nil (.seq (.cond_false rfl (.seq (.region (.P3 ?_)))))
 iterate 3 refine .O ?_
 refine .P2 ?_
 refine .nil (.seq (.cond_false rfl (.skip (.blk (.seq (.seq (.region (.P ?_))))))))
 refine .call _ rfl rfl rfl rfl rfl rfl (fun m hm => arithmetic_4 hm.lole) ?_
 iterate 5 refine .P ?_
 refine .nil (.seq (.seq (.seq (.region ?_))))
 iterate 4 refine .P ?_
 refine .F fa59_1 ?_
 refine .indexArr rfl rfl rfl rfl underlying56 sz55 rfl rfl (by decide) ?_
 refine .L ag55 ?_
 refine .bin (v := .bool false) rfl rfl rfl rfl rfl rfl (by kernel_rfl) ?_
 refine .P ?_
 refine .nil (.seq (.cond_false rfl (.skip (.seq (.seq ?_)))))
 refine .D [(15, 0), (3, 1), (15, 0), (7, 7), (12, 0), (0, 16), (12, 0), (7, 127), (15, 255), (15, 511)] (by kernel_rfl) (by kernel_rfl) (fun base hbase hB => ?_)
 refine .F fa59_0 ?_
 refine .J ag54 ?_
 refine .P ?_
 refine .call _ rfl rfl rfl rfl rfl rfl rfl rfl rfl (fun m hm => cl_i64_1 hm.lole ha) ?_
 refine .F fa59_0 ?_
 refine .R ag54 hB ?_
 refine .P ?_
 refine .call _ rfl rfl rfl rfl rfl rfl rfl rfl rfl (fun m hm => cl_i64_1 hm.lole hb) ?_
 iterate 2 refine .P ?_
 refine .nil (.seq (.seq (.seq (.region ?_))))
 iterate 14 refine .P ?_
 refine .nil (.seq ?_)
 refine .cond_false (by rw [eqI_eq, decide_eq_false h0]; rfl) ?_
 refine .skip (.seq (.seq (.region (.P ?_))))
 refine .F fa59_1 ?_
 refine .indexArr rfl rfl rfl rfl underlying56 sz55 rfl rfl (by decide) ?_
 refine .L ag55 ?_
 refine .P2 ?_
 refine .call _ rfl rfl rfl rfl rfl rfl (fun m hm => cl_i64_6 hm.lole (Fit.wr .i64 a) (Fit.wr .i64 b) h0) ?_
 refine .P2 ?_
 refine .nil (.seq (.ret ?_))
 exact .end_ rfl rfl (fun m hm => ⟨rfl, hm.ext⟩)
theorem Arith_i64_4z {a b : Int} {m : AW} (hm : m.lo ≤ m.next) (ha : Fit .i64 a) (hb : Fit .i64 b) (h0 : wr .i64 b = 0) : Fc prog 19 [.int .i64 3, .int .i64 4, .int .i64 a, .int .i64 b] m fun v m' => v = .tuple ⟨[.int .i64 0, .int .i64 11]⟩ ∧ Ext m m' := by
 refine Fc.body (c := _) func19 rfl rfl rfl rfl hm ?_
 refine .seq (.region (.P2 ?_))
 refine .nil (.seq (.seq (.region (.P ?_))))
 refine .calln _ _ _ rfl rfl rfl rfl rfl rfl (fun m hm => of_i64 hm.lole) (fun x hx => ?_)
 clear hx
 refine .P3 ?_
 refine .alloc rfl rfl rfl rfl zr59 (fun b10 hb10 => ?_)
 refine .S sz59 ?_
 refine .P ?_
 refine .nil (.seq (.seq (.seq (.region (.P2 ?_)))))
 refine .nil (.seq (.cond_false rfl (.skip (.seq (.seq (.block (.seq (.region (.P3 ?_)))))))))
 iterate 3 refine .O ?_
 refine .P2 ?_
 refine .nil (.seq (.cond_false rfl (.seq (.region (.P3 ?_)))))
 iterate 3 refine .O ?_
 refine .P2 ?_
 refine .nil (.seq (.cond_false rfl (.skip (.blk (.seq (.seq (.region (.P ?_))))))))
 refine .call _ rfl rfl rfl rfl rfl rfl (fun m hm => arithmetic_4 hm.lole) ?_
 iterate 5 refine .P ?_
 refine .nil (.seq (.seq (.seq (.region ?_))))
 iterate 4 refine .P ?_
 refine .F fa59_1 ?_
 refine .indexArr rfl rfl rfl rfl underlying56 sz55 rfl rfl (by decide) ?_
 refine .L ag55 ?_
 refine .bin (v := .bool false) rfl rfl rfl rfl rfl rfl (by kernel_rfl) ?_
 refine .P ?_
 refine .nil (.seq (.cond_false rfl (.skip (.seq (.seq ?_)))))
 refine .D [(15, 0), (3, 1), (15, 0), (7, 7), (12, 0), (0, 16), (12, 0), (7, 127), (15, 255), (15, 511)] (by kernel_rfl) (by kernel_rfl) (fun base hbase hB => ?_)
 refine .F fa59_0 ?_
 refine .J ag54 ?_
 refine .P ?_
 refine .call _ rfl rfl rfl rfl rfl rfl rfl rfl rfl (fun m hm => cl_i64_1 hm.lole ha) ?_
 refine .F fa59_0 ?_
 refine .R ag54 hB ?_
 refine .P ?_
 refine .call _ rfl rfl rfl rfl rfl rfl rfl rfl rfl (fun m hm => cl_i64_1 hm.lole hb) ?_
 iterate 2 refine .P ?_
 refine .nil (.seq (.seq (.seq (.region ?_))))
 iterate 14 refine .P ?_
 refine .nil (.seq ?_)
 refine .cond_true (by rw [eqI_eq, decide_eq_true h0]; rfl) ?_
 refine .seq (.region (.P2 ?_))
 refine .nil (.seq (.ret (.seq ?_)))
 exact .end_ rfl rfl (fun m hm => ⟨rfl, hm.ext⟩)
theorem Arith_u8_shl_neg {a b : Int} {m : AW} (hm : m.lo ≤ m.next) (ha : Fit .i64 a) (hy : wr .i32 b < 0) : Fc prog 19 [.int .i64 1, .int .i64 8, .int .i64 a, .int .i64 b] m fun v m' => v = .tuple ⟨[.int .i64 (0), .int .i64 0]⟩ ∧ Ext m m' := by
 refine Fc.body (c := _) func19 rfl rfl rfl rfl hm ?_
 refine .seq (.region (.P2 ?_))
 refine .nil (.seq (.seq (.region (.P ?_))))
 refine .calln _ _ _ rfl rfl rfl rfl rfl rfl (fun m hm => of_u8 hm.lole) (fun x hx => ?_)
 clear hx
 refine .P3 ?_
 refine .alloc rfl rfl rfl rfl zr59 (fun b10 hb10 => ?_)
 refine .S sz59 ?_
 refine .P ?_
 refine .nil (.seq (.seq (.seq (.region (.P2 ?_)))))
 refine .nil (.seq (.cond_false rfl (.skip (.seq (.seq (.block (.seq (.region (.P3 ?_)))))))))
 refine .F fa59_2 ?_
 refine .L ag55 ?_
 refine .bin (v := .bool true) rfl rfl rfl rfl rfl rfl (by kernel_rfl) ?_
 refine .P2 ?_
 refine .nil (.seq (.cond_true rfl (.seq ?_)))
 refine .D [(13, 0), (1, 1), (15, 0), (3, 4), (15, 0), (7, 28), (12, 0), (12, 64), (12, 192), (7, 511), (15, 1023), (15, 2047)] (by kernel_rfl) (by kernel_rfl) (fun base hbase hB => ?_)
 refine .F fa59_2 ?_
 refine .R ag55 hB ?_
 refine .F fa59_0 ?_
 refine .J ag54 ?_
 refine .P ?_
 refine .call _ rfl rfl rfl rfl rfl rfl rfl rfl rfl (fun m hm => cl_u8_1 hm.lole ha) ?_
 refine .P ?_
 refine .convInt rfl rfl rfl rfl rfl underlying2 underlying21 rfl (.convInt rfl rfl rfl rfl rfl underlying21 underlying2 rfl ?_)
 refine .as 38 (.int .i64 (wr .i32 b)) rfl (congrArg (Value.int .i64) (wr64 _ _ (by decide) (by decide))) ?_
 refine .call _ rfl rfl rfl rfl rfl rfl rfl rfl rfl (fun m hm => shl_neg_u8 hm.lole (hm.has x _ (.tail _ (.head _))).1 (hm.has x _ (.tail _ (.head _))).2 hy) ?_
 iterate 2 refine .P ?_
 refine .nil (.seq (.ret (.blk (.seq ?_))))
 exact .end_ rfl rfl (fun m hm => ⟨rfl, hm.ext⟩)
theorem Arith_u8_shl_big {a b : Int} {m : AW} (hm : m.lo ≤ m.next) (ha : Fit .i64 a) (hy : 0 ≤ wr .i32 b) (hy2 : 8 ≤ wr .i32 b) : Fc prog 19 [.int .i64 1, .int .i64 8, .int .i64 a, .int .i64 b] m fun v m' => v = .tuple ⟨[.int .i64 (0), .int .i64 0]⟩ ∧ Ext m m' := by
 refine Fc.body (c := _) func19 rfl rfl rfl rfl hm ?_
 refine .seq (.region (.P2 ?_))
 refine .nil (.seq (.seq (.region (.P ?_))))
 refine .calln _ _ _ rfl rfl rfl rfl rfl rfl (fun m hm => of_u8 hm.lole) (fun x hx => ?_)
 clear hx
 refine .P3 ?_
 refine .alloc rfl rfl rfl rfl zr59 (fun b10 hb10 => ?_)
 refine .S sz59 ?_
 refine .P ?_
 refine .nil (.seq (.seq (.seq (.region (.P2 ?_)))))
 refine .nil (.seq (.cond_false rfl (.skip (.seq (.seq (.block (.seq (.region (.P3 ?_)))))))))
 refine .F fa59_2 ?_
 refine .L ag55 ?_
 refine .bin (v := .bool true) rfl rfl rfl rfl rfl rfl (by kernel_rfl) ?_
 refine .P2 ?_
 refine .nil (.seq (.cond_true rfl (.seq ?_)))
 refine .D [(13, 0), (1, 1), (15, 0), (3, 4), (15, 0), (7, 28), (12, 0), (12, 64), (12, 192), (7, 511), (15, 1023), (15, 2047)] (by kernel_rfl) (by kernel_rfl) (fun base hbase hB => ?_)
 refine .F fa59_2 ?_
 refine .R ag55 hB ?_
 refine .F fa59_0 ?_
 refine .J ag54 ?_
 refine .P ?_
 refine .call _ rfl rfl rfl rfl rfl rfl rfl rfl rfl (fun m hm => cl_u8_1 hm.lole ha) ?_
 refine .P ?_
 refine .convInt rfl rfl rfl rfl rfl underlying2 underlying21 rfl (.convInt rfl rfl rfl rfl rfl underlying21 underlying2 rfl ?_)
 refine .as 38 (.int .i64 (wr .i32 b)) rfl (congrArg (Value.int .i64) (wr64 _ _ (by decide) (by decide))) ?_
 refine .call _ rfl rfl rfl rfl rfl rfl rfl rfl rfl (fun m hm => shl_big_u8 hm.lole (hm.has x _ (.tail _ (.head _))).1 (hm.has x _ (.tail _ (.head _))).2 hy hy2) ?_
 iterate 2 refine .P ?_
 refine .nil (.seq (.ret (.blk (.seq ?_))))
 exact .end_ rfl rfl (fun m hm => ⟨rfl, hm.ext⟩)
theorem Arith_u8_shl_in {a b : Int} {m : AW} (hm : m.lo ≤ m.next) (ha : Fit .i64 a) {j : Nat} (hy : wr .i32 b = Int.ofNat j) (hj : j < 8) : Fc prog 19 [.int .i64 1, .int .i64 8, .int .i64 a, .int .i64 b] m fun v m' => v = .tuple ⟨[.int .i64 (wr .u8 (wr .u8 a * 2 ^ j)), .int .i64 0]⟩ ∧ Ext m m' := by
 refine Fc.body (c := _) func19 rfl rfl rfl rfl hm ?_
 refine .seq (.region (.P2 ?_))
 refine .nil (.seq (.seq (.region (.P ?_))))
 refine .calln _ _ _ rfl rfl rfl rfl rfl rfl (fun m hm => of_u8 hm.lole) (fun x hx => ?_)
 clear hx
 refine .P3 ?_
 refine .alloc rfl rfl rfl rfl zr59 (fun b10 hb10 => ?_)
 refine .S sz59 ?_
 refine .P ?_
 refine .nil (.seq (.seq (.seq (.region (.P2 ?_)))))
 refine .nil (.seq (.cond_false rfl (.skip (.seq (.seq (.block (.seq (.region (.P3 ?_)))))))))
 refine .F fa59_2 ?_
 refine .L ag55 ?_
 refine .bin (v := .bool true) rfl rfl rfl rfl rfl rfl (by kernel_rfl) ?_
 refine .P2 ?_
 refine .nil (.seq (.cond_true rfl (.seq ?_)))
 refine .D [(13, 0), (1, 1), (15, 0), (3, 4), (15, 0), (7, 28), (12, 0), (12, 64), (12, 192), (7, 511), (15, 1023), (15, 2047)] (by kernel_rfl) (by kernel_rfl) (fun base hbase hB => ?_)
 refine .F fa59_2 ?_
 refine .R ag55 hB ?_
 refine .F fa59_0 ?_
 refine .J ag54 ?_
 refine .P ?_
 refine .call _ rfl rfl rfl rfl rfl rfl rfl rfl rfl (fun m hm => cl_u8_1 hm.lole ha) ?_
 refine .P ?_
 refine .convInt rfl rfl rfl rfl rfl underlying2 underlying21 rfl (.convInt rfl rfl rfl rfl rfl underlying21 underlying2 rfl ?_)
 refine .as 38 (.int .i64 (Int.ofNat j)) rfl (congrArg (Value.int .i64) ((wr64 _ _ (by decide) (by decide)).trans hy)) ?_
 refine .call _ rfl rfl rfl rfl rfl rfl rfl rfl rfl (fun m hm => shl_in_u8 hm.lole (hm.has x _ (.tail _ (.head _))).1 (hm.has x _ (.tail _ (.head _))).2 (Fit.wr _ _) hj) ?_
 iterate 2 refine .P ?_
 refine .nil (.seq (.ret (.blk (.seq ?_))))
 exact .end_ rfl rfl (fun m hm => ⟨rfl, hm.ext⟩)
theorem Arith_u8_shr_neg {a b : Int} {m : AW} (hm : m.lo ≤ m.next) (ha : Fit .i64 a) (hy : wr .i32 b < 0) : Fc prog 19 [.int .i64 1, .int .i64 9, .int .i64 a, .int .i64 b] m fun v m' => v = .tuple ⟨[.int .i64 (0), .int .i64 0]⟩ ∧ Ext m m' := by
 refine Fc.body (c := _) func19 rfl rfl rfl rfl hm ?_
 refine .seq (.region (.P2 ?_))
 refine .nil (.seq (.seq (.region (.P ?_))))
 refine .calln _ _ _ rfl rfl rfl rfl rfl rfl (fun m hm => of_u8 hm.lole) (fun x hx => ?_)
 clear hx
 refine .P3 ?_
 refine .alloc rfl rfl rfl rfl zr59 (fun b10 hb10 => ?_)
 refine .S sz59 ?_
 refine .P ?_
 refine .nil (.seq (.seq (.seq (.region (.P2 ?_)))))
 refine .nil (.seq (.cond_false rfl (.skip (.seq (.seq (.block (.seq (.region (.P3 ?_)))))))))
 iterate 3 refine .O ?_
 refine .P2 ?_
 refine .nil (.seq (.cond_false rfl (.seq (.region (.P3 ?_)))))
 refine .F fa59_3 ?_
 refine .L ag55 ?_
 refine .bin (v := .bool true) rfl rfl rfl rfl rfl rfl (by kernel_rfl) ?_
 refine .P2 ?_
 refine .nil (.seq (.cond_true rfl (.seq ?_)))
 refine .D [(13, 0), (1, 1), (15, 0), (3, 4), (15, 0), (7, 28), (12, 0), (12, 64), (12, 192), (7, 511), (15, 1023), (15, 2047)] (by kernel_rfl) (by kernel_rfl) (fun base hbase hB => ?_)
 refine .F fa59_3 ?_
 refine .R ag55 hB ?_
 refine .F fa59_0 ?_
 refine .J ag54 ?_
 refine .P ?_
 refine .call _ rfl rfl rfl rfl rfl rfl rfl rfl rfl (fun m hm => cl_u8_1 hm.lole ha) ?_
 refine .P ?_
 refine .convInt rfl rfl rfl rfl rfl underlying2 underlying21 rfl (.convInt rfl rfl rfl rfl rfl underlying21 underlying2 rfl ?_)
 refine .as 56 (.int .i64 (wr .i32 b)) rfl (congrArg (Value.int .i64) (wr64 _ _ (by decide) (by decide))) ?_
 refine .call _ rfl rfl rfl rfl rfl rfl rfl rfl rfl (fun m hm => shr_neg_u8 hm.lole (hm.has x _ (.tail _ (.head _))).1 (hm.has x _ (.tail _ (.head _))).2 (Fit.wr _ _) hy) ?_
 iterate 2 refine .P ?_
 refine .nil (.seq (.ret (.blk (.seq ?_))))
 exact .end_ rfl rfl (fun m hm => ⟨rfl, hm.ext⟩)
theorem Arith_u8_shr_big {a b : Int} {m : AW} (hm : m.lo ≤ m.next) (ha : Fit .i64 a) (hy : 0 ≤ wr .i32 b) (hy2 : 8 ≤ wr .i32 b) : Fc prog 19 [.int .i64 1, .int .i64 9, .int .i64 a, .int .i64 b] m fun v m' => v = .tuple ⟨[.int .i64 (0), .int .i64 0]⟩ ∧ Ext m m' := by
 refine Fc.body (c := _) func19 rfl rfl rfl rfl hm ?_
 refine .seq (.region (.P2 ?_))
 refine .nil (.seq (.seq (.region (.P ?_))))
 refine .calln _ _ _ rfl rfl rfl rfl rfl rfl (fun m hm => of_u8 hm.lole) (fun x hx => ?_)
 clear hx
 refine .P3 ?_
 refine .alloc rfl rfl rfl rfl zr59 (fun b10 hb10 => ?_)
 refine .S sz59 ?_
 refine .P ?_
 refine .nil (.seq (.seq (.seq (.region (.P2 ?_)))))
 refine .nil (.seq (.cond_false rfl (.skip (.seq (.seq (.block (.seq (.region (.P3 ?_)))))))))
 iterate 3 refine .O ?_
 refine .P2 ?_
 refine .nil (.seq (.cond_false rfl (.seq (.region (.P3 ?_)))))
 refine .F fa59_3 ?_
 refine .L ag55 ?_
 refine .bin (v := .bool true) rfl rfl rfl rfl rfl rfl (by kernel_rfl) ?_
 refine .P2 ?_
 refine .nil (.seq (.cond_true rfl (.seq ?_)))
 refine .D [(13, 0), (1, 1), (15, 0), (3, 4), (15, 0), (7, 28), (12, 0), (12, 64), (12, 192), (7, 511), (15, 1023), (15, 2047)] (by kernel_rfl) (by kernel_rfl) (fun base hbase hB => ?_)
 refine .F fa59_3 ?_
 refine .R ag55 hB ?_
 refine .F fa59_0 ?_
 refine .J ag54 ?_
 refine .P ?_
 refine .call _ rfl rfl rfl rfl rfl rfl rfl rfl rfl (fun m hm => cl_u8_1 hm.lole ha) ?_
 refine .P ?_
 refine .convInt rfl rfl rfl rfl rfl underlying2 underlying21 rfl (.convInt rfl rfl rfl rfl rfl underlying21 underlying2 rfl ?_)
 refine .as 56 (.int .i64 (wr .i32 b)) rfl (congrArg (Value.int .i64) (wr64 _ _ (by decide) (by decide))) ?_
 refine .call _ rfl rfl rfl rfl rfl rfl rfl rfl rfl (fun m hm => shr_big_u8 hm.lole (hm.has x _ (.tail _ (.head _))).1 (hm.has x _ (.tail _ (.head _))).2 (Fit.wr _ _) hy hy2) ?_
 iterate 2 refine .P ?_
 refine .nil (.seq (.ret (.blk (.seq ?_))))
 exact .end_ rfl rfl (fun m hm => ⟨rfl, hm.ext⟩)
theorem Arith_u8_shr_in {a b : Int} {m : AW} (hm : m.lo ≤ m.next) (ha : Fit .i64 a) {j : Nat} (hy : wr .i32 b = Int.ofNat j) (hj : j < 8) : Fc prog 19 [.int .i64 1, .int .i64 9, .int .i64 a, .int .i64 b] m fun v m' => v = .tuple ⟨[.int .i64 ((wr .u8 a).fdiv (2 ^ j)), .int .i64 0]⟩ ∧ Ext m m' := by
 refine Fc.body (c := _) func19 rfl rfl rfl rfl hm ?_
 refine .seq (.region (.P2 ?_))
 refine .nil (.seq (.seq (.region (.P ?_))))
 refine .calln _ _ _ rfl rfl rfl rfl rfl rfl (fun m hm => of_u8 hm.lole) (fun x hx => ?_)
 clear hx
 refine .P3 ?_
 refine .alloc rfl rfl rfl rfl zr59 (fun b10 hb10 => ?_)
 refine .S sz59 ?_
 refine .P ?_
 refine .nil (.seq (.seq (.seq (.region (.P2 ?_)))))
 refine .nil (.seq (.cond_false rfl (.skip (.seq (.seq (.block (.seq (.region (.P3 ?_)))))))))
 iterate 3 refine .O ?_
 refine .P2 ?_
 refine .nil (.seq (.cond_false rfl (.seq (.region (.P3 ?_)))))
 refine .F fa59_3 ?_
 refine .L ag55 ?_
 refine .bin (v := .bool true) rfl rfl rfl rfl rfl rfl (by kernel_rfl) ?_
 refine .P2 ?_
 refine .nil (.seq (.cond_true rfl (.seq ?_)))
 refine .D [(13, 0), (1, 1), (15, 0), (3, 4), (15, 0), (7, 28), (12, 0), (12, 64), (12, 192), (7, 511), (15, 1023), (15, 2047)] (by kernel_rfl) (by kernel_rfl) (fun base hbase hB => ?_)
 refine .F fa59_3 ?_
 refine .R ag55 hB ?_
 refine .F fa59_0 ?_
 refine .J ag54 ?_
 refine .P ?_
 refine .call _ rfl rfl rfl rfl rfl rfl rfl rfl rfl (fun m hm => cl_u8_1 hm.lole ha) ?_
 refine .P ?_
 refine .convInt rfl rfl rfl rfl rfl underlying2 underlying21 rfl (.convInt rfl rfl rfl rfl rfl underlying21 underlying2 rfl ?_)
 refine .as 56 (.int .i64 (Int.ofNat j)) rfl (congrArg (Value.int .i64) ((wr64 _ _ (by decide) (by decide)).trans hy)) ?_
 refine .call _ rfl rfl rfl rfl rfl rfl rfl rfl rfl (fun m hm => shr_in_u8 hm.lole (hm.has x _ (.tail _ (.head _))).1 (hm.has x _ (.tail _ (.head _))).2 (Fit.wr _ _) hj) ?_
 iterate 2 refine .P ?_
 refine .nil (.seq (.ret (.blk (.seq ?_))))
 exact .end_ rfl rfl (fun m hm => ⟨rfl, hm.ext⟩)
theorem Arith_i32_shl_neg {a b : Int} {m : AW} (hm : m.lo ≤ m.next) (ha : Fit .i64 a) (hy : wr .i32 b < 0) : Fc prog 19 [.int .i64 2, .int .i64 8, .int .i64 a, .int .i64 b] m fun v m' => v = .tuple ⟨[.int .i64 (0), .int .i64 0]⟩ ∧ Ext m m' := by
 refine Fc.body (c := _) func19 rfl rfl rfl rfl hm ?_
 refine .seq (.region (.P2 ?_))
 refine .nil (.seq (.seq (.region (.P ?_))))
 refine .calln _ _ _ rfl rfl rfl rfl rfl rfl (fun m hm => of_i32 hm.lole) (fun x hx => ?_)
 clear hx
 refine .P3 ?_
 refine .alloc rfl rfl rfl rfl zr59 (fun b10 hb10 => ?_)
 refine .S sz59 ?_
 refine .P ?_
 refine .nil (.seq (.seq (.seq (.region (.P2 ?_)))))
 refine .nil (.seq (.cond_false rfl (.skip (.seq (.seq (.block (.seq (.region (.P3 ?_)))))))))
 refine .F fa59_2 ?_
 refine .L ag55 ?_
 refine .bin (v := .bool true) rfl rfl rfl rfl rfl rfl (by kernel_rfl) ?_
 refine .P2 ?_
 refine .nil (.seq (.cond_true rfl (.seq ?_)))
 refine .D [(13, 0), (1, 1), (15, 0), (3, 4), (15, 0), (7, 28), (12, 0), (12, 64), (12, 192), (7, 511), (15, 1023), (15, 2047)] (by kernel_rfl) (by kernel_rfl) (fun base hbase hB => ?_)
 refine .F fa59_2 ?_
 refine .R ag55 hB ?_
 refine .F fa59_0 ?_
 refine .J ag54 ?_
 refine .P ?_
 refine .call _ rfl rfl rfl rfl rfl rfl rfl rfl rfl (fun m hm => cl_i32_1 hm.lole ha) ?_
 refine .P ?_
 refine .convInt rfl rfl rfl rfl rfl underlying2 underlying21 rfl (.convInt rfl rfl rfl rfl rfl underlying21 underlying2 rfl ?_)
 refine .as 38 (.int .i64 (wr .i32 b)) rfl (congrArg (Value.int .i64) (wr64 _ _ (by decide) (by decide))) ?_
 refine .call _ rfl rfl rfl rfl rfl rfl rfl rfl rfl (fun m hm => shl_neg_i32 hm.lole (hm.has x _ (.tail _ (.head _))).1 (hm.has x _ (.tail _ (.head _))).2 hy) ?_
 iterate 2 refine .P ?_
 refine .nil (.seq (.ret (.blk (.seq ?_))))
 exact .end_ rfl rfl (fun m hm => ⟨rfl, hm.ext⟩)
theorem Arith_i32_shl_big {a b : Int} {m : AW} (hm : m.lo ≤ m.next) (ha : Fit .i64 a) (hy : 0 ≤ wr .i32 b) (hy2 : 32 ≤ wr .i32 b) : Fc prog 19 [.int .i64 2, .int .i64 8, .int .i64 a, .int .i64 b] m fun v m' => v = .tuple ⟨[.int .i64 (0), .int .i64 0]⟩ ∧ Ext m m' := by
 refine Fc.body (c := _) func19 rfl rfl rfl rfl hm ?_
 refine .seq (.region (.P2 ?_))
 refine .nil (.seq (.seq (.region (.P ?_))))
 refine .calln _ _ _ rfl rfl rfl rfl rfl rfl (fun m hm => of_i32 hm.lole) (fun x hx => ?_)
 clear hx
 refine .P3 ?_
 refine .alloc rfl rfl rfl rfl zr59 (fun b10 hb10 => ?_)
 refine .S sz59 ?_
 refine .P ?_
 refine .nil (.seq (.seq (.seq (.region (.P2 ?_)))))
 refine .nil (.seq (.cond_false rfl (.skip (.seq (.seq (.block (.seq (.region (.P3 ?_)))))))))
 refine .F fa59_2 ?_
 refine .L ag55 ?_
 refine .bin (v := .bool true) rfl rfl rfl rfl rfl rfl (by kernel_rfl) ?_
 refine .P2 ?_
 refine .nil (.seq (.cond_true rfl (.seq ?_)))
 refine .D [(13, 0), (1, 1), (15, 0), (3, 4), (15, 0), (7, 28), (12, 0), (12, 64), (12, 192), (7, 511), (15, 1023), (15, 2047)] (by kernel_rfl) (by kernel_rfl) (fun base hbase hB => ?_)
 refine .F fa59_2 ?_
 refine .R ag55 hB ?_
 refine .F fa59_0 ?_
 refine .J ag54 ?_
 refine .P ?_
 refine .call _ rfl rfl rfl rfl rfl rfl rfl rfl rfl (fun m hm => cl_i32_1 hm.lole ha) ?_
 refine .P ?_
 refine .convInt rfl rfl rfl rfl rfl underlying2 underlying21 rfl (.convInt rfl rfl rfl rfl rfl underlying21 underlying2 rfl ?_)
 refine .as 38 (.int .i64 (wr .i32 b)) rfl (congrArg (Value.int .i64) (wr64 _ _ (by decide) (by decide))) ?_
 refine .call _ rfl rfl rfl rfl rfl rfl rfl rfl rfl (fun m hm => shl_big_i32 hm.lole (hm.has x _ (.tail _ (.head _))).1 (hm.has x _ (.tail _ (.head _))).2 hy hy2) ?_
 iterate 2 refine .P ?_
 refine .nil (.seq (.ret (.blk (.seq ?_))))
 exact .end_ rfl rfl (fun m hm => ⟨rfl, hm.ext⟩)
theorem Arith_i32_shl_in {a b : Int} {m : AW} (hm : m.lo ≤ m.next) (ha : Fit .i64 a) {j : Nat} (hy : wr .i32 b = Int.ofNat j) (hj : j < 32) : Fc prog 19 [.int .i64 2, .int .i64 8, .int .i64 a, .int .i64 b] m fun v m' => v = .tuple ⟨[.int .i64 (wr .i32 (wr .i32 a * 2 ^ j)), .int .i64 0]⟩ ∧ Ext m m' := by
 refine Fc.body (c := _) func19 rfl rfl rfl rfl hm ?_
 refine .seq (.region (.P2 ?_))
 refine .nil (.seq (.seq (.region (.P ?_))))
 refine .calln _ _ _ rfl rfl rfl rfl rfl rfl (fun m hm => of_i32 hm.lole) (fun x hx => ?_)
 clear hx
 refine .P3 ?_
 refine .alloc rfl rfl rfl rfl zr59 (fun b10 hb10 => ?_)
 refine .S sz59 ?_
 refine .P ?_
 refine .nil (.seq (.seq (.seq (.region (.P2 ?_)))))
 refine .nil (.seq (.cond_false rfl (.skip (.seq (.seq (.block (.seq (.region (.P3 ?_)))))))))
 refine .F fa59_2 ?_
 refine .L ag55 ?_
 refine .bin (v := .bool true) rfl rfl rfl rfl rfl rfl (by kernel_rfl) ?_
 refine .P2 ?_
 refine .nil (.seq (.cond_true rfl (.seq ?_)))
 refine .D [(13, 0), (1, 1), (15, 0), (3, 4), (15, 0), (7, 28), (12, 0), (12, 64), (12, 192), (7, 511), (15, 1023), (15, 2047)] (by kernel_rfl) (by kernel_rfl) (fun base hbase hB => ?_)
 refine .F fa59_2 ?_
 refine .R ag55 hB ?_
 refine .F fa59_0 ?_
 refine .J ag54 ?_
 refine .P ?_
 refine .call _ rfl rfl rfl rfl rfl rfl rfl rfl rfl (fun m hm => cl_i32_1 hm.lole ha) ?_
 refine .P ?_
 refine .convInt rfl rfl rfl rfl rfl underlying2 underlying21 rfl (.convInt rfl rfl rfl rfl rfl underlying21 underlying2 rfl ?_)
 refine .as 38 (.int .i64 (Int.ofNat j)) rfl (congrArg (Value.int .i64) ((wr64 _ _ (by decide) (by decide)).trans hy)) ?_
 refine .call _ rfl rfl rfl rfl rfl rfl rfl rfl rfl (fun m hm => shl_in_i32 hm.lole (hm.has x _ (.tail _ (.head _))).1 (hm.has x _ (.tail _ (.head _))).2 (Fit.wr _ _) hj) ?_
 iterate 2 refine .P ?_
 refine .nil (.seq (.ret (.blk (.seq ?_))))
 exact .end_ rfl rfl (fun m hm => ⟨rfl, hm.ext⟩)
theorem Arith_i32_shr_neg {a b : Int} {m : AW} (hm : m.lo ≤ m.next) (ha : Fit .i64 a) (hy : wr .i32 b < 0) : Fc prog 19 [.int .i64 2, .int .i64 9, .int .i64 a, .int .i64 b] m fun v m' => v = .tuple ⟨[.int .i64 (if wr .i32 a < 0 then -1 else 0), .int .i64 0]⟩ ∧ Ext m m' := by
 refine Fc.body (c := _) func19 rfl rfl rfl rfl hm ?_
 refine .seq (.region (.P2 ?_))
 refine .nil (.seq (.seq (.region (.P ?_))))
 refine .calln _ _ _ rfl rfl rfl rfl rfl rfl (fun m hm => of_i32 hm.lole) (fun x hx => ?_)
 clear hx
 refine .P3 ?_
 refine .alloc rfl rfl rfl rfl zr59 (fun b10 hb10 => ?_)
 refine .S sz59 ?_
 refine .P ?_
 refine .nil (.seq (.seq (.seq (.region (.P2 ?_)))))
 refine .nil (.seq (.cond_false rfl (.skip (.seq (.seq (.block (.seq (.region (.P3 ?_)))))))))
 iterate 3 refine .O ?_
 refine .P2 ?_
 refine .nil (.seq (.cond_false rfl (.seq (.region (.P3 ?_)))))
 refine .F fa59_3 ?_
 refine .L ag55 ?_
 refine .bin (v := .bool true) rfl rfl rfl rfl rfl rfl (by kernel_rfl) ?_
 refine .P2 ?_
 refine .nil (.seq (.cond_true rfl (.seq ?_)))
 refine .D [(13, 0), (1, 1), (15, 0), (3, 4), (15, 0), (7, 28), (12, 0), (12, 64), (12, 192), (7, 511), (15, 1023), (15, 2047)] (by kernel_rfl) (by kernel_rfl) (fun base hbase hB => ?_)
 refine .F fa59_3 ?_
 refine .R ag55 hB ?_
 refine .F fa59_0 ?_
 refine .J ag54 ?_
 refine .P ?_
 refine .call _ rfl rfl rfl rfl rfl rfl rfl rfl rfl (fun m hm => cl_i32_1 hm.lole ha) ?_
 refine .P ?_
 refine .convInt rfl rfl rfl rfl rfl underlying2 underlying21 rfl (.convInt rfl rfl rfl rfl rfl underlying21 underlying2 rfl ?_)
 refine .as 56 (.int .i64 (wr .i32 b)) rfl (congrArg (Value.int .i64) (wr64 _ _ (by decide) (by decide))) ?_
 refine .call _ rfl rfl rfl rfl rfl rfl rfl rfl rfl (fun m hm => shr_neg_i32 hm.lole (hm.has x _ (.tail _ (.head _))).1 (hm.has x _ (.tail _ (.head _))).2 (Fit.wr _ _) hy) ?_
 iterate 2 refine .P ?_
 refine .nil (.seq (.ret (.blk (.seq ?_))))
 exact .end_ rfl rfl (fun m hm => ⟨rfl, hm.ext⟩)
theorem Arith_i32_shr_big {a b : Int} {m : AW} (hm : m.lo ≤ m.next) (ha : Fit .i64 a) (hy : 0 ≤ wr .i32 b) (hy2 : 32 ≤ wr .i32 b) : Fc prog 19 [.int .i64 2, .int .i64 9, .int .i64 a, .int .i64 b] m fun v m' => v = .tuple ⟨[.int .i64 (if wr .i32 a < 0 then -1 else 0), .int .i64 0]⟩ ∧ Ext m m' := by
 refine Fc.body (c := _) func19 rfl rfl rfl rfl hm ?_
 refine .seq (.region (.P2 ?_))
 refine .nil (.seq (.seq (.region (.P ?_))))
 refine .calln _ _ _ rfl rfl rfl rfl rfl rfl (fun m hm => of_i32 hm.lole) (fun x hx => ?_)
 clear hx
 refine .P3 ?_
 refine .alloc rfl rfl rfl rfl zr59 (fun b10 hb10 => ?_)
 refine .S sz59 ?_
 refine .P ?_
 refine .nil (.seq (.seq (.seq (.region (.P2 ?_)))))
 refine .nil (.seq (.cond_false rfl (.skip (.seq (.seq (.block (.seq (.region (.P3 ?_)))))))))
 iterate 3 refine .O ?_
 refine .P2 ?_
 refine .nil (.seq (.cond_false rfl (.seq (.region (.P3 ?_)))))
 refine .F fa59_3 ?_
 refine .L ag55 ?_
 refine .bin (v := .bool true) rfl rfl rfl rfl rfl rfl (by kernel_rfl) ?_
 refine .P2 ?_
 refine .nil (.seq (.cond_true rfl (.seq ?_)))
 refine .D [(13, 0), (1, 1), (15, 0), (3, 4), (15, 0), (7, 28), (12, 0), (12, 64), (12, 192), (7, 511), (15, 1023), (15, 2047)] (by kernel_rfl) (by kernel_rfl) (fun base hbase hB => ?_)
 refine .F fa59_3 ?_
 refine .R ag55 hB ?_
 refine .F fa59_0 ?_
 refine .J ag54 ?_
 refine .P ?_
 refine .call _ rfl rfl rfl rfl rfl rfl rfl rfl rfl (fun m hm => cl_i32_1 hm.lole ha) ?_
 refine .P ?_
 refine .convInt rfl rfl rfl rfl rfl underlying2 underlying21 rfl (.convInt rfl rfl rfl rfl rfl underlying21 underlying2 rfl ?_)
 refine .as 56 (.int .i64 (wr .i32 b)) rfl (congrArg (Value.int .i64) (wr64 _ _ (by decide) (by decide))) ?_
 refine .call _ rfl rfl rfl rfl rfl rfl rfl rfl rfl (fun m hm => shr_big_i32 hm.lole (hm.has x _ (.tail _ (.head _))).1 (hm.has x _ (.tail _ (.head _))).2 (Fit.wr _ _) hy hy2) ?_
 iterate 2 refine .P ?_
 refine .nil (.seq (.ret (.blk (.seq ?_))))
 exact .end_ rfl rfl (fun m hm => ⟨rfl, hm.ext⟩)
theorem Arith_i32_shr_in {a b : Int} {m : AW} (hm : m.lo ≤ m.next) (ha : Fit .i64 a) {j : Nat} (hy : wr .i32 b = Int.ofNat j) (hj : j < 32) : Fc prog 19 [.int .i64 2, .int .i64 9, .int .i64 a, .int .i64 b] m fun v m' => v = .tuple ⟨[.int .i64 ((wr .i32 a).fdiv (2 ^ j)), .int .i64 0]⟩ ∧ Ext m m' := by
 refine Fc.body (c := _) func19 rfl rfl rfl rfl hm ?_
 refine .seq (.region (.P2 ?_))
 refine .nil (.seq (.seq (.region (.P ?_))))
 refine .calln _ _ _ rfl rfl rfl rfl rfl rfl (fun m hm => of_i32 hm.lole) (fun x hx => ?_)
 clear hx
 refine .P3 ?_
 refine .alloc rfl rfl rfl rfl zr59 (fun b10 hb10 => ?_)
 refine .S sz59 ?_
 refine .P ?_
 refine .nil (.seq (.seq (.seq (.region (.P2 ?_)))))
 refine .nil (.seq (.cond_false rfl (.skip (.seq (.seq (.block (.seq (.region (.P3 ?_)))))))))
 iterate 3 refine .O ?_
 refine .P2 ?_
 refine .nil (.seq (.cond_false rfl (.seq (.region (.P3 ?_)))))
 refine .F fa59_3 ?_
 refine .L ag55 ?_
 refine .bin (v := .bool true) rfl rfl rfl rfl rfl rfl (by kernel_rfl) ?_
 refine .P2 ?_
 refine .nil (.seq (.cond_true rfl (.seq ?_)))
 refine .D [(13, 0), (1, 1), (15, 0), (3, 4), (15, 0), (7, 28), (12, 0), (12, 64), (12, 192), (7, 511), (15, 1023), (15, 2047)] (by kernel_rfl) (by kernel_rfl) (fun base hbase hB => ?_)
 refine .F fa59_3 ?_
 refine .R ag55 hB ?_
 refine .F fa59_0 ?_
 refine .J ag54 ?_
 refine .P ?_
 refine .call _ rfl rfl rfl rfl rfl rfl rfl rfl rfl (fun m hm => cl_i32_1 hm.lole ha) ?_
 refine .P ?_
 refine .convInt rfl rfl rfl rfl rfl underlying2 underlying21 rfl (.convInt rfl rfl rfl rfl rfl underlying21 underlying2 rfl ?_)
 refine .as 56 (.int .i64 (Int.ofNat j)) rfl (congrArg (Value.int .i64) ((wr64 _ _ (by decide) (by decide)).trans hy)) ?_
 refine .call _ rfl rfl rfl rfl rfl rfl rfl rfl rfl (fun m hm => shr_in_i32 hm.lole (hm.has x _ (.tail _ (.head _))).1 (hm.has x _ (.tail _ (.head _))).2 (Fit.wr _ _) hj) ?_
 iterate 2 refine .P ?_
 refine .nil (.seq (.ret (.blk (.seq ?_))))
 exact .end_ rfl rfl (fun m hm => ⟨rfl, hm.ext⟩)
theorem Arith_i64_shl_neg {a b : Int} {m : AW} (hm : m.lo ≤ m.next) (ha : Fit .i64 a) (hy : wr .i32 b < 0) : Fc prog 19 [.int .i64 3, .int .i64 8, .int .i64 a, .int .i64 b] m fun v m' => v = .tuple ⟨[.int .i64 (0), .int .i64 0]⟩ ∧ Ext m m' := by
 refine Fc.body (c := _) func19 rfl rfl rfl rfl hm ?_
 refine .seq (.region (.P2 ?_))
 refine .nil (.seq (.seq (.region (.P ?_))))
 refine .calln _ _ _ rfl rfl rfl rfl rfl rfl (fun m hm => of_i64 hm.lole) (fun x hx => ?_)
 clear hx
 refine .P3 ?_
 refine .alloc rfl rfl rfl rfl zr59 (fun b10 hb10 => ?_)
 refine .S sz59 ?_
 refine .P ?_
 refine .nil (.seq (.seq (.seq (.region (.P2 ?_)))))
 refine .nil (.seq (.cond_false rfl (.skip (.seq (.seq (.block (.seq (.region (.P3 ?_)))))))))
 refine .F fa59_2 ?_
 refine .L ag55 ?_
 refine .bin (v := .bool true) rfl rfl rfl rfl rfl rfl (by kernel_rfl) ?_
 refine .P2 ?_
 refine .nil (.seq (.cond_true rfl (.seq ?_)))
 refine .D [(13, 0), (1, 1), (15, 0), (3, 4), (15, 0), (7, 28), (12, 0), (12, 64), (12, 192), (7, 511), (15, 1023), (15, 2047)] (by kernel_rfl) (by kernel_rfl) (fun base hbase hB => ?_)
 refine .F fa59_2 ?_
 refine .R ag55 hB ?_
 refine .F fa59_0 ?_
 refine .J ag54 ?_
 refine .P ?_
 refine .call _ rfl rfl rfl rfl rfl rfl rfl rfl rfl (fun m hm => cl_i64_1 hm.lole ha) ?_
 refine .P ?_
 refine .convInt rfl rfl rfl rfl rfl underlying2 underlying21 rfl (.convInt rfl rfl rfl rfl rfl underlying21 underlying2 rfl ?_)
 refine .as 38 (.int .i64 (wr .i32 b)) rfl (congrArg (Value.int .i64) (wr64 _ _ (by decide) (by decide))) ?_
 refine .call _ rfl rfl rfl rfl rfl rfl rfl rfl rfl (fun m hm => shl_neg_i64 hm.lole (hm.has x _ (.tail _ (.head _))).1 (hm.has x _ (.tail _ (.head _))).2 hy) ?_
 iterate 2 refine .P ?_
 refine .nil (.seq (.ret (.blk (.seq ?_))))
 exact .end_ rfl rfl (fun m hm => ⟨rfl, hm.ext⟩)
theorem Arith_i64_shl_big {a b : Int} {m : AW} (hm : m.lo ≤ m.next) (ha : Fit .i64 a) (hy : 0 ≤ wr .i32 b) (hy2 : 64 ≤ wr .i32 b) : Fc prog 19 [.int .i64 3, .int .i64 8, .int .i64 a, .int .i64 b] m fun v m' => v = .tuple ⟨[.int .i64 (0), .int .i64 0]⟩ ∧ Ext m m' := by
 refine Fc.body (c := _) func19 rfl rfl rfl rfl hm ?_
 refine .seq (.region (.P2 ?_))
 refine .nil (.seq (.seq (.region (.P ?_))))
 refine .calln _ _ _ rfl rfl rfl rfl rfl rfl (fun m hm => of_i64 hm.lole) (fun x hx => ?_)
 clear hx
 refine .P3 ?_
 refine .alloc rfl rfl rfl rfl zr59 (fun b10 hb10 => ?_)
 refine .S sz59 ?_
 refine .P ?_
 refine .nil (.seq (.seq (.seq (.region (.P2 ?_)))))
 refine .nil (.seq (.cond_false rfl (.skip (.seq (.seq (.block (.seq (.region (.P3 ?_)))))))))
 refine .F fa59_2 ?_
 refine .L ag55 ?_
 refine .bin (v := .bool true) rfl rfl rfl rfl rfl rfl (by kernel_rfl) ?_
 refine .P2 ?_
 refine .nil (.seq (.cond_true rfl (.seq ?_)))
 refine .D [(13, 0), (1, 1), (15, 0), (3, 4), (15, 0), (7, 28), (12, 0), (12, 64), (12, 192), (7, 511), (15, 1023), (15, 2047)] (by kernel_rfl) (by kernel_rfl) (fun base hbase hB => ?_)
 refine .F fa59_2 ?_
 refine .R ag55 hB ?_
 refine .F fa59_0 ?_
 refine .J ag54 ?_
 refine .P ?_
 refine .call _ rfl rfl rfl rfl rfl rfl rfl rfl rfl (fun m hm => cl_i64_1 hm.lole ha) ?_
 refine .P ?_
 refine .convInt rfl rfl rfl rfl rfl underlying2 underlying21 rfl (.convInt rfl rfl rfl rfl rfl underlying21 underlying2 rfl ?_)
 refine .as 38 (.int .i64 (wr .i32 b)) rfl (congrArg (Value.int .i64) (wr64 _ _ (by decide) (by decide))) ?_
 refine .call _ rfl rfl rfl rfl rfl rfl rfl rfl rfl (fun m hm => shl_big_i64 hm.lole (hm.has x _ (.tail _ (.head _))).1 (hm.has x _ (.tail _ (.head _))).2 hy hy2) ?_
 iterate 2 refine .P ?_
 refine .nil (.seq (.ret (.blk (.seq ?_))))
 exact .end_ rfl rfl (fun m hm => ⟨rfl, hm.ext⟩)
theorem Arith_i64_shl_in {a b : Int} {m : AW} (hm : m.lo ≤ m.next) (ha : Fit .i64 a) {j : Nat} (hy : wr .i32 b = Int.ofNat j) (hj : j < 64) : Fc prog 19 [.int .i64 3, .int .i64 8, .int .i64 a, .int .i64 b] m fun v m' => v = .tuple ⟨[.int .i64 (wr .i64 (wr .i64 a * 2 ^ j)), .int .i64 0]⟩ ∧ Ext m m' := by
 refine Fc.body (c := _) func19 rfl rfl rfl rfl hm ?_
 refine .seq (.region (.P2 ?_))
 refine .nil (.seq (.seq (.region (.P ?_))))
 refine .calln _ _ _ rfl rfl rfl rfl rfl rfl (fun m hm => of_i64 hm.lole) (fun x hx => ?_)
 clear hx
 refine .P3 ?_
 refine .alloc rfl rfl rfl rfl zr59 (fun b10 hb10 => ?_)
 refine .S sz59 ?_
 refine .P ?_
 refine .nil (.seq (.seq (.seq (.region (.P2 ?_)))))
 refine .nil (.seq (.cond_false rfl (.skip (.seq (.seq (.block (.seq (.region (.P3 ?_)))))))))
 refine .F fa59_2 ?_
 refine .L ag55 ?_
 refine .bin (v := .bool true) rfl rfl rfl rfl rfl rfl (by kernel_rfl) ?_
 refine .P2 ?_
 refine .nil (.seq (.cond_true rfl (.seq ?_)))
 refine .D [(13, 0), (1, 1), (15, 0), (3, 4), (15, 0), (7, 28), (12, 0), (12, 64), (12, 192), (7, 511), (15, 1023), (15, 2047)] (by kernel_rfl) (by kernel_rfl) (fun base hbase hB => ?_)
 refine .F fa59_2 ?_
 refine .R ag55 hB ?_
 refine .F fa59_0 ?_
 refine .J ag54 ?_
 refine .P ?_
 refine .call _ rfl rfl rfl rfl rfl rfl rfl rfl rfl (fun m hm => cl_i64_1 hm.lole ha) ?_
 refine .P ?_
 refine .convInt rfl rfl rfl rfl rfl underlying2 underlying21 rfl (.convInt rfl rfl rfl rfl rfl underlying21 underlying2 rfl ?_)
 refine .as 38 (.int .i64 (Int.ofNat j)) rfl (congrArg (Value.int .i64) ((wr64 _ _ (by decide) (by decide)).trans hy)) ?_
 refine .call _ rfl rfl rfl rfl rfl rfl rfl rfl rfl (fun m hm => shl_in_i64 hm.lole (hm.has x _ (.tail _ (.head _))).1 (hm.has x _ (.tail _ (.head _))).2 (Fit.wr _ _) hj) ?_
 iterate 2 refine .P ?_
 refine .nil (.seq (.ret (.blk (.seq ?_))))
 exact .end_ rfl rfl (fun m hm => ⟨rfl, hm.ext⟩)
theorem Arith_i64_shr_neg {a b : Int} {m : AW} (hm : m.lo ≤ m.next) (ha : Fit .i64 a) (hy : wr .i32 b < 0) : Fc prog 19 [.int .i64 3, .int .i64 9, .int .i64 a, .int .i64 b] m fun v m' => v = .tuple ⟨[.int .i64 (if wr .i64 a < 0 then -1 else 0), .int .i64 0]⟩ ∧ Ext m m' := by
 refine Fc.body (c := _) func19 rfl rfl rfl rfl hm ?_
 refine .seq (.region (.P2 ?_))
 refine .nil (.seq (.seq (.region (.P ?_))))
 refine .calln _ _ _ rfl rfl rfl rfl rfl rfl (fun m hm => of_i64 hm.lole) (fun x hx => ?_)
 clear hx
 refine .P3 ?_
 refine .alloc rfl rfl rfl rfl zr59 (fun b10 hb10 => ?_)
 refine .S sz59 ?_
 refine .P ?_
 refine .nil (.seq (.seq (.seq (.region (.P2 ?_)))))
 refine .nil (.seq (.cond_false rfl (.skip (.seq (.seq (.block (.seq (.region (.P3 ?_)))))))))
 iterate 3 refine .O ?_
 refine .P2 ?_
 refine .nil (.seq (.cond_false rfl (.seq (.region (.P3 ?_)))))
 refine .F fa59_3 ?_
 refine .L ag55 ?_
 refine .bin (v := .bool true) rfl rfl rfl rfl rfl rfl (by kernel_rfl) ?_
 refine .P2 ?_
 refine .nil (.seq (.cond_true rfl (.seq ?_)))
 refine .D [(13, 0), (1, 1), (15, 0), (3, 4), (15, 0), (7, 28), (12, 0), (12, 64), (12, 192), (7, 511), (15, 1023), (15, 2047)] (by kernel_rfl) (by kernel_rfl) (fun base hbase hB => ?_)
 refine .F fa59_3 ?_
 refine .R ag55 hB ?_
 refine .F fa59_0 ?_
 refine .J ag54 ?_
 refine .P ?_
 refine .call _ rfl rfl rfl rfl rfl rfl rfl rfl rfl (fun m hm => cl_i64_1 hm.lole ha) ?_
 refine .P ?_
 refine .convInt rfl rfl rfl rfl rfl underlying2 underlying21 rfl (.convInt rfl rfl rfl rfl rfl underlying21 underlying2 rfl ?_)
 refine .as 56 (.int .i64 (wr .i32 b)) rfl (congrArg (Value.int .i64) (wr64 _ _ (by decide) (by decide))) ?_
 refine .call _ rfl rfl rfl rfl rfl rfl rfl rfl rfl (fun m hm => shr_neg_i64 hm.lole (hm.has x _ (.tail _ (.head _))).1 (hm.has x _ (.tail _ (.head _))).2 (Fit.wr _ _) hy) ?_
 iterate 2 refine .P ?_
 refine .nil (.seq (.ret (.blk (.seq ?_))))
 exact .end_ rfl rfl (fun m hm => ⟨rfl, hm.ext⟩)
theorem Arith_i64_shr_big {a b : Int} {m : AW} (hm : m.lo ≤ m.next) (ha : Fit .i64 a) (hy : 0 ≤ wr .i32 b) (hy2 : 64 ≤ wr .i32 b) : Fc prog 19 [.int .i64 3, .int .i64 9, .int .i64 a, .int .i64 b] m fun v m' => v = .tuple ⟨[.int .i64 (if wr .i64 a < 0 then -1 else 0), .int .i64 0]⟩ ∧ Ext m m' := by
 refine Fc.body (c := _) func19 rfl rfl rfl rfl hm ?_
 refine .seq (.region (.P2 ?_))
 refine .nil (.seq (.seq (.region (.P ?_))))
 refine .calln _ _ _ rfl rfl rfl rfl rfl rfl (fun m hm => of_i64 hm.lole) (fun x hx => ?_)
 clear hx
 refine .P3 ?_
 refine .alloc rfl rfl rfl rfl zr59 (fun b10 hb10 => ?_)
 refine .S sz59 ?_
 refine .P ?_
 refine .nil (.seq (.seq (.seq (.region (.P2 ?_)))))
 refine .nil (.seq (.cond_false rfl (.skip (.seq (.seq (.block (.seq (.region (.P3 ?_)))))))))
 iterate 3 refine .O ?_
 refine .P2 ?_
 refine .nil (.seq (.cond_false rfl (.seq (.region (.P3 ?_)))))
 refine .F fa59_3 ?_
 refine .L ag55 ?_
 refine .bin (v := .bool true) rfl rfl rfl rfl rfl rfl (by kernel_rfl) ?_
 refine .P2 ?_
 refine .nil (.seq (.cond_true rfl (.seq ?_)))
 refine .D [(13, 0), (1, 1), (15, 0), (3, 4), (15, 0), (7, 28), (12, 0), (12, 64), (12, 192), (7, 511), (15, 1023), (15, 2047)] (by kernel_rfl) (by kernel_rfl) (fun base hbase hB => ?_)
 refine .F fa59_3 ?_
 refine .R ag55 hB ?_
 refine .F fa59_0 ?_
 refine .J ag54 ?_
 refine .P ?_
 refine .call _ rfl rfl rfl rfl rfl rfl rfl rfl rfl (fun m hm => cl_i64_1 hm.lole ha) ?_
 refine .P ?_
 refine .convInt rfl rfl rfl rfl rfl underlying2 underlying21 rfl (.convInt rfl rfl rfl rfl rfl underlying21 underlying2 rfl ?_)
 refine .as 56 (.int .i64 (wr .i32 b)) rfl (congrArg (Value.int .i64) (wr64 _ _ (by decide) (by decide))) ?_
 refine .call _ rfl rfl rfl rfl rfl rfl rfl rfl rfl (fun m hm => shr_big_i64 hm.lole (hm.has x _ (.tail _ (.head _))).1 (hm.has x _ (.tail _ (.head _))).2 (Fit.wr _ _) hy hy2) ?_
 iterate 2 refine .P ?_
 refine .nil (.seq (.ret (.blk (.seq ?_))))
 exact .end_ rfl rfl (fun m hm => ⟨rfl, hm.ext⟩)
theorem Arith_i64_shr_in {a b : Int} {m : AW} (hm : m.lo ≤ m.next) (ha : Fit .i64 a) {j : Nat} (hy : wr .i32 b = Int.ofNat j) (hj : j < 64) : Fc prog 19 [.int .i64 3, .int .i64 9, .int .i64 a, .int .i64 b] m fun v m' => v = .tuple ⟨[.int .i64 ((wr .i64 a).fdiv (2 ^ j)), .int .i64 0]⟩ ∧ Ext m m' := by
 refine Fc.body (c := _) func19 rfl rfl rfl rfl hm ?_
 refine .seq (.region (.P2 ?_))
 refine .nil (.seq (.seq (.region (.P ?_))))
 refine .calln _ _ _ rfl rfl rfl rfl rfl rfl (fun m hm => of_i64 hm.lole) (fun x hx => ?_)
 clear hx
 refine .P3 ?_
 refine .alloc rfl rfl rfl rfl zr59 (fun b10 hb10 => ?_)
 refine .S sz59 ?_
 refine .P ?_
 refine .nil (.seq (.seq (.seq (.region (.P2 ?_)))))
 refine .nil (.seq (.cond_false rfl (.skip (.seq (.seq (.block (.seq (.region (.P3 ?_)))))))))
 iterate 3 refine .O ?_
 refine .P2 ?_
 refine .nil (.seq (.cond_false rfl (.seq (.region (.P3 ?_)))))
 refine .F fa59_3 ?_
 refine .L ag55 ?_
 refine .bin (v := .bool true) rfl rfl rfl rfl rfl rfl (by kernel_rfl) ?_
 refine .P2 ?_
 refine .nil (.seq (.cond_true rfl (.seq ?_)))
 refine .D [(13, 0), (1, 1), (15, 0), (3, 4), (15, 0), (7, 28), (12, 0), (12, 64), (12, 192), (7, 511), (15, 1023), (15, 2047)] (by kernel_rfl) (by kernel_rfl) (fun base hbase hB => ?_)
 refine .F fa59_3 ?_
 refine .R ag55 hB ?_
 refine .F fa59_0 ?_
 refine .J ag54 ?_
 refine .P ?_
 refine .call _ rfl rfl rfl rfl rfl rfl rfl rfl rfl (fun m hm => cl_i64_1 hm.lole ha) ?_
 refine .P ?_
 refine .convInt rfl rfl rfl rfl rfl underlying2 underlying21 rfl (.convInt rfl rfl rfl rfl rfl underlying21 underlying2 rfl ?_)
 refine .as 56 (.int .i64 (Int.ofNat j)) rfl (congrArg (Value.int .i64) ((wr64 _ _ (by decide) (by decide)).trans hy)) ?_
 refine .call _ rfl rfl rfl rfl rfl rfl rfl rfl rfl (fun m hm => shr_in_i64 hm.lole (hm.has x _ (.tail _ (.head _))).1 (hm.has x _ (.tail _ (.head _))).2 (Fit.wr _ _) hj) ?_
 iterate 2 refine .P ?_
 refine .nil (.seq (.ret (.blk (.seq ?_))))
 exact .end_ rfl rfl (fun m hm => ⟨rfl, hm.ext⟩)
def bitsV (b : Nat) : Int := if nanB b then 9221120237041090561 else wr .i64 (Int.ofNat b)
def w4 (n : Int) : Int := if nanB (flb n) then 9221120237041090561 else n
theorem frombits_ok {n : Int} {m : AW} : Fc prog 64 [.int .u64 n] m fun v m' => v = .float .f64 n.toNat ∧ Ext m m' :=
 Fc.extern func64 rfl (by kernel_rfl)
theorem tobits_ok {b : Nat} {m : AW} : Fc prog 66 [.float .f64 b] m fun v m' => v = .int .u64 b ∧ Ext m m' :=
 Fc.extern func66 rfl (by kernel_rfl)
theorem float_ok {n : Int} {m : AW} (hm : m.lo ≤ m.next) : Fc prog 36 [.int .i64 n] m fun v m' => v = .float .f64 (flb n) ∧ Ext m m' := by
 refine Fc.body (c := _) func36 rfl rfl rfl rfl hm ?_
 refine .seq (.region (.P ?_))
 refine .nil (.seq (.seq (.region (.P ?_))))
 refine .convInt rfl rfl rfl rfl underlying2 underlying34 rfl ?_
 refine .call _ rfl rfl rfl rfl rfl rfl (fun m hm => frombits_ok) ?_
 refine .P ?_
 refine .nil (.seq (.ret ?_))
 exact .end_ rfl rfl (fun m hm => ⟨rfl, hm.ext⟩)
theorem value_ok {n : Int} {m : AW} (hm : m.lo ≤ m.next) : Fc prog 43 [.int .i64 n] m fun v m' => v = .float .f64 (flb n) ∧ Ext m m' := by
 refine Fc.body (c := _) func43 rfl rfl rfl rfl hm ?_
 refine .seq (.region (.P ?_))
 refine .nil (.seq (.seq (.region (.P ?_))))
 refine .convInt rfl rfl rfl rfl underlying2 underlying34 rfl ?_
 refine .call _ rfl rfl rfl rfl rfl rfl (fun m hm => frombits_ok) ?_
 refine .P ?_
 refine .nil (.seq (.ret ?_))
 exact .end_ rfl rfl (fun m hm => ⟨rfl, hm.ext⟩)
theorem bits_nan {b : Nat} {m : AW} (hm : m.lo ≤ m.next) (h : nanB b = true) : Fc prog 55 [.float .f64 b] m fun v m' => v = .int .i64 9221120237041090561 ∧ Ext m m' := by
 refine Fc.body (c := _) func55 rfl rfl rfl rfl hm ?_
 refine .seq (.region (.P ?_))
 refine .nil (.seq (.seq (.seq (.region (.P3 ?_)))))
 refine .nil (.seq ?_)
 refine .cond_true (by rw [order_self, h]; rfl) ?_
 refine .seq (.region (.P ?_))
 refine .nil (.seq (.ret (.seq ?_)))
 exact .end_ rfl rfl (fun m hm => ⟨rfl, hm.ext⟩)
theorem bits_num {b : Nat} {m : AW} (hm : m.lo ≤ m.next) (h : nanB b = false) : Fc prog 55 [.float .f64 b] m fun v m' => v = .int .i64 (wr .i64 (Int.ofNat b)) ∧ Ext m m' := by
 refine Fc.body (c := _) func55 rfl rfl rfl rfl hm ?_
 refine .seq (.region (.P ?_))
 refine .nil (.seq (.seq (.seq (.region (.P3 ?_)))))
 refine .nil (.seq ?_)
 refine .cond_false (by rw [order_self, h]; rfl) ?_
 refine .skip (.seq (.seq (.region (.P ?_))))
 refine .call _ rfl rfl rfl rfl rfl rfl (fun m hm => tobits_ok) ?_
 refine .convInt rfl rfl rfl rfl underlying34 underlying2 rfl (.P ?_)
 refine .nil (.seq (.ret ?_))
 exact .end_ rfl rfl (fun m hm => ⟨rfl, hm.ext⟩)
theorem bits_ok {b : Nat} {m : AW} (hm : m.lo ≤ m.next) : Fc prog 55 [.float .f64 b] m fun v m' => v = .int .i64 (bitsV b) ∧ Ext m m' := by
 unfold bitsV
 cases h : nanB b with
 | true => exact bits_nan hm h
 | false => exact bits_num hm h
theorem bitsV_flb {n : Int} (h : Fit .i64 n) : bitsV (flb n) = w4 n := by
 unfold bitsV w4
 rw [wr_flb h]
theorem clr_1 {n : Int} {m : AW} (hm : m.lo ≤ m.next) (h : Fit .i64 n) : Fc prog 127 [.int .i64 n] m fun v m' => v = .int .i64 (w4 n) ∧ Ext m m' := by
 refine Fc.body (c := _) func127 rfl rfl rfl rfl hm ?_
 refine .seq (.region (.P ?_))
 refine .nil (.seq (.seq (.region (.P ?_))))
 refine .call _ rfl rfl rfl rfl rfl rfl (fun m hm => float_ok hm.lole) ?_
 refine .call _ rfl rfl rfl rfl rfl rfl (fun m hm => bits_ok hm.lole) ?_
 refine .P ?_
 refine .nil (.seq (.ret ?_))
 exact .end_ rfl rfl (fun m hm => ⟨congrArg (Value.int .i64) (bitsV_flb h), hm.ext⟩)
theorem isNaN_ok {n : Int} {m : AW} (hm : m.lo ≤ m.next) : Fc prog 52 [.int .i64 n] m fun v m' => v = .bool (nanB (flb n)) ∧ Ext m m' := by
 refine Fc.body (c := _) func52 rfl rfl rfl rfl hm ?_
 refine .seq (.region (.P ?_))
 refine .nil (.seq (.seq (.region (.P ?_))))
 refine .convInt rfl rfl rfl rfl underlying2 underlying34 rfl (.P ?_)
 refine .nil (.seq (.seq (.region ?_)))
 iterate 5 refine .P ?_
 refine .splitB 10 rfl (fun hs0 => ?_) (fun hs0 => ?_)
 ·refine .P ?_
  iterate 4 refine .P ?_
  refine .nil (.seq (.ret ?_))
  exact .end_ rfl rfl (fun m hm => ⟨congrArg Value.bool (nan_T hs0), hm.ext⟩)
 iterate 3 refine .O ?_
 refine .P2 ?_
 refine .nil (.seq (.ret ?_))
 exact .end_ rfl rfl (fun m hm => ⟨congrArg Value.bool (nan_F hs0), hm.ext⟩)
theorem Kind_u8 {m : AW} (hm : m.lo ≤ m.next) : Fc prog 14 [.int .i64 1] m fun v m' => v = .bool true ∧ Ext m m' := by
 refine Fc.body (c := _) func14 rfl rfl rfl rfl hm ?_
 refine .seq (.region (.P ?_))
 refine .nil (.seq (.seq (.region (.P3 ?_))))
 iterate 2 refine .O ?_
 refine .P2 ?_
 iterate 2 refine .O ?_
 refine .P2 ?_
 iterate 2 refine .O ?_
 refine .P2 ?_
 refine .nil (.seq (.ret ?_))
 exact .end_ rfl rfl (fun m hm => ⟨rfl, hm.ext⟩)
theorem RWrap_u8 {n : Int} {m : AW} (hm : m.lo ≤ m.next) (h : Fit .i64 n) : Fc prog 22 [.int .i64 1, .int .i64 n] m fun v m' => v = .int .i64 (wr .u8 n) ∧ Ext m m' := by
 refine Fc.body (c := _) func22 rfl rfl rfl rfl hm ?_
 refine .seq (.region (.P ?_))
 refine .nil (.seq (.seq (.seq (.region (.P ?_)))))
 refine .nil (.seq (.block (.seq (.region (.P2 ?_)))))
 refine .nil (.seq (.cond_true rfl (.seq (.region (.P3 ?_)))))
 refine .nil (.seq (.ret (.blk (.seq ?_))))
 exact .end_ rfl rfl (fun m hm => ⟨congrArg (Value.int .i64) (and255 _), hm.ext⟩)
theorem Kind_i32 {m : AW} (hm : m.lo ≤ m.next) : Fc prog 14 [.int .i64 2] m fun v m' => v = .bool true ∧ Ext m m' := by
 refine Fc.body (c := _) func14 rfl rfl rfl rfl hm ?_
 refine .seq (.region (.P ?_))
 refine .nil (.seq (.seq (.region ?_)))
 iterate 7 refine .P ?_
 iterate 2 refine .O ?_
 refine .P2 ?_
 iterate 2 refine .O ?_
 refine .P2 ?_
 refine .nil (.seq (.ret ?_))
 exact .end_ rfl rfl (fun m hm => ⟨rfl, hm.ext⟩)
theorem RWrap_i32 {n : Int} {m : AW} (hm : m.lo ≤ m.next) (h : Fit .i64 n) : Fc prog 22 [.int .i64 2, .int .i64 n] m fun v m' => v = .int .i64 (wr .i32 n) ∧ Ext m m' := by
 refine Fc.body (c := _) func22 rfl rfl rfl rfl hm ?_
 refine .seq (.region (.P ?_))
 refine .nil (.seq (.seq (.seq (.region (.P ?_)))))
 refine .nil (.seq (.block (.seq (.region (.P2 ?_)))))
 refine .nil (.seq (.cond_false rfl (.seq (.region (.P2 ?_)))))
 refine .nil (.seq (.cond_true rfl (.seq (.region (.P ?_)))))
 refine .convInt rfl rfl rfl rfl underlying2 underlying34 rfl (.convInt rfl rfl rfl rfl underlying34 underlying83 rfl (.convInt rfl rfl rfl rfl underlying83 underlying21 rfl (.convInt rfl rfl rfl rfl underlying21 underlying2 rfl (.P ?_))))
 refine .nil (.seq (.ret (.blk (.seq ?_))))
 exact .end_ rfl rfl (fun m hm => ⟨congrArg (Value.int .i64) ((by rw [wr64 _ _ (by decide) (by decide), wr_wr (k := .i32) (k' := .u32) (by decide), wr_wr (k := .i32) (k' := .u64) (by decide)])), hm.ext⟩)
theorem Kind_i64 {m : AW} (hm : m.lo ≤ m.next) : Fc prog 14 [.int .i64 3] m fun v m' => v = .bool true ∧ Ext m m' := by
 refine Fc.body (c := _) func14 rfl rfl rfl rfl hm ?_
 refine .seq (.region (.P ?_))
 refine .nil (.seq (.seq (.region ?_)))
 iterate 11 refine .P ?_
 iterate 2 refine .O ?_
 refine .P2 ?_
 refine .nil (.seq (.ret ?_))
 exact .end_ rfl rfl (fun m hm => ⟨rfl, hm.ext⟩)
theorem RWrap_i64 {n : Int} {m : AW} (hm : m.lo ≤ m.next) (h : Fit .i64 n) : Fc prog 22 [.int .i64 3, .int .i64 n] m fun v m' => v = .int .i64 (wr .i64 n) ∧ Ext m m' := by
 refine Fc.body (c := _) func22 rfl rfl rfl rfl hm ?_
 refine .seq (.region (.P ?_))
 refine .nil (.seq (.seq (.seq (.region (.P ?_)))))
 refine .nil (.seq (.block (.seq (.region (.P2 ?_)))))
 refine .nil (.seq (.cond_false rfl (.seq (.region (.P2 ?_)))))
 refine .nil (.seq (.cond_false rfl (.seq (.region (.P2 ?_)))))
 refine .nil (.seq (.cond_false rfl (.skip (.blk (.seq (.seq (.region (.P2 ?_))))))))
 refine .nil (.seq (.ret ?_))
 exact .end_ rfl rfl (fun m hm => ⟨congrArg (Value.int .i64) (h.symm), hm.ext⟩)
theorem Kind_real {m : AW} (hm : m.lo ≤ m.next) : Fc prog 14 [.int .i64 4] m fun v m' => v = .bool true ∧ Ext m m' := by
 refine Fc.body (c := _) func14 rfl rfl rfl rfl hm ?_
 refine .seq (.region (.P ?_))
 refine .nil (.seq (.seq (.region ?_)))
 iterate 15 refine .P ?_
 refine .nil (.seq (.ret ?_))
 exact .end_ rfl rfl (fun m hm => ⟨rfl, hm.ext⟩)
theorem RWrap_nan {n : Int} {m : AW} (hm : m.lo ≤ m.next) (h : nanB (flb n) = true) : Fc prog 22 [.int .i64 4, .int .i64 n] m fun v m' => v = .int .i64 9221120237041090561 ∧ Ext m m' := by
 refine Fc.body (c := _) func22 rfl rfl rfl rfl hm ?_
 refine .seq (.region (.P ?_))
 refine .nil (.seq (.seq (.seq (.region (.P ?_)))))
 refine .nil (.seq (.block (.seq (.region (.P2 ?_)))))
 refine .nil (.seq (.cond_false rfl (.seq (.region (.P2 ?_)))))
 refine .nil (.seq (.cond_false rfl (.seq (.region (.P2 ?_)))))
 refine .nil (.seq (.cond_true rfl (.seq (.region (.P ?_)))))
 refine .call _ rfl rfl rfl rfl rfl rfl (fun m hm => isNaN_ok hm.lole) ?_
 refine .nil (.seq ?_)
 refine .cond_true (by rw [h]; rfl) ?_
 refine .seq (.region (.P ?_))
 refine .nil (.seq (.ret (.blk (.seq ?_))))
 exact .end_ rfl rfl (fun m hm => ⟨rfl, hm.ext⟩)
theorem RWrap_num {n : Int} {m : AW} (hm : m.lo ≤ m.next) (h : nanB (flb n) = false) : Fc prog 22 [.int .i64 4, .int .i64 n] m fun v m' => v = .int .i64 n ∧ Ext m m' := by
 refine Fc.body (c := _) func22 rfl rfl rfl rfl hm ?_
 refine .seq (.region (.P ?_))
 refine .nil (.seq (.seq (.seq (.region (.P ?_)))))
 refine .nil (.seq (.block (.seq (.region (.P2 ?_)))))
 refine .nil (.seq (.cond_false rfl (.seq (.region (.P2 ?_)))))
 refine .nil (.seq (.cond_false rfl (.seq (.region (.P2 ?_)))))
 refine .nil (.seq (.cond_true rfl (.seq (.region (.P ?_)))))
 refine .call _ rfl rfl rfl rfl rfl rfl (fun m hm => isNaN_ok hm.lole) ?_
 refine .nil (.seq ?_)
 refine .cond_false (by rw [h]; rfl) ?_
 refine .skip (.blk (.seq (.seq (.region (.P2 ?_)))))
 refine .nil (.seq (.ret ?_))
 exact .end_ rfl rfl (fun m hm => ⟨rfl, hm.ext⟩)
theorem RWrap_real {n : Int} {m : AW} (hm : m.lo ≤ m.next) (_ : Fit .i64 n) : Fc prog 22 [.int .i64 4, .int .i64 n] m fun v m' => v = .int .i64 (w4 n) ∧ Ext m m' := by
 unfold w4
 cases h : nanB (flb n) with
 | true => exact RWrap_nan hm h
 | false => exact RWrap_num hm h
theorem Kind_none {kind : Int} {m : AW} (hm : m.lo ≤ m.next) (h1 : kind ≠ 1) (h2 : kind ≠ 2) (h3 : kind ≠ 3) (h4 : kind ≠ 4) : Fc prog 14 [.int .i64 kind] m fun v m' => v = .bool false ∧ Ext m m' := by
 refine Fc.body (c := _) func14 rfl rfl rfl rfl hm ?_
 refine .seq (.region (.P ?_))
 refine .nil (.seq (.seq (.region (.P ?_))))
 refine .bin (v := .bool false) rfl rfl rfl rfl rfl rfl (binS_neql h1) ?_
 refine .P2 ?_
 refine .bin (v := .bool false) rfl rfl rfl rfl rfl rfl (binS_neql h2) ?_
 refine .P3 ?_
 refine .bin (v := .bool false) rfl rfl rfl rfl rfl rfl (binS_neql h3) ?_
 refine .P3 ?_
 refine .bin (v := .bool false) rfl rfl rfl rfl rfl rfl (binS_neql h4) ?_
 refine .P2 ?_
 refine .nil (.seq (.ret ?_))
 exact .end_ rfl rfl (fun m hm => ⟨rfl, hm.ext⟩)
theorem cl_u8_and {a b : Int} {m : AW} (hm : m.lo ≤ m.next) (ha : Fit .u8 a) (hb : Fit .u8 b) : Fc prog 88 [.int .i64 a, .int .i64 b] m fun v m' => v = .int .i64 (bitV (· &&& ·) .u8 a b) ∧ Ext m m' := by
 refine Fc.body (c := _) func88 rfl rfl rfl rfl hm ?_
 refine .seq (.region (.P ?_))
 refine .nil (.seq (.seq (.region (.P ?_))))
 refine .convInt rfl rfl rfl rfl underlying2 underlying5 rfl (.P ?_)
 refine .convInt rfl rfl rfl rfl underlying2 underlying5 rfl (.P ?_)
 refine .convInt rfl rfl rfl rfl underlying5 underlying2 rfl (.P ?_)
 refine .nil (.seq (.ret ?_))
 exact .end_ rfl rfl (fun m hm => ⟨congrArg (Value.int .i64) ((by simp only [show wr .u8 a = a from ha, show wr .u8 b = b from hb]; exact wr64 _ _ (by decide) (by decide))), hm.ext⟩)
theorem cl_u8_or {a b : Int} {m : AW} (hm : m.lo ≤ m.next) (ha : Fit .u8 a) (hb : Fit .u8 b) : Fc prog 89 [.int .i64 a, .int .i64 b] m fun v m' => v = .int .i64 (bitV (· ||| ·) .u8 a b) ∧ Ext m m' := by
 refine Fc.body (c := _) func89 rfl rfl rfl rfl hm ?_
 refine .seq (.region (.P ?_))
 refine .nil (.seq (.seq (.region (.P ?_))))
 refine .convInt rfl rfl rfl rfl underlying2 underlying5 rfl (.P ?_)
 refine .convInt rfl rfl rfl rfl underlying2 underlying5 rfl (.P ?_)
 refine .convInt rfl rfl rfl rfl underlying5 underlying2 rfl (.P ?_)
 refine .nil (.seq (.ret ?_))
 exact .end_ rfl rfl (fun m hm => ⟨congrArg (Value.int .i64) ((by simp only [show wr .u8 a = a from ha, show wr .u8 b = b from hb]; exact wr64 _ _ (by decide) (by decide))), hm.ext⟩)
theorem cl_u8_xor {a b : Int} {m : AW} (hm : m.lo ≤ m.next) (ha : Fit .u8 a) (hb : Fit .u8 b) : Fc prog 90 [.int .i64 a, .int .i64 b] m fun v m' => v = .int .i64 (bitV (· ^^^ ·) .u8 a b) ∧ Ext m m' := by
 refine Fc.body (c := _) func90 rfl rfl rfl rfl hm ?_
 refine .seq (.region (.P ?_))
 refine .nil (.seq (.seq (.region (.P ?_))))
 refine .convInt rfl rfl rfl rfl underlying2 underlying5 rfl (.P ?_)
 refine .convInt rfl rfl rfl rfl underlying2 underlying5 rfl (.P ?_)
 refine .convInt rfl rfl rfl rfl underlying5 underlying2 rfl (.P ?_)
 refine .nil (.seq (.ret ?_))
 exact .end_ rfl rfl (fun m hm => ⟨congrArg (Value.int .i64) ((by simp only [show wr .u8 a = a from ha, show wr .u8 b = b from hb]; exact wr64 _ _ (by decide) (by decide))), hm.ext⟩)
theorem cl_u8_neg {a : Int} {m : AW} (hm : m.lo ≤ m.next) (ha : Fit .u8 a) : Fc prog 93 [.int .i64 a] m fun v m' => v = .int .i64 (wr .u8 (0 - a)) ∧ Ext m m' := by
 refine Fc.body (c := _) func93 rfl rfl rfl rfl hm ?_
 refine .seq (.region (.P ?_))
 refine .nil (.seq (.seq (.region (.P ?_))))
 refine .convInt rfl rfl rfl rfl underlying2 underlying5 rfl (.P ?_)
 refine .convInt rfl rfl rfl rfl underlying5 underlying2 rfl (.P ?_)
 refine .nil (.seq (.ret ?_))
 exact .end_ rfl rfl (fun m hm => ⟨congrArg (Value.int .i64) ((by simp only [show wr .u8 a = a from ha]; exact wr64 _ _ (by decide) (by decide))), hm.ext⟩)
theorem cl_u8_not {a : Int} {m : AW} (hm : m.lo ≤ m.next) (ha : Fit .u8 a) : Fc prog 94 [.int .i64 a] m fun v m' => v = .int .i64 (wr .u8 (-1 - a)) ∧ Ext m m' := by
 refine Fc.body (c := _) func94 rfl rfl rfl rfl hm ?_
 refine .seq (.region (.P ?_))
 refine .nil (.seq (.seq (.region (.P ?_))))
 refine .convInt rfl rfl rfl rfl underlying2 underlying5 rfl (.P ?_)
 refine .convInt rfl rfl rfl rfl underlying5 underlying2 rfl (.P ?_)
 refine .nil (.seq (.ret ?_))
 exact .end_ rfl rfl (fun m hm => ⟨congrArg (Value.int .i64) ((by simp only [show wr .u8 a = a from ha]; exact (wr64 _ _ (by decide) (by decide)).trans (notV .u8 a))), hm.ext⟩)
theorem cl_i32_and {a b : Int} {m : AW} (hm : m.lo ≤ m.next) (ha : Fit .i32 a) (hb : Fit .i32 b) : Fc prog 103 [.int .i64 a, .int .i64 b] m fun v m' => v = .int .i64 (bitV (· &&& ·) .i32 a b) ∧ Ext m m' := by
 refine Fc.body (c := _) func103 rfl rfl rfl rfl hm ?_
 refine .seq (.region (.P ?_))
 refine .nil (.seq (.seq (.region (.P ?_))))
 refine .convInt rfl rfl rfl rfl underlying2 underlying21 rfl (.P ?_)
 refine .convInt rfl rfl rfl rfl underlying2 underlying21 rfl (.P ?_)
 refine .convInt rfl rfl rfl rfl underlying21 underlying2 rfl (.P ?_)
 refine .nil (.seq (.ret ?_))
 exact .end_ rfl rfl (fun m hm => ⟨congrArg (Value.int .i64) ((by simp only [show wr .i32 a = a from ha, show wr .i32 b = b from hb]; exact wr64 _ _ (by decide) (by decide))), hm.ext⟩)
theorem cl_i32_or {a b : Int} {m : AW} (hm : m.lo ≤ m.next) (ha : Fit .i32 a) (hb : Fit .i32 b) : Fc prog 104 [.int .i64 a, .int .i64 b] m fun v m' => v = .int .i64 (bitV (· ||| ·) .i32 a b) ∧ Ext m m' := by
 refine Fc.body (c := _) func104 rfl rfl rfl rfl hm ?_
 refine .seq (.region (.P ?_))
 refine .nil (.seq (.seq (.region (.P ?_))))
 refine .convInt rfl rfl rfl rfl underlying2 underlying21 rfl (.P ?_)
 refine .convInt rfl rfl rfl rfl underlying2 underlying21 rfl (.P ?_)
 refine .convInt rfl rfl rfl rfl underlying21 underlying2 rfl (.P ?_)
 refine .nil (.seq (.ret ?_))
 exact .end_ rfl rfl (fun m hm => ⟨congrArg (Value.int .i64) ((by simp only [show wr .i32 a = a from ha, show wr .i32 b = b from hb]; exact wr64 _ _ (by decide) (by decide))), hm.ext⟩)
theorem cl_i32_xor {a b : Int} {m : AW} (hm : m.lo ≤ m.next) (ha : Fit .i32 a) (hb : Fit .i32 b) : Fc prog 105 [.int .i64 a, .int .i64 b] m fun v m' => v = .int .i64 (bitV (· ^^^ ·) .i32 a b) ∧ Ext m m' := by
 refine Fc.body (c := _) func105 rfl rfl rfl rfl hm ?_
 refine .seq (.region (.P ?_))
 refine .nil (.seq (.seq (.region (.P ?_))))
 refine .convInt rfl rfl rfl rfl underlying2 underlying21 rfl (.P ?_)
 refine .convInt rfl rfl rfl rfl underlying2 underlying21 rfl (.P ?_)
 refine .convInt rfl rfl rfl rfl underlying21 underlying2 rfl (.P ?_)
 refine .nil (.seq (.ret ?_))
 exact .end_ rfl rfl (fun m hm => ⟨congrArg (Value.int .i64) ((by simp only [show wr .i32 a = a from ha, show wr .i32 b = b from hb]; exact wr64 _ _ (by decide) (by decide))), hm.ext⟩)
theorem cl_i32_neg {a : Int} {m : AW} (hm : m.lo ≤ m.next) (ha : Fit .i32 a) : Fc prog 108 [.int .i64 a] m fun v m' => v = .int .i64 (wr .i32 (0 - a)) ∧ Ext m m' := by
 refine Fc.body (c := _) func108 rfl rfl rfl rfl hm ?_
 refine .seq (.region (.P ?_))
 refine .nil (.seq (.seq (.region (.P ?_))))
 refine .convInt rfl rfl rfl rfl underlying2 underlying21 rfl (.P ?_)
 refine .convInt rfl rfl rfl rfl underlying21 underlying2 rfl (.P ?_)
 refine .nil (.seq (.ret ?_))
 exact .end_ rfl rfl (fun m hm => ⟨congrArg (Value.int .i64) ((by simp only [show wr .i32 a = a from ha]; exact wr64 _ _ (by decide) (by decide))), hm.ext⟩)
theorem cl_i32_not {a : Int} {m : AW} (hm : m.lo ≤ m.next) (ha : Fit .i32 a) : Fc prog 109 [.int .i64 a] m fun v m' => v = .int .i64 (wr .i32 (-1 - a)) ∧ Ext m m' := by
 refine Fc.body (c := _) func109 rfl rfl rfl rfl hm ?_
 refine .seq (.region (.P ?_))
 refine .nil (.seq (.seq (.region (.P ?_))))
 refine .convInt rfl rfl rfl rfl underlying2 underlying21 rfl (.P ?_)
 refine .convInt rfl rfl rfl rfl underlying21 underlying2 rfl (.P ?_)
 refine .nil (.seq (.ret ?_))
 exact .end_ rfl rfl (fun m hm => ⟨congrArg (Value.int .i64) ((by simp only [show wr .i32 a = a from ha]; exact (wr64 _ _ (by decide) (by decide)).trans (notV .i32 a))), hm.ext⟩)
theorem cl_i64_and {a b : Int} {m : AW} (hm : m.lo ≤ m.next) (ha : Fit .i64 a) (hb : Fit .i64 b) : Fc prog 118 [.int .i64 a, .int .i64 b] m fun v m' => v = .int .i64 (bitV (· &&& ·) .i64 a b) ∧ Ext m m' := by
 refine Fc.body (c := _) func118 rfl rfl rfl rfl hm ?_
 refine .seq (.region (.P ?_))
 refine .nil (.seq (.seq (.region ?_)))
 iterate 4 refine .P ?_
 refine .nil (.seq (.ret ?_))
 exact .end_ rfl rfl (fun m hm => ⟨congrArg (Value.int .i64) (rfl), hm.ext⟩)
theorem cl_i64_or {a b : Int} {m : AW} (hm : m.lo ≤ m.next) (ha : Fit .i64 a) (hb : Fit .i64 b) : Fc prog 119 [.int .i64 a, .int .i64 b] m fun v m' => v = .int .i64 (bitV (· ||| ·) .i64 a b) ∧ Ext m m' := by
 refine Fc.body (c := _) func119 rfl rfl rfl rfl hm ?_
 refine .seq (.region (.P ?_))
 refine .nil (.seq (.seq (.region ?_)))
 iterate 4 refine .P ?_
 refine .nil (.seq (.ret ?_))
 exact .end_ rfl rfl (fun m hm => ⟨congrArg (Value.int .i64) (rfl), hm.ext⟩)
theorem cl_i64_xor {a b : Int} {m : AW} (hm : m.lo ≤ m.next) (ha : Fit .i64 a) (hb : Fit .i64 b) : Fc prog 120 [.int .i64 a, .int .i64 b] m fun v m' => v = .int .i64 (bitV (· ^^^ ·) .i64 a b) ∧ Ext m m' := by
 refine Fc.body (c := _) func120 rfl rfl rfl rfl hm ?_
 refine .seq (.region (.P ?_))
 refine .nil (.seq (.seq (.region ?_)))
 iterate 4 refine .P ?_
 refine .nil (.seq (.ret ?_))
 exact .end_ rfl rfl (fun m hm => ⟨congrArg (Value.int .i64) (rfl), hm.ext⟩)
theorem cl_i64_neg {a : Int} {m : AW} (hm : m.lo ≤ m.next) (ha : Fit .i64 a) : Fc prog 123 [.int .i64 a] m fun v m' => v = .int .i64 (wr .i64 (0 - a)) ∧ Ext m m' := by
 refine Fc.body (c := _) func123 rfl rfl rfl rfl hm ?_
 refine .seq (.region (.P ?_))
 refine .nil (.seq (.seq (.region (.P3 ?_))))
 refine .nil (.seq (.ret ?_))
 exact .end_ rfl rfl (fun m hm => ⟨congrArg (Value.int .i64) (rfl), hm.ext⟩)
theorem cl_i64_not {a : Int} {m : AW} (hm : m.lo ≤ m.next) (ha : Fit .i64 a) : Fc prog 124 [.int .i64 a] m fun v m' => v = .int .i64 (wr .i64 (-1 - a)) ∧ Ext m m' := by
 refine Fc.body (c := _) func124 rfl rfl rfl rfl hm ?_
 refine .seq (.region (.P ?_))
 refine .nil (.seq (.seq (.region (.P3 ?_))))
 refine .nil (.seq (.ret ?_))
 exact .end_ rfl rfl (fun m hm => ⟨congrArg (Value.int .i64) (notV .i64 a), hm.ext⟩)
theorem Arith_u8_5 {a b : Int} {m : AW} (hm : m.lo ≤ m.next) (ha : Fit .i64 a) (hb : Fit .i64 b) : Fc prog 19 [.int .i64 1, .int .i64 5, .int .i64 a, .int .i64 b] m fun v m' => v = .tuple ⟨[.int .i64 (bitV (· &&& ·) .u8 (wr .u8 a) (wr .u8 b)), .int .i64 0]⟩ ∧ Ext m m' := by
 refine Fc.body (c := _) func19 rfl rfl rfl rfl hm ?_
 refine .seq (.region (.P2 ?_))
 refine .nil (.seq (.seq (.region (.P ?_))))
 refine .calln _ _ _ rfl rfl rfl rfl rfl rfl (fun m hm => of_u8 hm.lole) (fun x hx => ?_)
 clear hx
 refine .P3 ?_
 refine .alloc rfl rfl rfl rfl zr59 (fun b10 hb10 => ?_)
 refine .S sz59 ?_
 refine .P ?_
 refine .nil (.seq (.seq (.seq (.region (.P2 ?_)))))
 refine .nil (.seq (.cond_false rfl (.skip (.seq (.seq (.block (.seq (.region (.P3 ?_)))))))))
 iterate 3 refine .O ?_
 refine .P2 ?_
 refine .nil (.seq (.cond_false rfl (.seq (.region (.P3 ?_)))))
 iterate 3 refine .O ?_
 refine .P2 ?_
 refine .nil (.seq (.cond_false rfl (.skip (.blk (.seq (.seq (.region (.P ?_))))))))
 refine .call _ rfl rfl rfl rfl rfl rfl (fun m hm => arithmetic_5 hm.lole) ?_
 iterate 5 refine .P ?_
 refine .nil (.seq (.seq (.seq (.region ?_))))
 iterate 4 refine .P ?_
 refine .F fa59_1 ?_
 refine .indexArr rfl rfl rfl rfl underlying56 sz55 rfl rfl (by decide) ?_
 refine .L ag55 ?_
 refine .bin (v := .bool false) rfl rfl rfl rfl rfl rfl (by kernel_rfl) ?_
 refine .P ?_
 refine .nil (.seq (.cond_false rfl (.skip (.seq (.seq ?_)))))
 refine .D [(15, 0), (3, 1), (15, 0), (7, 7), (12, 0), (0, 16), (12, 0), (7, 127), (15, 255), (15, 511)] (by kernel_rfl) (by kernel_rfl) (fun base hbase hB => ?_)
 refine .F fa59_0 ?_
 refine .J ag54 ?_
 refine .P ?_
 refine .call _ rfl rfl rfl rfl rfl rfl rfl rfl rfl (fun m hm => cl_u8_1 hm.lole ha) ?_
 refine .F fa59_0 ?_
 refine .R ag54 hB ?_
 refine .P ?_
 refine .call _ rfl rfl rfl rfl rfl rfl rfl rfl rfl (fun m hm => cl_u8_1 hm.lole hb) ?_
 iterate 2 refine .P ?_
 refine .nil (.seq (.seq (.seq (.region ?_))))
 iterate 7 refine .P ?_
 iterate 2 refine .O ?_
 refine .P2 ?_
 iterate 2 refine .O ?_
 refine .P ?_
 refine .nil (.seq (.cond_false rfl (.skip (.seq (.seq (.region (.P ?_)))))))
 refine .F fa59_1 ?_
 refine .indexArr rfl rfl rfl rfl underlying56 sz55 rfl rfl (by decide) ?_
 refine .L ag55 ?_
 refine .P2 ?_
 refine .call _ rfl rfl rfl rfl rfl rfl (fun m hm => cl_u8_and hm.lole (Fit.wr _ _) (Fit.wr _ _)) ?_
 refine .P2 ?_
 refine .nil (.seq (.ret ?_))
 exact .end_ rfl rfl (fun m hm => ⟨rfl, hm.ext⟩)
theorem Arith_u8_6 {a b : Int} {m : AW} (hm : m.lo ≤ m.next) (ha : Fit .i64 a) (hb : Fit .i64 b) : Fc prog 19 [.int .i64 1, .int .i64 6, .int .i64 a, .int .i64 b] m fun v m' => v = .tuple ⟨[.int .i64 (bitV (· ||| ·) .u8 (wr .u8 a) (wr .u8 b)), .int .i64 0]⟩ ∧ Ext m m' := by
 refine Fc.body (c := _) func19 rfl rfl rfl rfl hm ?_
 refine .seq (.region (.P2 ?_))
 refine .nil (.seq (.seq (.region (.P ?_))))
 refine .calln _ _ _ rfl rfl rfl rfl rfl rfl (fun m hm => of_u8 hm.lole) (fun x hx => ?_)
 clear hx
 refine .P3 ?_
 refine .alloc rfl rfl rfl rfl zr59 (fun b10 hb10 => ?_)
 refine .S sz59 ?_
 refine .P ?_
 refine .nil (.seq (.seq (.seq (.region (.P2 ?_)))))
 refine .nil (.seq (.cond_false rfl (.skip (.seq (.seq (.block (.seq (.region (.P3 ?_)))))))))
 iterate 3 refine .O ?_
 refine .P2 ?_
 refine .nil (.seq (.cond_false rfl (.seq (.region (.P3 ?_)))))
 iterate 3 refine .O ?_
 refine .P2 ?_
 refine .nil (.seq (.cond_false rfl (.skip (.blk (.seq (.seq (.region (.P ?_))))))))
 refine .call _ rfl rfl rfl rfl rfl rfl (fun m hm => arithmetic_6 hm.lole) ?_
 iterate 5 refine .P ?_
 refine .nil (.seq (.seq (.seq (.region ?_))))
 iterate 4 refine .P ?_
 refine .F fa59_1 ?_
 refine .indexArr rfl rfl rfl rfl underlying56 sz55 rfl rfl (by decide) ?_
 refine .L ag55 ?_
 refine .bin (v := .bool false) rfl rfl rfl rfl rfl rfl (by kernel_rfl) ?_
 refine .P ?_
 refine .nil (.seq (.cond_false rfl (.skip (.seq (.seq ?_)))))
 refine .D [(15, 0), (3, 1), (15, 0), (7, 7), (12, 0), (0, 16), (12, 0), (7, 127), (15, 255), (15, 511)] (by kernel_rfl) (by kernel_rfl) (fun base hbase hB => ?_)
 refine .F fa59_0 ?_
 refine .J ag54 ?_
 refine .P ?_
 refine .call _ rfl rfl rfl rfl rfl rfl rfl rfl rfl (fun m hm => cl_u8_1 hm.lole ha) ?_
 refine .F fa59_0 ?_
 refine .R ag54 hB ?_
 refine .P ?_
 refine .call _ rfl rfl rfl rfl rfl rfl rfl rfl rfl (fun m hm => cl_u8_1 hm.lole hb) ?_
 iterate 2 refine .P ?_
 refine .nil (.seq (.seq (.seq (.region ?_))))
 iterate 7 refine .P ?_
 iterate 2 refine .O ?_
 refine .P2 ?_
 iterate 2 refine .O ?_
 refine .P ?_
 refine .nil (.seq (.cond_false rfl (.skip (.seq (.seq (.region (.P ?_)))))))
 refine .F fa59_1 ?_
 refine .indexArr rfl rfl rfl rfl underlying56 sz55 rfl rfl (by decide) ?_
 refine .L ag55 ?_
 refine .P2 ?_
 refine .call _ rfl rfl rfl rfl rfl rfl (fun m hm => cl_u8_or hm.lole (Fit.wr _ _) (Fit.wr _ _)) ?_
 refine .P2 ?_
 refine .nil (.seq (.ret ?_))
 exact .end_ rfl rfl (fun m hm => ⟨rfl, hm.ext⟩)
theorem Arith_u8_7 {a b : Int} {m : AW} (hm : m.lo ≤ m.next) (ha : Fit .i64 a) (hb : Fit .i64 b) : Fc prog 19 [.int .i64 1, .int .i64 7, .int .i64 a, .int .i64 b] m fun v m' => v = .tuple ⟨[.int .i64 (bitV (· ^^^ ·) .u8 (wr .u8 a) (wr .u8 b)), .int .i64 0]⟩ ∧ Ext m m' := by
 refine Fc.body (c := _) func19 rfl rfl rfl rfl hm ?_
 refine .seq (.region (.P2 ?_))
 refine .nil (.seq (.seq (.region (.P ?_))))
 refine .calln _ _ _ rfl rfl rfl rfl rfl rfl (fun m hm => of_u8 hm.lole) (fun x hx => ?_)
 clear hx
 refine .P3 ?_
 refine .alloc rfl rfl rfl rfl zr59 (fun b10 hb10 => ?_)
 refine .S sz59 ?_
 refine .P ?_
 refine .nil (.seq (.seq (.seq (.region (.P2 ?_)))))
 refine .nil (.seq (.cond_false rfl (.skip (.seq (.seq (.block (.seq (.region (.P3 ?_)))))))))
 iterate 3 refine .O ?_
 refine .P2 ?_
 refine .nil (.seq (.cond_false rfl (.seq (.region (.P3 ?_)))))
 iterate 3 refine .O ?_
 refine .P2 ?_
 refine .nil (.seq (.cond_false rfl (.skip (.blk (.seq (.seq (.region (.P ?_))))))))
 refine .call _ rfl rfl rfl rfl rfl rfl (fun m hm => arithmetic_7 hm.lole) ?_
 iterate 5 refine .P ?_
 refine .nil (.seq (.seq (.seq (.region ?_))))
 iterate 4 refine .P ?_
 refine .F fa59_1 ?_
 refine .indexArr rfl rfl rfl rfl underlying56 sz55 rfl rfl (by decide) ?_
 refine .L ag55 ?_
 refine .bin (v := .bool false) rfl rfl rfl rfl rfl rfl (by kernel_rfl) ?_
 refine .P ?_
 refine .nil (.seq (.cond_false rfl (.skip (.seq (.seq ?_)))))
 refine .D [(15, 0), (3, 1), (15, 0), (7, 7), (12, 0), (0, 16), (12, 0), (7, 127), (15, 255), (15, 511)] (by kernel_rfl) (by kernel_rfl) (fun base hbase hB => ?_)
 refine .F fa59_0 ?_
 refine .J ag54 ?_
 refine .P ?_
 refine .call _ rfl rfl rfl rfl rfl rfl rfl rfl rfl (fun m hm => cl_u8_1 hm.lole ha) ?_
 refine .F fa59_0 ?_
 refine .R ag54 hB ?_
 refine .P ?_
 refine .call _ rfl rfl rfl rfl rfl rfl rfl rfl rfl (fun m hm => cl_u8_1 hm.lole hb) ?_
 iterate 2 refine .P ?_
 refine .nil (.seq (.seq (.seq (.region ?_))))
 iterate 7 refine .P ?_
 iterate 2 refine .O ?_
 refine .P2 ?_
 iterate 2 refine .O ?_
 refine .P ?_
 refine .nil (.seq (.cond_false rfl (.skip (.seq (.seq (.region (.P ?_)))))))
 refine .F fa59_1 ?_
 refine .indexArr rfl rfl rfl rfl underlying56 sz55 rfl rfl (by decide) ?_
 refine .L ag55 ?_
 refine .P2 ?_
 refine .call _ rfl rfl rfl rfl rfl rfl (fun m hm => cl_u8_xor hm.lole (Fit.wr _ _) (Fit.wr _ _)) ?_
 refine .P2 ?_
 refine .nil (.seq (.ret ?_))
 exact .end_ rfl rfl (fun m hm => ⟨rfl, hm.ext⟩)
theorem Arith_u8_other {op a b : Int} {m : AW} (hm : m.lo ≤ m.next) (h : op < 0 ∨ 9 < op) : Fc prog 19 [.int .i64 1, .int .i64 op, .int .i64 a, .int .i64 b] m fun v m' => v = .tuple ⟨[.int .i64 0, .int .i64 2]⟩ ∧ Ext m m' := by
 refine Fc.body (c := _) func19 rfl rfl rfl rfl hm ?_
 refine .seq (.region (.P2 ?_))
 refine .nil (.seq (.seq (.region (.P ?_))))
 refine .calln _ _ _ rfl rfl rfl rfl rfl rfl (fun m hm => of_u8 hm.lole) (fun x hx => ?_)
 clear hx
 refine .P3 ?_
 refine .alloc rfl rfl rfl rfl zr59 (fun b10 hb10 => ?_)
 refine .S sz59 ?_
 refine .P ?_
 refine .nil (.seq (.seq (.seq (.region (.P2 ?_)))))
 refine .nil (.seq (.cond_false rfl (.skip (.seq (.seq (.block (.seq (.region (.P2 ?_)))))))))
 refine .as 24 (.bool false) rfl (congrArg Value.bool (by rw [eqI_eq]; exact decide_eq_false (by omega))) ?_
 refine .P ?_
 iterate 3 refine .O ?_
 refine .P2 ?_
 refine .nil (.seq (.cond_false rfl (.seq (.region (.P2 ?_)))))
 refine .as 42 (.bool false) rfl (congrArg Value.bool (by rw [eqI_eq]; exact decide_eq_false (by omega))) ?_
 refine .P ?_
 iterate 3 refine .O ?_
 refine .P2 ?_
 refine .nil (.seq (.cond_false rfl (.skip (.blk (.seq (.seq (.region (.P ?_))))))))
 refine .call _ rfl rfl rfl rfl rfl rfl (fun m hm => arithmetic_none hm.lole (by omega)) ?_
 iterate 5 refine .P ?_
 refine .nil (.seq (.seq (.seq (.region (.P3 ?_)))))
 iterate 5 refine .O ?_
 refine .P ?_
 refine .nil (.seq (.cond_true rfl (.seq (.region (.P2 ?_)))))
 refine .nil (.seq (.ret (.seq ?_)))
 exact .end_ rfl rfl (fun m hm => ⟨rfl, hm.ext⟩)
theorem Unary_u8_16 {a : Int} {m : AW} (hm : m.lo ≤ m.next) (ha : Fit .i64 a) : Fc prog 24 [.int .i64 1, .int .i64 16, .int .i64 a] m fun v m' => v = .tuple ⟨[.int .i64 (wr .u8 (0 - wr .u8 a)), .int .i64 0]⟩ ∧ Ext m m' := by
 refine Fc.body (c := _) func24 rfl rfl rfl rfl hm ?_
 refine .seq (.region (.P2 ?_))
 refine .nil (.seq (.seq (.region (.P ?_))))
 refine .calln _ _ _ rfl rfl rfl rfl rfl rfl (fun m hm => of_u8 hm.lole) (fun x hx => ?_)
 clear hx
 refine .P3 ?_
 refine .alloc rfl rfl rfl rfl zr59 (fun b8 hb8 => ?_)
 refine .S sz59 ?_
 refine .P ?_
 refine .nil (.seq (.seq (.seq (.region (.P2 ?_)))))
 refine .nil (.seq (.cond_false rfl (.skip (.seq (.seq (.region (.F fa59_0 ?_)))))))
 refine .L ag54 ?_
 refine .P ?_
 refine .call _ rfl rfl rfl rfl rfl rfl (fun m hm => cl_u8_1 hm.lole ha) ?_
 refine .P ?_
 refine .nil (.seq (.seq (.block (.seq (.region (.P3 ?_))))))
 refine .nil (.seq (.cond_true rfl (.seq (.region (.F fa59_4 ?_)))))
 refine .L ag54 ?_
 refine .P ?_
 refine .call _ rfl rfl rfl rfl rfl rfl (fun m hm => cl_u8_neg hm.lole (Fit.wr _ _)) ?_
 refine .P2 ?_
 refine .nil (.seq (.ret (.blk (.seq ?_))))
 exact .end_ rfl rfl (fun m hm => ⟨rfl, hm.ext⟩)
theorem Unary_u8_17 {a : Int} {m : AW} (hm : m.lo ≤ m.next) (ha : Fit .i64 a) : Fc prog 24 [.int .i64 1, .int .i64 17, .int .i64 a] m fun v m' => v = .tuple ⟨[.int .i64 (wr .u8 (-1 - wr .u8 a)), .int .i64 0]⟩ ∧ Ext m m' := by
 refine Fc.body (c := _) func24 rfl rfl rfl rfl hm ?_
 refine .seq (.region (.P2 ?_))
 refine .nil (.seq (.seq (.region (.P ?_))))
 refine .calln _ _ _ rfl rfl rfl rfl rfl rfl (fun m hm => of_u8 hm.lole) (fun x hx => ?_)
 clear hx
 refine .P3 ?_
 refine .alloc rfl rfl rfl rfl zr59 (fun b8 hb8 => ?_)
 refine .S sz59 ?_
 refine .P ?_
 refine .nil (.seq (.seq (.seq (.region (.P2 ?_)))))
 refine .nil (.seq (.cond_false rfl (.skip (.seq (.seq (.region (.F fa59_0 ?_)))))))
 refine .L ag54 ?_
 refine .P ?_
 refine .call _ rfl rfl rfl rfl rfl rfl (fun m hm => cl_u8_1 hm.lole ha) ?_
 refine .P ?_
 refine .nil (.seq (.seq (.block (.seq (.region (.P3 ?_))))))
 refine .nil (.seq (.cond_false rfl (.seq (.region (.P3 ?_)))))
 refine .F fa59_5 ?_
 refine .L ag54 ?_
 refine .bin (v := .bool true) rfl rfl rfl rfl rfl rfl (by kernel_rfl) ?_
 refine .P2 ?_
 refine .nil (.seq (.cond_true rfl (.seq (.region (.F fa59_5 ?_)))))
 refine .L ag54 ?_
 refine .P ?_
 refine .call _ rfl rfl rfl rfl rfl rfl (fun m hm => cl_u8_not hm.lole (Fit.wr _ _)) ?_
 refine .P2 ?_
 refine .nil (.seq (.ret (.blk (.seq ?_))))
 exact .end_ rfl rfl (fun m hm => ⟨rfl, hm.ext⟩)
theorem Unary_u8_18 {a : Int} {m : AW} (hm : m.lo ≤ m.next) (ha : Fit .i64 a) : Fc prog 24 [.int .i64 1, .int .i64 18, .int .i64 a] m fun v m' => v = .tuple ⟨[.int .i64 0, .int .i64 2]⟩ ∧ Ext m m' := by
 refine Fc.body (c := _) func24 rfl rfl rfl rfl hm ?_
 refine .seq (.region (.P2 ?_))
 refine .nil (.seq (.seq (.region (.P ?_))))
 refine .calln _ _ _ rfl rfl rfl rfl rfl rfl (fun m hm => of_u8 hm.lole) (fun x hx => ?_)
 clear hx
 refine .P3 ?_
 refine .alloc rfl rfl rfl rfl zr59 (fun b8 hb8 => ?_)
 refine .S sz59 ?_
 refine .P ?_
 refine .nil (.seq (.seq (.seq (.region (.P2 ?_)))))
 refine .nil (.seq (.cond_false rfl (.skip (.seq (.seq (.region (.F fa59_0 ?_)))))))
 refine .L ag54 ?_
 refine .P ?_
 refine .call _ rfl rfl rfl rfl rfl rfl (fun m hm => cl_u8_1 hm.lole ha) ?_
 refine .P ?_
 refine .nil (.seq (.seq (.block (.seq (.region (.P3 ?_))))))
 refine .nil (.seq (.cond_false rfl (.seq (.region (.P3 ?_)))))
 iterate 3 refine .O ?_
 refine .P2 ?_
 refine .nil (.seq (.cond_false rfl (.seq (.region ?_))))
 iterate 7 refine .P ?_
 refine .nil (.seq (.cond_false rfl (.skip (.blk (.seq (.seq (.region (.P2 ?_))))))))
 refine .nil (.seq (.ret ?_))
 exact .end_ rfl rfl (fun m hm => ⟨rfl, hm.ext⟩)
theorem Unary_u8_other {op a : Int} {m : AW} (hm : m.lo ≤ m.next) (ha : Fit .i64 a) (h : op < 16 ∨ 18 < op) : Fc prog 24 [.int .i64 1, .int .i64 op, .int .i64 a] m fun v m' => v = .tuple ⟨[.int .i64 0, .int .i64 2]⟩ ∧ Ext m m' := by
 refine Fc.body (c := _) func24 rfl rfl rfl rfl hm ?_
 refine .seq (.region (.P2 ?_))
 refine .nil (.seq (.seq (.region (.P ?_))))
 refine .calln _ _ _ rfl rfl rfl rfl rfl rfl (fun m hm => of_u8 hm.lole) (fun x hx => ?_)
 clear hx
 refine .P3 ?_
 refine .alloc rfl rfl rfl rfl zr59 (fun b8 hb8 => ?_)
 refine .S sz59 ?_
 refine .P ?_
 refine .nil (.seq (.seq (.seq (.region (.P2 ?_)))))
 refine .nil (.seq (.cond_false rfl (.skip (.seq (.seq (.region (.F fa59_0 ?_)))))))
 refine .L ag54 ?_
 refine .P ?_
 refine .call _ rfl rfl rfl rfl rfl rfl (fun m hm => cl_u8_1 hm.lole ha) ?_
 refine .P ?_
 refine .nil (.seq (.seq (.block (.seq (.region (.P2 ?_))))))
 refine .as 24 (.bool false) rfl (congrArg Value.bool (by rw [eqI_eq]; exact decide_eq_false (by omega))) ?_
 refine .P ?_
 refine .nil (.seq (.cond_false rfl (.seq (.region (.P2 ?_)))))
 refine .as 31 (.bool false) rfl (congrArg Value.bool (by rw [eqI_eq]; exact decide_eq_false (by omega))) ?_
 refine .P ?_
 iterate 3 refine .O ?_
 refine .P2 ?_
 refine .nil (.seq (.cond_false rfl (.seq (.region (.P2 ?_)))))
 refine .as 43 (.bool false) rfl (congrArg Value.bool (by rw [eqI_eq]; exact decide_eq_false (by omega))) ?_
 refine .P ?_
 iterate 2 refine .O ?_
 refine .P2 ?_
 refine .nil (.seq (.cond_false rfl (.skip (.blk (.seq (.seq (.region (.P2 ?_))))))))
 refine .nil (.seq (.ret ?_))
 exact .end_ rfl rfl (fun m hm => ⟨rfl, hm.ext⟩)
theorem Arith_i32_5 {a b : Int} {m : AW} (hm : m.lo ≤ m.next) (ha : Fit .i64 a) (hb : Fit .i64 b) : Fc prog 19 [.int .i64 2, .int .i64 5, .int .i64 a, .int .i64 b] m fun v m' => v = .tuple ⟨[.int .i64 (bitV (· &&& ·) .i32 (wr .i32 a) (wr .i32 b)), .int .i64 0]⟩ ∧ Ext m m' := by
 refine Fc.body (c := _) func19 rfl rfl rfl rfl hm ?_
 refine .seq (.region (.P2 ?_))
 refine .nil (.seq (.seq (.region (.P ?_))))
 refine .calln _ _ _ rfl rfl rfl rfl rfl rfl (fun m hm => of_i32 hm.lole) (fun x hx => ?_)
 clear hx
 refine .P3 ?_
 refine .alloc rfl rfl rfl rfl zr59 (fun b10 hb10 => ?_)
 refine .S sz59 ?_
 refine .P ?_
 refine .nil (.seq (.seq (.seq (.region (.P2 ?_)))))
 refine .nil (.seq (.cond_false rfl (.skip (.seq (.seq (.block (.seq (.region (.P3 ?_)))))))))
 iterate 3 refine .O ?_
 refine .P2 ?_
 refine .nil (.seq (.cond_false rfl (.seq (.region (.P3 ?_)))))
 iterate 3 refine .O ?_
 refine .P2 ?_
 refine .nil (.seq (.cond_false rfl (.skip (.blk (.seq (.seq (.region (.P ?_))))))))
 refine .call _ rfl rfl rfl rfl rfl rfl (fun m hm => arithmetic_5 hm.lole) ?_
 iterate 5 refine .P ?_
 refine .nil (.seq (.seq (.seq (.region ?_))))
 iterate 4 refine .P ?_
 refine .F fa59_1 ?_
 refine .indexArr rfl rfl rfl rfl underlying56 sz55 rfl rfl (by decide) ?_
 refine .L ag55 ?_
 refine .bin (v := .bool false) rfl rfl rfl rfl rfl rfl (by kernel_rfl) ?_
 refine .P ?_
 refine .nil (.seq (.cond_false rfl (.skip (.seq (.seq ?_)))))
 refine .D [(15, 0), (3, 1), (15, 0), (7, 7), (12, 0), (0, 16), (12, 0), (7, 127), (15, 255), (15, 511)] (by kernel_rfl) (by kernel_rfl) (fun base hbase hB => ?_)
 refine .F fa59_0 ?_
 refine .J ag54 ?_
 refine .P ?_
 refine .call _ rfl rfl rfl rfl rfl rfl rfl rfl rfl (fun m hm => cl_i32_1 hm.lole ha) ?_
 refine .F fa59_0 ?_
 refine .R ag54 hB ?_
 refine .P ?_
 refine .call _ rfl rfl rfl rfl rfl rfl rfl rfl rfl (fun m hm => cl_i32_1 hm.lole hb) ?_
 iterate 2 refine .P ?_
 refine .nil (.seq (.seq (.seq (.region ?_))))
 iterate 7 refine .P ?_
 iterate 2 refine .O ?_
 refine .P2 ?_
 iterate 2 refine .O ?_
 refine .P ?_
 refine .nil (.seq (.cond_false rfl (.skip (.seq (.seq (.region (.P ?_)))))))
 refine .F fa59_1 ?_
 refine .indexArr rfl rfl rfl rfl underlying56 sz55 rfl rfl (by decide) ?_
 refine .L ag55 ?_
 refine .P2 ?_
 refine .call _ rfl rfl rfl rfl rfl rfl (fun m hm => cl_i32_and hm.lole (Fit.wr _ _) (Fit.wr _ _)) ?_
 refine .P2 ?_
 refine .nil (.seq (.ret ?_))
 exact .end_ rfl rfl (fun m hm => ⟨rfl, hm.ext⟩)
theorem Arith_i32_6 {a b : Int} {m : AW} (hm : m.lo ≤ m.next) (ha : Fit .i64 a) (hb : Fit .i64 b) : Fc prog 19 [.int .i64 2, .int .i64 6, .int .i64 a, .int .i64 b] m fun v m' => v = .tuple ⟨[.int .i64 (bitV (· ||| ·) .i32 (wr .i32 a) (wr .i32 b)), .int .i64 0]⟩ ∧ Ext m m' := by
 refine Fc.body (c := _) func19 rfl rfl rfl rfl hm ?_
 refine .seq (.region (.P2 ?_))
 refine .nil (.seq (.seq (.region (.P ?_))))
 refine .calln _ _ _ rfl rfl rfl rfl rfl rfl (fun m hm => of_i32 hm.lole) (fun x hx => ?_)
 clear hx
 refine .P3 ?_
 refine .alloc rfl rfl rfl rfl zr59 (fun b10 hb10 => ?_)
 refine .S sz59 ?_
 refine .P ?_
 refine .nil (.seq (.seq (.seq (.region (.P2 ?_)))))
 refine .nil (.seq (.cond_false rfl (.skip (.seq (.seq (.block (.seq (.region (.P3 ?_)))))))))
 iterate 3 refine .O ?_
 refine .P2 ?_
 refine .nil (.seq (.cond_false rfl (.seq (.region (.P3 ?_)))))
 iterate 3 refine .O ?_
 refine .P2 ?_
 refine .nil (.seq (.cond_false rfl (.skip (.blk (.seq (.seq (.region (.P ?_))))))))
 refine .call _ rfl rfl rfl rfl rfl rfl (fun m hm => arithmetic_6 hm.lole) ?_
 iterate 5 refine .P ?_
 refine .nil (.seq (.seq (.seq (.region ?_))))
 iterate 4 refine .P ?_
 refine .F fa59_1 ?_
 refine .indexArr rfl rfl rfl rfl underlying56 sz55 rfl rfl (by decide) ?_
 refine .L ag55 ?_
 refine .bin (v := .bool false) rfl rfl rfl rfl rfl rfl (by kernel_rfl) ?_
 refine .P ?_
 refine .nil (.seq (.cond_false rfl (.skip (.seq (.seq ?_)))))
 refine .D [(15, 0), (3, 1), (15, 0), (7, 7), (12, 0), (0, 16), (12, 0), (7, 127), (15, 255), (15, 511)] (by kernel_rfl) (by kernel_rfl) (fun base hbase hB => ?_)
 refine .F fa59_0 ?_
 refine .J ag54 ?_
 refine .P ?_
 refine .call _ rfl rfl rfl rfl rfl rfl rfl rfl rfl (fun m hm => cl_i32_1 hm.lole ha) ?_
 refine .F fa59_0 ?_
 refine .R ag54 hB ?_
 refine .P ?_
 refine .call _ rfl rfl rfl rfl rfl rfl rfl rfl rfl (fun m hm => cl_i32_1 hm.lole hb) ?_
 iterate 2 refine .P ?_
 refine .nil (.seq (.seq (.seq (.region ?_))))
 iterate 7 refine .P ?_
 iterate 2 refine .O ?_
 refine .P2 ?_
 iterate 2 refine .O ?_
 refine .P ?_
 refine .nil (.seq (.cond_false rfl (.skip (.seq (.seq (.region (.P ?_)))))))
 refine .F fa59_1 ?_
 refine .indexArr rfl rfl rfl rfl underlying56 sz55 rfl rfl (by decide) ?_
 refine .L ag55 ?_
 refine .P2 ?_
 refine .call _ rfl rfl rfl rfl rfl rfl (fun m hm => cl_i32_or hm.lole (Fit.wr _ _) (Fit.wr _ _)) ?_
 refine .P2 ?_
 refine .nil (.seq (.ret ?_))
 exact .end_ rfl rfl (fun m hm => ⟨rfl, hm.ext⟩)
theorem Arith_i32_7 {a b : Int} {m : AW} (hm : m.lo ≤ m.next) (ha : Fit .i64 a) (hb : Fit .i64 b) : Fc prog 19 [.int .i64 2, .int .i64 7, .int .i64 a, .int .i64 b] m fun v m' => v = .tuple ⟨[.int .i64 (bitV (· ^^^ ·) .i32 (wr .i32 a) (wr .i32 b)), .int .i64 0]⟩ ∧ Ext m m' := by
 refine Fc.body (c := _) func19 rfl rfl rfl rfl hm ?_
 refine .seq (.region (.P2 ?_))
 refine .nil (.seq (.seq (.region (.P ?_))))
 refine .calln _ _ _ rfl rfl rfl rfl rfl rfl (fun m hm => of_i32 hm.lole) (fun x hx => ?_)
 clear hx
 refine .P3 ?_
 refine .alloc rfl rfl rfl rfl zr59 (fun b10 hb10 => ?_)
 refine .S sz59 ?_
 refine .P ?_
 refine .nil (.seq (.seq (.seq (.region (.P2 ?_)))))
 refine .nil (.seq (.cond_false rfl (.skip (.seq (.seq (.block (.seq (.region (.P3 ?_)))))))))
 iterate 3 refine .O ?_
 refine .P2 ?_
 refine .nil (.seq (.cond_false rfl (.seq (.region (.P3 ?_)))))
 iterate 3 refine .O ?_
 refine .P2 ?_
 refine .nil (.seq (.cond_false rfl (.skip (.blk (.seq (.seq (.region (.P ?_))))))))
 refine .call _ rfl rfl rfl rfl rfl rfl (fun m hm => arithmetic_7 hm.lole) ?_
 iterate 5 refine .P ?_
 refine .nil (.seq (.seq (.seq (.region ?_))))
 iterate 4 refine .P ?_
 refine .F fa59_1 ?_
 refine .indexArr rfl rfl rfl rfl underlying56 sz55 rfl rfl (by decide) ?_
 refine .L ag55 ?_
 refine .bin (v := .bool false) rfl rfl rfl rfl rfl rfl (by kernel_rfl) ?_
 refine .P ?_
 refine .nil (.seq (.cond_false rfl (.skip (.seq (.seq ?_)))))
 refine .D [(15, 0), (3, 1), (15, 0), (7, 7), (12, 0), (0, 16), (12, 0), (7, 127), (15, 255), (15, 511)] (by kernel_rfl) (by kernel_rfl) (fun base hbase hB => ?_)
 refine .F fa59_0 ?_
 refine .J ag54 ?_
 refine .P ?_
 refine .call _ rfl rfl rfl rfl rfl rfl rfl rfl rfl (fun m hm => cl_i32_1 hm.lole ha) ?_
 refine .F fa59_0 ?_
 refine .R ag54 hB ?_
 refine .P ?_
 refine .call _ rfl rfl rfl rfl rfl rfl rfl rfl rfl (fun m hm => cl_i32_1 hm.lole hb) ?_
 iterate 2 refine .P ?_
 refine .nil (.seq (.seq (.seq (.region ?_))))
 iterate 7 refine .P ?_
 iterate 2 refine .O ?_
 refine .P2 ?_
 iterate 2 refine .O ?_
 refine .P ?_
 refine .nil (.seq (.cond_false rfl (.skip (.seq (.seq (.region (.P ?_)))))))
 refine .F fa59_1 ?_
 refine .indexArr rfl rfl rfl rfl underlying56 sz55 rfl rfl (by decide) ?_
 refine .L ag55 ?_
 refine .P2 ?_
 refine .call _ rfl rfl rfl rfl rfl rfl (fun m hm => cl_i32_xor hm.lole (Fit.wr _ _) (Fit.wr _ _)) ?_
 refine .P2 ?_
 refine .nil (.seq (.ret ?_))
 exact .end_ rfl rfl (fun m hm => ⟨rfl, hm.ext⟩)
theorem Arith_i32_other {op a b : Int} {m : AW} (hm : m.lo ≤ m.next) (h : op < 0 ∨ 9 < op) : Fc prog 19 [.int .i64 2, .int .i64 op, .int .i64 a, .int .i64 b] m fun v m' => v = .tuple ⟨[.int .i64 0, .int .i64 2]⟩ ∧ Ext m m' := by
 refine Fc.body (c := _) func19 rfl rfl rfl rfl hm ?_
 refine .seq (.region (.P2 ?_))
 refine .nil (.seq (.seq (.region (.P ?_))))
 refine .calln _ _ _ rfl rfl rfl rfl rfl rfl (fun m hm => of_i32 hm.lole) (fun x hx => ?_)
 clear hx
 refine .P3 ?_
 refine .alloc rfl rfl rfl rfl zr59 (fun b10 hb10 => ?_)
 refine .S sz59 ?_
 refine .P ?_
 refine .nil (.seq (.seq (.seq (.region (.P2 ?_)))))
 refine .nil (.seq (.cond_false rfl (.skip (.seq (.seq (.block (.seq (.region (.P2 ?_)))))))))
 refine .as 24 (.bool false) rfl (congrArg Value.bool (by rw [eqI_eq]; exact decide_eq_false (by omega))) ?_
 refine .P ?_
 iterate 3 refine .O ?_
 refine .P2 ?_
 refine .nil (.seq (.cond_false rfl (.seq (.region (.P2 ?_)))))
 refine .as 42 (.bool false) rfl (congrArg Value.bool (by rw [eqI_eq]; exact decide_eq_false (by omega))) ?_
 refine .P ?_
 iterate 3 refine .O ?_
 refine .P2 ?_
 refine .nil (.seq (.cond_false rfl (.skip (.blk (.seq (.seq (.region (.P ?_))))))))
 refine .call _ rfl rfl rfl rfl rfl rfl (fun m hm => arithmetic_none hm.lole (by omega)) ?_
 iterate 5 refine .P ?_
 refine .nil (.seq (.seq (.seq (.region (.P3 ?_)))))
 iterate 5 refine .O ?_
 refine .P ?_
 refine .nil (.seq (.cond_true rfl (.seq (.region (.P2 ?_)))))
 refine .nil (.seq (.ret (.seq ?_)))
 exact .end_ rfl rfl (fun m hm => ⟨rfl, hm.ext⟩)
theorem Unary_i32_16 {a : Int} {m : AW} (hm : m.lo ≤ m.next) (ha : Fit .i64 a) : Fc prog 24 [.int .i64 2, .int .i64 16, .int .i64 a] m fun v m' => v = .tuple ⟨[.int .i64 (wr .i32 (0 - wr .i32 a)), .int .i64 0]⟩ ∧ Ext m m' := by
 refine Fc.body (c := _) func24 rfl rfl rfl rfl hm ?_
 refine .seq (.region (.P2 ?_))
 refine .nil (.seq (.seq (.region (.P ?_))))
 refine .calln _ _ _ rfl rfl rfl rfl rfl rfl (fun m hm => of_i32 hm.lole) (fun x hx => ?_)
 clear hx
 refine .P3 ?_
 refine .alloc rfl rfl rfl rfl zr59 (fun b8 hb8 => ?_)
 refine .S sz59 ?_
 refine .P ?_
 refine .nil (.seq (.seq (.seq (.region (.P2 ?_)))))
 refine .nil (.seq (.cond_false rfl (.skip (.seq (.seq (.region (.F fa59_0 ?_)))))))
 refine .L ag54 ?_
 refine .P ?_
 refine .call _ rfl rfl rfl rfl rfl rfl (fun m hm => cl_i32_1 hm.lole ha) ?_
 refine .P ?_
 refine .nil (.seq (.seq (.block (.seq (.region (.P3 ?_))))))
 refine .nil (.seq (.cond_true rfl (.seq (.region (.F fa59_4 ?_)))))
 refine .L ag54 ?_
 refine .P ?_
 refine .call _ rfl rfl rfl rfl rfl rfl (fun m hm => cl_i32_neg hm.lole (Fit.wr _ _)) ?_
 refine .P2 ?_
 refine .nil (.seq (.ret (.blk (.seq ?_))))
 exact .end_ rfl rfl (fun m hm => ⟨rfl, hm.ext⟩)
theorem Unary_i32_17 {a : Int} {m : AW} (hm : m.lo ≤ m.next) (ha : Fit .i64 a) : Fc prog 24 [.int .i64 2, .int .i64 17, .int .i64 a] m fun v m' => v = .tuple ⟨[.int .i64 (wr .i32 (-1 - wr .i32 a)), .int .i64 0]⟩ ∧ Ext m m' := by
 refine Fc.body (c := _) func24 rfl rfl rfl rfl hm ?_
 refine .seq (.region (.P2 ?_))
 refine .nil (.seq (.seq (.region (.P ?_))))
 refine .calln _ _ _ rfl rfl rfl rfl rfl rfl (fun m hm => of_i32 hm.lole) (fun x hx => ?_)
 clear hx
 refine .P3 ?_
 refine .alloc rfl rfl rfl rfl zr59 (fun b8 hb8 => ?_)
 refine .S sz59 ?_
 refine .P ?_
 refine .nil (.seq (.seq (.seq (.region (.P2 ?_)))))
 refine .nil (.seq (.cond_false rfl (.skip (.seq (.seq (.region (.F fa59_0 ?_)))))))
 refine .L ag54 ?_
 refine .P ?_
 refine .call _ rfl rfl rfl rfl rfl rfl (fun m hm => cl_i32_1 hm.lole ha) ?_
 refine .P ?_
 refine .nil (.seq (.seq (.block (.seq (.region (.P3 ?_))))))
 refine .nil (.seq (.cond_false rfl (.seq (.region (.P3 ?_)))))
 refine .F fa59_5 ?_
 refine .L ag54 ?_
 refine .bin (v := .bool true) rfl rfl rfl rfl rfl rfl (by kernel_rfl) ?_
 refine .P2 ?_
 refine .nil (.seq (.cond_true rfl (.seq (.region (.F fa59_5 ?_)))))
 refine .L ag54 ?_
 refine .P ?_
 refine .call _ rfl rfl rfl rfl rfl rfl (fun m hm => cl_i32_not hm.lole (Fit.wr _ _)) ?_
 refine .P2 ?_
 refine .nil (.seq (.ret (.blk (.seq ?_))))
 exact .end_ rfl rfl (fun m hm => ⟨rfl, hm.ext⟩)
end Go.Proofs.YtmcjihhfgmfcpaaGreatDoor
