/-
  NumberReckons: the functions that it calls, followed, 1. Conditions: none.
-/
import Derived.Test.YtmcjihhfgmfcpaaGreatDoorAwk
import Derived.Test.YtmcjihhfgmfcpaaGreatDoorPla
import Derived.Test.YtmcjihhfgmfcpaaGreatDoorReckons0
namespace Go.Proofs.YtmcjihhfgmfcpaaGreatDoor
open Go Go.Ab
set_option linter.unusedVariables false
set_option linter.unusedSimpArgs false
set_option linter.unusedSectionVars false
open Go.Proofs.Tryz
theorem Unary_i32_18 {a : Int} {m : AW} (hm : m.lo ≤ m.next) (ha : Fit .i64 a) : Fc prog 24 [.int .i64 2, .int .i64 18, .int .i64 a] m fun v m' => v = .tuple ⟨[.int .i64 (if wr .i32 a = 0 then 1 else 0), .int .i64 0]⟩ ∧ Ext m m' := by
 refine Fc.body (c := _) func24 rfl rfl rfl rfl hm ?_
 refine .seq (.region (.P2 ?_))
 refine .nil (.seq (.seq (.region (.P ?_))))
 refine .calln _ _ _ rfl rfl rfl rfl rfl rfl (fun m hm => of_i32 hm.lole) (fun x hx => ?_)
 clear hx
 refine .P3 ?_
 refine .alloc rfl rfl rfl rfl zr59 (fun b8 hb8 => ?_)
 refine .S sz59 ?_
 refine .P ?_
 refine .nil (.seq (.seq (.seq (.region (.P2 ?_)))))
 refine .nil (.seq (.cond_false rfl (.skip (.seq (.seq (.region (.F fa59_0 ?_)))))))
 refine .L ag54 ?_
 refine .P ?_
 refine .call _ rfl rfl rfl rfl rfl rfl (fun m hm => cl_i32_1 hm.lole ha) ?_
 refine .P ?_
 refine .nil (.seq (.seq (.block (.seq (.region (.P3 ?_))))))
 refine .nil (.seq (.cond_false rfl (.seq (.region (.P3 ?_)))))
 iterate 3 refine .O ?_
 refine .P2 ?_
 refine .nil (.seq (.cond_false rfl (.seq (.region ?_))))
 iterate 7 refine .P ?_
 refine .nil (.seq (.cond_true rfl (.seq (.seq (.region (.P2 ?_))))))
 refine .nil (.seq (.cond rfl (fun hc0 => ?_) fun hc0 => ?_))
 ·(try simp only [decide_eq_true_eq, decide_eq_false_iff_not, nrm_lt, nrm_nlt, nrm_eq, nrm_neq, nrm_seq, nrm_sneq, nrm_sempty, nrm_snempty, nrm_ofNat, Bool.not_eq_true', Bool.not_eq_false'] at hc0)
  refine .seq (.region (.P2 ?_))
  refine .nil (.seq (.ret (.seq (.blk (.seq ?_)))))
  exact .end_ rfl rfl (fun m hm => ⟨by rw [if_pos (by assumption)]; rfl, hm.ext⟩)
 (try simp only [decide_eq_true_eq, decide_eq_false_iff_not, nrm_lt, nrm_nlt, nrm_eq, nrm_neq, nrm_seq, nrm_sneq, nrm_sempty, nrm_snempty, nrm_ofNat, Bool.not_eq_true', Bool.not_eq_false'] at hc0)
 refine .skip (.seq (.seq (.region (.P2 ?_))))
 refine .nil (.seq (.ret (.blk (.seq ?_))))
 exact .end_ rfl rfl (fun m hm => ⟨by rw [if_neg (by assumption)]; rfl, hm.ext⟩)
theorem Unary_i32_other {op a : Int} {m : AW} (hm : m.lo ≤ m.next) (ha : Fit .i64 a) (h : op < 16 ∨ 18 < op) : Fc prog 24 [.int .i64 2, .int .i64 op, .int .i64 a] m fun v m' => v = .tuple ⟨[.int .i64 0, .int .i64 2]⟩ ∧ Ext m m' := by
 refine Fc.body (c := _) func24 rfl rfl rfl rfl hm ?_
 refine .seq (.region (.P2 ?_))
 refine .nil (.seq (.seq (.region (.P ?_))))
 refine .calln _ _ _ rfl rfl rfl rfl rfl rfl (fun m hm => of_i32 hm.lole) (fun x hx => ?_)
 clear hx
 refine .P3 ?_
 refine .alloc rfl rfl rfl rfl zr59 (fun b8 hb8 => ?_)
 refine .S sz59 ?_
 refine .P ?_
 refine .nil (.seq (.seq (.seq (.region (.P2 ?_)))))
 refine .nil (.seq (.cond_false rfl (.skip (.seq (.seq (.region (.F fa59_0 ?_)))))))
 refine .L ag54 ?_
 refine .P ?_
 refine .call _ rfl rfl rfl rfl rfl rfl (fun m hm => cl_i32_1 hm.lole ha) ?_
 refine .P ?_
 refine .nil (.seq (.seq (.block (.seq (.region (.P2 ?_))))))
 refine .as 24 (.bool false) rfl (congrArg Value.bool (by rw [eqI_eq]; exact decide_eq_false (by omega))) ?_
 refine .P ?_
 refine .nil (.seq (.cond_false rfl (.seq (.region (.P2 ?_)))))
 refine .as 31 (.bool false) rfl (congrArg Value.bool (by rw [eqI_eq]; exact decide_eq_false (by omega))) ?_
 refine .P ?_
 iterate 3 refine .O ?_
 refine .P2 ?_
 refine .nil (.seq (.cond_false rfl (.seq (.region (.P2 ?_)))))
 refine .as 43 (.bool false) rfl (congrArg Value.bool (by rw [eqI_eq]; exact decide_eq_false (by omega))) ?_
 refine .P ?_
 iterate 2 refine .O ?_
 refine .P2 ?_
 refine .nil (.seq (.cond_false rfl (.skip (.blk (.seq (.seq (.region (.P2 ?_))))))))
 refine .nil (.seq (.ret ?_))
 exact .end_ rfl rfl (fun m hm => ⟨rfl, hm.ext⟩)
theorem Arith_i64_5 {a b : Int} {m : AW} (hm : m.lo ≤ m.next) (ha : Fit .i64 a) (hb : Fit .i64 b) : Fc prog 19 [.int .i64 3, .int .i64 5, .int .i64 a, .int .i64 b] m fun v m' => v = .tuple ⟨[.int .i64 (bitV (· &&& ·) .i64 (wr .i64 a) (wr .i64 b)), .int .i64 0]⟩ ∧ Ext m m' := by
 refine Fc.body (c := _) func19 rfl rfl rfl rfl hm ?_
 refine .seq (.region (.P2 ?_))
 refine .nil (.seq (.seq (.region (.P ?_))))
 refine .calln _ _ _ rfl rfl rfl rfl rfl rfl (fun m hm => of_i64 hm.lole) (fun x hx => ?_)
 clear hx
 refine .P3 ?_
 refine .alloc rfl rfl rfl rfl zr59 (fun b10 hb10 => ?_)
 refine .S sz59 ?_
 refine .P ?_
 refine .nil (.seq (.seq (.seq (.region (.P2 ?_)))))
 refine .nil (.seq (.cond_false rfl (.skip (.seq (.seq (.block (.seq (.region (.P3 ?_)))))))))
 iterate 3 refine .O ?_
 refine .P2 ?_
 refine .nil (.seq (.cond_false rfl (.seq (.region (.P3 ?_)))))
 iterate 3 refine .O ?_
 refine .P2 ?_
 refine .nil (.seq (.cond_false rfl (.skip (.blk (.seq (.seq (.region (.P ?_))))))))
 refine .call _ rfl rfl rfl rfl rfl rfl (fun m hm => arithmetic_5 hm.lole) ?_
 iterate 5 refine .P ?_
 refine .nil (.seq (.seq (.seq (.region ?_))))
 iterate 4 refine .P ?_
 refine .F fa59_1 ?_
 refine .indexArr rfl rfl rfl rfl underlying56 sz55 rfl rfl (by decide) ?_
 refine .L ag55 ?_
 refine .bin (v := .bool false) rfl rfl rfl rfl rfl rfl (by kernel_rfl) ?_
 refine .P ?_
 refine .nil (.seq (.cond_false rfl (.skip (.seq (.seq ?_)))))
 refine .D [(15, 0), (3, 1), (15, 0), (7, 7), (12, 0), (0, 16), (12, 0), (7, 127), (15, 255), (15, 511)] (by kernel_rfl) (by kernel_rfl) (fun base hbase hB => ?_)
 refine .F fa59_0 ?_
 refine .J ag54 ?_
 refine .P ?_
 refine .call _ rfl rfl rfl rfl rfl rfl rfl rfl rfl (fun m hm => cl_i64_1 hm.lole ha) ?_
 refine .F fa59_0 ?_
 refine .R ag54 hB ?_
 refine .P ?_
 refine .call _ rfl rfl rfl rfl rfl rfl rfl rfl rfl (fun m hm => cl_i64_1 hm.lole hb) ?_
 iterate 2 refine .P ?_
 refine .nil (.seq (.seq (.seq (.region ?_))))
 iterate 7 refine .P ?_
 iterate 2 refine .O ?_
 refine .P2 ?_
 iterate 2 refine .O ?_
 refine .P ?_
 refine .nil (.seq (.cond_false rfl (.skip (.seq (.seq (.region (.P ?_)))))))
 refine .F fa59_1 ?_
 refine .indexArr rfl rfl rfl rfl underlying56 sz55 rfl rfl (by decide) ?_
 refine .L ag55 ?_
 refine .P2 ?_
 refine .call _ rfl rfl rfl rfl rfl rfl (fun m hm => cl_i64_and hm.lole (Fit.wr _ _) (Fit.wr _ _)) ?_
 refine .P2 ?_
 refine .nil (.seq (.ret ?_))
 exact .end_ rfl rfl (fun m hm => ⟨rfl, hm.ext⟩)
theorem Arith_i64_6 {a b : Int} {m : AW} (hm : m.lo ≤ m.next) (ha : Fit .i64 a) (hb : Fit .i64 b) : Fc prog 19 [.int .i64 3, .int .i64 6, .int .i64 a, .int .i64 b] m fun v m' => v = .tuple ⟨[.int .i64 (bitV (· ||| ·) .i64 (wr .i64 a) (wr .i64 b)), .int .i64 0]⟩ ∧ Ext m m' := by
 refine Fc.body (c := _) func19 rfl rfl rfl rfl hm ?_
 refine .seq (.region (.P2 ?_))
 refine .nil (.seq (.seq (.region (.P ?_))))
 refine .calln _ _ _ rfl rfl rfl rfl rfl rfl (fun m hm => of_i64 hm.lole) (fun x hx => ?_)
 clear hx
 refine .P3 ?_
 refine .alloc rfl rfl rfl rfl zr59 (fun b10 hb10 => ?_)
 refine .S sz59 ?_
 refine .P ?_
 refine .nil (.seq (.seq (.seq (.region (.P2 ?_)))))
 refine .nil (.seq (.cond_false rfl (.skip (.seq (.seq (.block (.seq (.region (.P3 ?_)))))))))
 iterate 3 refine .O ?_
 refine .P2 ?_
 refine .nil (.seq (.cond_false rfl (.seq (.region (.P3 ?_)))))
 iterate 3 refine .O ?_
 refine .P2 ?_
 refine .nil (.seq (.cond_false rfl (.skip (.blk (.seq (.seq (.region (.P ?_))))))))
 refine .call _ rfl rfl rfl rfl rfl rfl (fun m hm => arithmetic_6 hm.lole) ?_
 iterate 5 refine .P ?_
 refine .nil (.seq (.seq (.seq (.region ?_))))
 iterate 4 refine .P ?_
 refine .F fa59_1 ?_
 refine .indexArr rfl rfl rfl rfl underlying56 sz55 rfl rfl (by decide) ?_
 refine .L ag55 ?_
 refine .bin (v := .bool false) rfl rfl rfl rfl rfl rfl (by kernel_rfl) ?_
 refine .P ?_
 refine .nil (.seq (.cond_false rfl (.skip (.seq (.seq ?_)))))
 refine .D [(15, 0), (3, 1), (15, 0), (7, 7), (12, 0), (0, 16), (12, 0), (7, 127), (15, 255), (15, 511)] (by kernel_rfl) (by kernel_rfl) (fun base hbase hB => ?_)
 refine .F fa59_0 ?_
 refine .J ag54 ?_
 refine .P ?_
 refine .call _ rfl rfl rfl rfl rfl rfl rfl rfl rfl (fun m hm => cl_i64_1 hm.lole ha) ?_
 refine .F fa59_0 ?_
 refine .R ag54 hB ?_
 refine .P ?_
 refine .call _ rfl rfl rfl rfl rfl rfl rfl rfl rfl (fun m hm => cl_i64_1 hm.lole hb) ?_
 iterate 2 refine .P ?_
 refine .nil (.seq (.seq (.seq (.region ?_))))
 iterate 7 refine .P ?_
 iterate 2 refine .O ?_
 refine .P2 ?_
 iterate 2 refine .O ?_
 refine .P ?_
 refine .nil (.seq (.cond_false rfl (.skip (.seq (.seq (.region (.P ?_)))))))
 refine .F fa59_1 ?_
 refine .indexArr rfl rfl rfl rfl underlying56 sz55 rfl rfl (by decide) ?_
 refine .L ag55 ?_
 refine .P2 ?_
 refine .call _ rfl rfl rfl rfl rfl rfl (fun m hm => cl_i64_or hm.lole (Fit.wr _ _) (Fit.wr _ _)) ?_
 refine .P2 ?_
 refine .nil (.seq (.ret ?_))
 exact .end_ rfl rfl (fun m hm => ⟨rfl, hm.ext⟩)
theorem Arith_i64_7 {a b : Int} {m : AW} (hm : m.lo ≤ m.next) (ha : Fit .i64 a) (hb : Fit .i64 b) : Fc prog 19 [.int .i64 3, .int .i64 7, .int .i64 a, .int .i64 b] m fun v m' => v = .tuple ⟨[.int .i64 (bitV (· ^^^ ·) .i64 (wr .i64 a) (wr .i64 b)), .int .i64 0]⟩ ∧ Ext m m' := by
 refine Fc.body (c := _) func19 rfl rfl rfl rfl hm ?_
 refine .seq (.region (.P2 ?_))
 refine .nil (.seq (.seq (.region (.P ?_))))
 refine .calln _ _ _ rfl rfl rfl rfl rfl rfl (fun m hm => of_i64 hm.lole) (fun x hx => ?_)
 clear hx
 refine .P3 ?_
 refine .alloc rfl rfl rfl rfl zr59 (fun b10 hb10 => ?_)
 refine .S sz59 ?_
 refine .P ?_
 refine .nil (.seq (.seq (.seq (.region (.P2 ?_)))))
 refine .nil (.seq (.cond_false rfl (.skip (.seq (.seq (.block (.seq (.region (.P3 ?_)))))))))
 iterate 3 refine .O ?_
 refine .P2 ?_
 refine .nil (.seq (.cond_false rfl (.seq (.region (.P3 ?_)))))
 iterate 3 refine .O ?_
 refine .P2 ?_
 refine .nil (.seq (.cond_false rfl (.skip (.blk (.seq (.seq (.region (.P ?_))))))))
 refine .call _ rfl rfl rfl rfl rfl rfl (fun m hm => arithmetic_7 hm.lole) ?_
 iterate 5 refine .P ?_
 refine .nil (.seq (.seq (.seq (.region ?_))))
 iterate 4 refine .P ?_
 refine .F fa59_1 ?_
 refine .indexArr rfl rfl rfl rfl underlying56 sz55 rfl rfl (by decide) ?_
 refine .L ag55 ?_
 refine .bin (v := .bool false) rfl rfl rfl rfl rfl rfl (by kernel_rfl) ?_
 refine .P ?_
 refine .nil (.seq (.cond_false rfl (.skip (.seq (.seq ?_)))))
 refine .D [(15, 0), (3, 1), (15, 0), (7, 7), (12, 0), (0, 16), (12, 0), (7, 127), (15, 255), (15, 511)] (by kernel_rfl) (by kernel_rfl) (fun base hbase hB => ?_)
 refine .F fa59_0 ?_
 refine .J ag54 ?_
 refine .P ?_
 refine .call _ rfl rfl rfl rfl rfl rfl rfl rfl rfl (fun m hm => cl_i64_1 hm.lole ha) ?_
 refine .F fa59_0 ?_
 refine .R ag54 hB ?_
 refine .P ?_
 refine .call _ rfl rfl rfl rfl rfl rfl rfl rfl rfl (fun m hm => cl_i64_1 hm.lole hb) ?_
 iterate 2 refine .P ?_
 refine .nil (.seq (.seq (.seq (.region ?_))))
 iterate 7 refine .P ?_
 iterate 2 refine .O ?_
 refine .P2 ?_
 iterate 2 refine .O ?_
 refine .P ?_
 refine .nil (.seq (.cond_false rfl (.skip (.seq (.seq (.region (.P ?_)))))))
 refine .F fa59_1 ?_
 refine .indexArr rfl rfl rfl rfl underlying56 sz55 rfl rfl (by decide) ?_
 refine .L ag55 ?_
 refine .P2 ?_
 refine .call _ rfl rfl rfl rfl rfl rfl (fun m hm => cl_i64_xor hm.lole (Fit.wr _ _) (Fit.wr _ _)) ?_
 refine .P2 ?_
 refine .nil (.seq (.ret ?_))
 exact .end_ rfl rfl (fun m hm => ⟨rfl, hm.ext⟩)
theorem Arith_i64_other {op a b : Int} {m : AW} (hm : m.lo ≤ m.next) (h : op < 0 ∨ 9 < op) : Fc prog 19 [.int .i64 3, .int .i64 op, .int .i64 a, .int .i64 b] m fun v m' => v = .tuple ⟨[.int .i64 0, .int .i64 2]⟩ ∧ Ext m m' := by
 refine Fc.body (c := _) func19 rfl rfl rfl rfl hm ?_
 refine .seq (.region (.P2 ?_))
 refine .nil (.seq (.seq (.region (.P ?_))))
 refine .calln _ _ _ rfl rfl rfl rfl rfl rfl (fun m hm => of_i64 hm.lole) (fun x hx => ?_)
 clear hx
 refine .P3 ?_
 refine .alloc rfl rfl rfl rfl zr59 (fun b10 hb10 => ?_)
 refine .S sz59 ?_
 refine .P ?_
 refine .nil (.seq (.seq (.seq (.region (.P2 ?_)))))
 refine .nil (.seq (.cond_false rfl (.skip (.seq (.seq (.block (.seq (.region (.P2 ?_)))))))))
 refine .as 24 (.bool false) rfl (congrArg Value.bool (by rw [eqI_eq]; exact decide_eq_false (by omega))) ?_
 refine .P ?_
 iterate 3 refine .O ?_
 refine .P2 ?_
 refine .nil (.seq (.cond_false rfl (.seq (.region (.P2 ?_)))))
 refine .as 42 (.bool false) rfl (congrArg Value.bool (by rw [eqI_eq]; exact decide_eq_false (by omega))) ?_
 refine .P ?_
 iterate 3 refine .O ?_
 refine .P2 ?_
 refine .nil (.seq (.cond_false rfl (.skip (.blk (.seq (.seq (.region (.P ?_))))))))
 refine .call _ rfl rfl rfl rfl rfl rfl (fun m hm => arithmetic_none hm.lole (by omega)) ?_
 iterate 5 refine .P ?_
 refine .nil (.seq (.seq (.seq (.region (.P3 ?_)))))
 iterate 5 refine .O ?_
 refine .P ?_
 refine .nil (.seq (.cond_true rfl (.seq (.region (.P2 ?_)))))
 refine .nil (.seq (.ret (.seq ?_)))
 exact .end_ rfl rfl (fun m hm => ⟨rfl, hm.ext⟩)
theorem Unary_i64_16 {a : Int} {m : AW} (hm : m.lo ≤ m.next) (ha : Fit .i64 a) : Fc prog 24 [.int .i64 3, .int .i64 16, .int .i64 a] m fun v m' => v = .tuple ⟨[.int .i64 (wr .i64 (0 - wr .i64 a)), .int .i64 0]⟩ ∧ Ext m m' := by
 refine Fc.body (c := _) func24 rfl rfl rfl rfl hm ?_
 refine .seq (.region (.P2 ?_))
 refine .nil (.seq (.seq (.region (.P ?_))))
 refine .calln _ _ _ rfl rfl rfl rfl rfl rfl (fun m hm => of_i64 hm.lole) (fun x hx => ?_)
 clear hx
 refine .P3 ?_
 refine .alloc rfl rfl rfl rfl zr59 (fun b8 hb8 => ?_)
 refine .S sz59 ?_
 refine .P ?_
 refine .nil (.seq (.seq (.seq (.region (.P2 ?_)))))
 refine .nil (.seq (.cond_false rfl (.skip (.seq (.seq (.region (.F fa59_0 ?_)))))))
 refine .L ag54 ?_
 refine .P ?_
 refine .call _ rfl rfl rfl rfl rfl rfl (fun m hm => cl_i64_1 hm.lole ha) ?_
 refine .P ?_
 refine .nil (.seq (.seq (.block (.seq (.region (.P3 ?_))))))
 refine .nil (.seq (.cond_true rfl (.seq (.region (.F fa59_4 ?_)))))
 refine .L ag54 ?_
 refine .P ?_
 refine .call _ rfl rfl rfl rfl rfl rfl (fun m hm => cl_i64_neg hm.lole (Fit.wr _ _)) ?_
 refine .P2 ?_
 refine .nil (.seq (.ret (.blk (.seq ?_))))
 exact .end_ rfl rfl (fun m hm => ⟨rfl, hm.ext⟩)
theorem Unary_i64_17 {a : Int} {m : AW} (hm : m.lo ≤ m.next) (ha : Fit .i64 a) : Fc prog 24 [.int .i64 3, .int .i64 17, .int .i64 a] m fun v m' => v = .tuple ⟨[.int .i64 (wr .i64 (-1 - wr .i64 a)), .int .i64 0]⟩ ∧ Ext m m' := by
 refine Fc.body (c := _) func24 rfl rfl rfl rfl hm ?_
 refine .seq (.region (.P2 ?_))
 refine .nil (.seq (.seq (.region (.P ?_))))
 refine .calln _ _ _ rfl rfl rfl rfl rfl rfl (fun m hm => of_i64 hm.lole) (fun x hx => ?_)
 clear hx
 refine .P3 ?_
 refine .alloc rfl rfl rfl rfl zr59 (fun b8 hb8 => ?_)
 refine .S sz59 ?_
 refine .P ?_
 refine .nil (.seq (.seq (.seq (.region (.P2 ?_)))))
 refine .nil (.seq (.cond_false rfl (.skip (.seq (.seq (.region (.F fa59_0 ?_)))))))
 refine .L ag54 ?_
 refine .P ?_
 refine .call _ rfl rfl rfl rfl rfl rfl (fun m hm => cl_i64_1 hm.lole ha) ?_
 refine .P ?_
 refine .nil (.seq (.seq (.block (.seq (.region (.P3 ?_))))))
 refine .nil (.seq (.cond_false rfl (.seq (.region (.P3 ?_)))))
 refine .F fa59_5 ?_
 refine .L ag54 ?_
 refine .bin (v := .bool true) rfl rfl rfl rfl rfl rfl (by kernel_rfl) ?_
 refine .P2 ?_
 refine .nil (.seq (.cond_true rfl (.seq (.region (.F fa59_5 ?_)))))
 refine .L ag54 ?_
 refine .P ?_
 refine .call _ rfl rfl rfl rfl rfl rfl (fun m hm => cl_i64_not hm.lole (Fit.wr _ _)) ?_
 refine .P2 ?_
 refine .nil (.seq (.ret (.blk (.seq ?_))))
 exact .end_ rfl rfl (fun m hm => ⟨rfl, hm.ext⟩)
theorem Unary_i64_18 {a : Int} {m : AW} (hm : m.lo ≤ m.next) (ha : Fit .i64 a) : Fc prog 24 [.int .i64 3, .int .i64 18, .int .i64 a] m fun v m' => v = .tuple ⟨[.int .i64 0, .int .i64 2]⟩ ∧ Ext m m' := by
 refine Fc.body (c := _) func24 rfl rfl rfl rfl hm ?_
 refine .seq (.region (.P2 ?_))
 refine .nil (.seq (.seq (.region (.P ?_))))
 refine .calln _ _ _ rfl rfl rfl rfl rfl rfl (fun m hm => of_i64 hm.lole) (fun x hx => ?_)
 clear hx
 refine .P3 ?_
 refine .alloc rfl rfl rfl rfl zr59 (fun b8 hb8 => ?_)
 refine .S sz59 ?_
 refine .P ?_
 refine .nil (.seq (.seq (.seq (.region (.P2 ?_)))))
 refine .nil (.seq (.cond_false rfl (.skip (.seq (.seq (.region (.F fa59_0 ?_)))))))
 refine .L ag54 ?_
 refine .P ?_
 refine .call _ rfl rfl rfl rfl rfl rfl (fun m hm => cl_i64_1 hm.lole ha) ?_
 refine .P ?_
 refine .nil (.seq (.seq (.block (.seq (.region (.P3 ?_))))))
 refine .nil (.seq (.cond_false rfl (.seq (.region (.P3 ?_)))))
 iterate 3 refine .O ?_
 refine .P2 ?_
 refine .nil (.seq (.cond_false rfl (.seq (.region ?_))))
 iterate 7 refine .P ?_
 refine .nil (.seq (.cond_false rfl (.skip (.blk (.seq (.seq (.region (.P2 ?_))))))))
 refine .nil (.seq (.ret ?_))
 exact .end_ rfl rfl (fun m hm => ⟨rfl, hm.ext⟩)
theorem Unary_i64_other {op a : Int} {m : AW} (hm : m.lo ≤ m.next) (ha : Fit .i64 a) (h : op < 16 ∨ 18 < op) : Fc prog 24 [.int .i64 3, .int .i64 op, .int .i64 a] m fun v m' => v = .tuple ⟨[.int .i64 0, .int .i64 2]⟩ ∧ Ext m m' := by
 refine Fc.body (c := _) func24 rfl rfl rfl rfl hm ?_
 refine .seq (.region (.P2 ?_))
 refine .nil (.seq (.seq (.region (.P ?_))))
 refine .calln _ _ _ rfl rfl rfl rfl rfl rfl (fun m hm => of_i64 hm.lole) (fun x hx => ?_)
 clear hx
 refine .P3 ?_
 refine .alloc rfl rfl rfl rfl zr59 (fun b8 hb8 => ?_)
 refine .S sz59 ?_
 refine .P ?_
 refine .nil (.seq (.seq (.seq (.region (.P2 ?_)))))
 refine .nil (.seq (.cond_false rfl (.skip (.seq (.seq (.region (.F fa59_0 ?_)))))))
 refine .L ag54 ?_
 refine .P ?_
 refine .call _ rfl rfl rfl rfl rfl rfl (fun m hm => cl_i64_1 hm.lole ha) ?_
 refine .P ?_
 refine .nil (.seq (.seq (.block (.seq (.region (.P2 ?_))))))
 refine .as 24 (.bool false) rfl (congrArg Value.bool (by rw [eqI_eq]; exact decide_eq_false (by omega))) ?_
 refine .P ?_
 refine .nil (.seq (.cond_false rfl (.seq (.region (.P2 ?_)))))
 refine .as 31 (.bool false) rfl (congrArg Value.bool (by rw [eqI_eq]; exact decide_eq_false (by omega))) ?_
 refine .P ?_
 iterate 3 refine .O ?_
 refine .P2 ?_
 refine .nil (.seq (.cond_false rfl (.seq (.region (.P2 ?_)))))
 refine .as 43 (.bool false) rfl (congrArg Value.bool (by rw [eqI_eq]; exact decide_eq_false (by omega))) ?_
 refine .P ?_
 iterate 2 refine .O ?_
 refine .P2 ?_
 refine .nil (.seq (.cond_false rfl (.skip (.blk (.seq (.seq (.region (.P2 ?_))))))))
 refine .nil (.seq (.ret ?_))
 exact .end_ rfl rfl (fun m hm => ⟨rfl, hm.ext⟩)
theorem negR_ref {n : Int} : w4 (wr .i64 (bitV (· ^^^ ·) .u64 (wr .u64 n) 9223372036854775808)) = negR n := negR_refP rfl
theorem fit_w4 {n : Int} (h : Fit .i64 n) : Fit .i64 (w4 n) := by
 unfold w4
 split
 ·rfl
 exact h
theorem clr_add {a b : Int} {m : AW} (hl : LaidAt lays m) : Fc prog 128 [.int .i64 a, .int .i64 b] m fun v m' => v = .int .i64 (realV .add (flb a) (flb b)) ∧ Ext m m' :=
 Fc.said func128 (by kernel_rfl) rfl rfl fewer hl
theorem rreals_0 {x y : Nat} {m : AW} (hl : LaidAt lays m) : Fc prog 54 [.int .i64 0, .float .f64 x, .float .f64 y] m fun v m' => v = .int .i64 (realV .add x y) ∧ Ext m m' :=
 Fc.said func54 (by kernel_rfl) rfl rfl fewer hl
theorem clr_sub {a b : Int} {m : AW} (hl : LaidAt lays m) : Fc prog 129 [.int .i64 a, .int .i64 b] m fun v m' => v = .int .i64 (realV .sub (flb a) (flb b)) ∧ Ext m m' :=
 Fc.said func129 (by kernel_rfl) rfl rfl fewer hl
theorem rreals_1 {x y : Nat} {m : AW} (hl : LaidAt lays m) : Fc prog 54 [.int .i64 1, .float .f64 x, .float .f64 y] m fun v m' => v = .int .i64 (realV .sub x y) ∧ Ext m m' :=
 Fc.said func54 (by kernel_rfl) rfl rfl fewer hl
theorem clr_mul {a b : Int} {m : AW} (hl : LaidAt lays m) : Fc prog 130 [.int .i64 a, .int .i64 b] m fun v m' => v = .int .i64 (realV .mul (flb a) (flb b)) ∧ Ext m m' :=
 Fc.said func130 (by kernel_rfl) rfl rfl fewer hl
theorem rreals_2 {x y : Nat} {m : AW} (hl : LaidAt lays m) : Fc prog 54 [.int .i64 2, .float .f64 x, .float .f64 y] m fun v m' => v = .int .i64 (realV .mul x y) ∧ Ext m m' :=
 Fc.said func54 (by kernel_rfl) rfl rfl fewer hl
theorem clr_quo {a b : Int} {m : AW} (hl : LaidAt lays m) : Fc prog 131 [.int .i64 a, .int .i64 b] m fun v m' => v = .int .i64 (realV .quo (flb a) (flb b)) ∧ Ext m m' :=
 Fc.said func131 (by kernel_rfl) rfl rfl fewer hl
theorem rreals_3 {x y : Nat} {m : AW} (hl : LaidAt lays m) : Fc prog 54 [.int .i64 3, .float .f64 x, .float .f64 y] m fun v m' => v = .int .i64 (realV .quo x y) ∧ Ext m m' :=
 Fc.said func54 (by kernel_rfl) rfl rfl fewer hl
theorem Arith_real_0 {a b : Int} {m : AW} (hm : m.lo ≤ m.next) (hlay : LaidAt lays m) (ha : Fit .i64 a) (hb : Fit .i64 b) : Fc prog 19 [.int .i64 4, .int .i64 0, .int .i64 a, .int .i64 b] m fun v m' => v = .tuple ⟨[.int .i64 (realV .add (flb (w4 a)) (flb (w4 b))), .int .i64 0]⟩ ∧ Ext m m' := by
 refine Fc.body (c := _) func19 rfl rfl rfl rfl hm ?_
 refine .seq (.region (.P2 ?_))
 refine .nil (.seq (.seq (.region (.P ?_))))
 refine .call _ rfl rfl rfl rfl rfl rfl (fun m hm => of_real hm.lole) ?_
 refine .P3 ?_
 refine .alloc rfl rfl rfl rfl zr59 (fun b10 hb10 => ?_)
 refine .S sz59 ?_
 refine .P ?_
 refine .nil (.seq (.seq (.seq (.region (.P2 ?_)))))
 refine .nil (.seq (.cond_false rfl (.skip (.seq (.seq (.block (.seq (.region (.P3 ?_)))))))))
 iterate 3 refine .O ?_
 refine .P2 ?_
 refine .nil (.seq (.cond_false rfl (.seq (.region (.P3 ?_)))))
 iterate 3 refine .O ?_
 refine .P2 ?_
 refine .nil (.seq (.cond_false rfl (.skip (.blk (.seq (.seq (.region (.P ?_))))))))
 refine .call _ rfl rfl rfl rfl rfl rfl (fun m hm => arithmetic_0 hm.lole) ?_
 iterate 5 refine .P ?_
 refine .nil (.seq (.seq (.seq (.region ?_))))
 iterate 4 refine .P ?_
 refine .F fa59_1 ?_
 refine .indexArr rfl rfl rfl rfl underlying56 sz55 rfl rfl (by decide) ?_
 refine .L ag55 ?_
 refine .bin (v := .bool false) rfl rfl rfl rfl rfl rfl (by kernel_rfl) ?_
 refine .P ?_
 refine .nil (.seq (.cond_false rfl (.skip (.seq (.seq ?_)))))
 refine .D [(15, 0), (3, 1), (15, 0), (7, 7), (12, 0), (0, 16), (12, 0), (7, 127), (15, 255), (15, 511)] (by kernel_rfl) (by kernel_rfl) (fun base hbase hB => ?_)
 refine .F fa59_0 ?_
 refine .J ag54 ?_
 refine .P ?_
 refine .call _ rfl rfl rfl rfl rfl rfl rfl rfl rfl (fun m hm => clr_1 hm.lole ha) ?_
 refine .F fa59_0 ?_
 refine .R ag54 hB ?_
 refine .P ?_
 refine .call _ rfl rfl rfl rfl rfl rfl rfl rfl rfl (fun m hm => clr_1 hm.lole hb) ?_
 iterate 2 refine .P ?_
 refine .nil (.seq (.seq (.seq (.region ?_))))
 iterate 7 refine .P ?_
 iterate 2 refine .O ?_
 refine .P2 ?_
 iterate 2 refine .O ?_
 refine .P ?_
 refine .nil (.seq (.cond_false rfl (.skip (.seq (.seq (.region (.P ?_)))))))
 refine .F fa59_1 ?_
 refine .indexArr rfl rfl rfl rfl underlying56 sz55 rfl rfl (by decide) ?_
 refine .L ag55 ?_
 refine .P2 ?_
 refine .call _ rfl rfl rfl rfl rfl rfl (fun m hm => clr_add (hlay.kr hm)) ?_
 refine .P2 ?_
 refine .nil (.seq (.ret ?_))
 exact .end_ rfl rfl (fun m hm => ⟨rfl, hm.ext⟩)
theorem Arith_real_1 {a b : Int} {m : AW} (hm : m.lo ≤ m.next) (hlay : LaidAt lays m) (ha : Fit .i64 a) (hb : Fit .i64 b) : Fc prog 19 [.int .i64 4, .int .i64 1, .int .i64 a, .int .i64 b] m fun v m' => v = .tuple ⟨[.int .i64 (realV .sub (flb (w4 a)) (flb (w4 b))), .int .i64 0]⟩ ∧ Ext m m' := by
 refine Fc.body (c := _) func19 rfl rfl rfl rfl hm ?_
 refine .seq (.region (.P2 ?_))
 refine .nil (.seq (.seq (.region (.P ?_))))
 refine .call _ rfl rfl rfl rfl rfl rfl (fun m hm => of_real hm.lole) ?_
 refine .P3 ?_
 refine .alloc rfl rfl rfl rfl zr59 (fun b10 hb10 => ?_)
 refine .S sz59 ?_
 refine .P ?_
 refine .nil (.seq (.seq (.seq (.region (.P2 ?_)))))
 refine .nil (.seq (.cond_false rfl (.skip (.seq (.seq (.block (.seq (.region (.P3 ?_)))))))))
 iterate 3 refine .O ?_
 refine .P2 ?_
 refine .nil (.seq (.cond_false rfl (.seq (.region (.P3 ?_)))))
 iterate 3 refine .O ?_
 refine .P2 ?_
 refine .nil (.seq (.cond_false rfl (.skip (.blk (.seq (.seq (.region (.P ?_))))))))
 refine .call _ rfl rfl rfl rfl rfl rfl (fun m hm => arithmetic_1 hm.lole) ?_
 iterate 5 refine .P ?_
 refine .nil (.seq (.seq (.seq (.region ?_))))
 iterate 4 refine .P ?_
 refine .F fa59_1 ?_
 refine .indexArr rfl rfl rfl rfl underlying56 sz55 rfl rfl (by decide) ?_
 refine .L ag55 ?_
 refine .bin (v := .bool false) rfl rfl rfl rfl rfl rfl (by kernel_rfl) ?_
 refine .P ?_
 refine .nil (.seq (.cond_false rfl (.skip (.seq (.seq ?_)))))
 refine .D [(15, 0), (3, 1), (15, 0), (7, 7), (12, 0), (0, 16), (12, 0), (7, 127), (15, 255), (15, 511)] (by kernel_rfl) (by kernel_rfl) (fun base hbase hB => ?_)
 refine .F fa59_0 ?_
 refine .J ag54 ?_
 refine .P ?_
 refine .call _ rfl rfl rfl rfl rfl rfl rfl rfl rfl (fun m hm => clr_1 hm.lole ha) ?_
 refine .F fa59_0 ?_
 refine .R ag54 hB ?_
 refine .P ?_
 refine .call _ rfl rfl rfl rfl rfl rfl rfl rfl rfl (fun m hm => clr_1 hm.lole hb) ?_
 iterate 2 refine .P ?_
 refine .nil (.seq (.seq (.seq (.region ?_))))
 iterate 7 refine .P ?_
 iterate 2 refine .O ?_
 refine .P2 ?_
 iterate 2 refine .O ?_
 refine .P ?_
 refine .nil (.seq (.cond_false rfl (.skip (.seq (.seq (.region (.P ?_)))))))
 refine .F fa59_1 ?_
 refine .indexArr rfl rfl rfl rfl underlying56 sz55 rfl rfl (by decide) ?_
 refine .L ag55 ?_
 refine .P2 ?_
 refine .call _ rfl rfl rfl rfl rfl rfl (fun m hm => clr_sub (hlay.kr hm)) ?_
 refine .P2 ?_
 refine .nil (.seq (.ret ?_))
 exact .end_ rfl rfl (fun m hm => ⟨rfl, hm.ext⟩)
theorem Arith_real_2 {a b : Int} {m : AW} (hm : m.lo ≤ m.next) (hlay : LaidAt lays m) (ha : Fit .i64 a) (hb : Fit .i64 b) : Fc prog 19 [.int .i64 4, .int .i64 2, .int .i64 a, .int .i64 b] m fun v m' => v = .tuple ⟨[.int .i64 (realV .mul (flb (w4 a)) (flb (w4 b))), .int .i64 0]⟩ ∧ Ext m m' := by
 refine Fc.body (c := _) func19 rfl rfl rfl rfl hm ?_
 refine .seq (.region (.P2 ?_))
 refine .nil (.seq (.seq (.region (.P ?_))))
 refine .call _ rfl rfl rfl rfl rfl rfl (fun m hm => of_real hm.lole) ?_
 refine .P3 ?_
 refine .alloc rfl rfl rfl rfl zr59 (fun b10 hb10 => ?_)
 refine .S sz59 ?_
 refine .P ?_
 refine .nil (.seq (.seq (.seq (.region (.P2 ?_)))))
 refine .nil (.seq (.cond_false rfl (.skip (.seq (.seq (.block (.seq (.region (.P3 ?_)))))))))
 iterate 3 refine .O ?_
 refine .P2 ?_
 refine .nil (.seq (.cond_false rfl (.seq (.region (.P3 ?_)))))
 iterate 3 refine .O ?_
 refine .P2 ?_
 refine .nil (.seq (.cond_false rfl (.skip (.blk (.seq (.seq (.region (.P ?_))))))))
 refine .call _ rfl rfl rfl rfl rfl rfl (fun m hm => arithmetic_2 hm.lole) ?_
 iterate 5 refine .P ?_
 refine .nil (.seq (.seq (.seq (.region ?_))))
 iterate 4 refine .P ?_
 refine .F fa59_1 ?_
 refine .indexArr rfl rfl rfl rfl underlying56 sz55 rfl rfl (by decide) ?_
 refine .L ag55 ?_
 refine .bin (v := .bool false) rfl rfl rfl rfl rfl rfl (by kernel_rfl) ?_
 refine .P ?_
 refine .nil (.seq (.cond_false rfl (.skip (.seq (.seq ?_)))))
 refine .D [(15, 0), (3, 1), (15, 0), (7, 7), (12, 0), (0, 16), (12, 0), (7, 127), (15, 255), (15, 511)] (by kernel_rfl) (by kernel_rfl) (fun base hbase hB => ?_)
 refine .F fa59_0 ?_
 refine .J ag54 ?_
 refine .P ?_
 refine .call _ rfl rfl rfl rfl rfl rfl rfl rfl rfl (fun m hm => clr_1 hm.lole ha) ?_
 refine .F fa59_0 ?_
 refine .R ag54 hB ?_
 refine .P ?_
 refine .call _ rfl rfl rfl rfl rfl rfl rfl rfl rfl (fun m hm => clr_1 hm.lole hb) ?_
 iterate 2 refine .P ?_
 refine .nil (.seq (.seq (.seq (.region ?_))))
 iterate 7 refine .P ?_
 iterate 2 refine .O ?_
 refine .P2 ?_
 iterate 2 refine .O ?_
 refine .P ?_
 refine .nil (.seq (.cond_false rfl (.skip (.seq (.seq (.region (.P ?_)))))))
 refine .F fa59_1 ?_
 refine .indexArr rfl rfl rfl rfl underlying56 sz55 rfl rfl (by decide) ?_
 refine .L ag55 ?_
 refine .P2 ?_
 refine .call _ rfl rfl rfl rfl rfl rfl (fun m hm => clr_mul (hlay.kr hm)) ?_
 refine .P2 ?_
 refine .nil (.seq (.ret ?_))
 exact .end_ rfl rfl (fun m hm => ⟨rfl, hm.ext⟩)
theorem Arith_real_3 {a b : Int} {m : AW} (hm : m.lo ≤ m.next) (hlay : LaidAt lays m) (ha : Fit .i64 a) (hb : Fit .i64 b) : Fc prog 19 [.int .i64 4, .int .i64 3, .int .i64 a, .int .i64 b] m fun v m' => v = .tuple ⟨[.int .i64 (realV .quo (flb (w4 a)) (flb (w4 b))), .int .i64 0]⟩ ∧ Ext m m' := by
 refine Fc.body (c := _) func19 rfl rfl rfl rfl hm ?_
 refine .seq (.region (.P2 ?_))
 refine .nil (.seq (.seq (.region (.P ?_))))
 refine .call _ rfl rfl rfl rfl rfl rfl (fun m hm => of_real hm.lole) ?_
 refine .P3 ?_
 refine .alloc rfl rfl rfl rfl zr59 (fun b10 hb10 => ?_)
 refine .S sz59 ?_
 refine .P ?_
 refine .nil (.seq (.seq (.seq (.region (.P2 ?_)))))
 refine .nil (.seq (.cond_false rfl (.skip (.seq (.seq (.block (.seq (.region (.P3 ?_)))))))))
 iterate 3 refine .O ?_
 refine .P2 ?_
 refine .nil (.seq (.cond_false rfl (.seq (.region (.P3 ?_)))))
 iterate 3 refine .O ?_
 refine .P2 ?_
 refine .nil (.seq (.cond_false rfl (.skip (.blk (.seq (.seq (.region (.P ?_))))))))
 refine .call _ rfl rfl rfl rfl rfl rfl (fun m hm => arithmetic_3 hm.lole) ?_
 iterate 5 refine .P ?_
 refine .nil (.seq (.seq (.seq (.region ?_))))
 iterate 4 refine .P ?_
 refine .F fa59_1 ?_
 refine .indexArr rfl rfl rfl rfl underlying56 sz55 rfl rfl (by decide) ?_
 refine .L ag55 ?_
 refine .bin (v := .bool false) rfl rfl rfl rfl rfl rfl (by kernel_rfl) ?_
 refine .P ?_
 refine .nil (.seq (.cond_false rfl (.skip (.seq (.seq ?_)))))
 refine .D [(15, 0), (3, 1), (15, 0), (7, 7), (12, 0), (0, 16), (12, 0), (7, 127), (15, 255), (15, 511)] (by kernel_rfl) (by kernel_rfl) (fun base hbase hB => ?_)
 refine .F fa59_0 ?_
 refine .J ag54 ?_
 refine .P ?_
 refine .call _ rfl rfl rfl rfl rfl rfl rfl rfl rfl (fun m hm => clr_1 hm.lole ha) ?_
 refine .F fa59_0 ?_
 refine .R ag54 hB ?_
 refine .P ?_
 refine .call _ rfl rfl rfl rfl rfl rfl rfl rfl rfl (fun m hm => clr_1 hm.lole hb) ?_
 iterate 2 refine .P ?_
 refine .nil (.seq (.seq (.seq (.region (.P3 ?_)))))
 iterate 2 refine .O ?_
 iterate 6 refine .P ?_
 iterate 2 refine .O ?_
 refine .P ?_
 refine .nil (.seq (.cond_false rfl (.skip (.seq (.seq (.region (.P ?_)))))))
 refine .F fa59_1 ?_
 refine .indexArr rfl rfl rfl rfl underlying56 sz55 rfl rfl (by decide) ?_
 refine .L ag55 ?_
 refine .P2 ?_
 refine .call _ rfl rfl rfl rfl rfl rfl (fun m hm => clr_quo (hlay.kr hm)) ?_
 refine .P2 ?_
 refine .nil (.seq (.ret ?_))
 exact .end_ rfl rfl (fun m hm => ⟨rfl, hm.ext⟩)
theorem Arith_real_4 {a b : Int} {m : AW} (hm : m.lo ≤ m.next) : Fc prog 19 [.int .i64 4, .int .i64 4, .int .i64 a, .int .i64 b] m fun v m' => v = .tuple ⟨[.int .i64 0, .int .i64 2]⟩ ∧ Ext m m' := by
 refine Fc.body (c := _) func19 rfl rfl rfl rfl hm ?_
 refine .seq (.region (.P2 ?_))
 refine .nil (.seq (.seq (.region (.P ?_))))
 refine .call _ rfl rfl rfl rfl rfl rfl (fun m hm => of_real hm.lole) ?_
 refine .P3 ?_
 refine .alloc rfl rfl rfl rfl zr59 (fun b10 hb10 => ?_)
 refine .S sz59 ?_
 refine .P ?_
 refine .nil (.seq (.seq (.seq (.region (.P2 ?_)))))
 refine .nil (.seq (.cond_false rfl (.skip (.seq (.seq (.block (.seq (.region (.P3 ?_)))))))))
 iterate 3 refine .O ?_
 refine .P2 ?_
 refine .nil (.seq (.cond_false rfl (.seq (.region (.P3 ?_)))))
 iterate 3 refine .O ?_
 refine .P2 ?_
 refine .nil (.seq (.cond_false rfl (.skip (.blk (.seq (.seq (.region (.P ?_))))))))
 refine .call _ rfl rfl rfl rfl rfl rfl (fun m hm => arithmetic_4 hm.lole) ?_
 iterate 5 refine .P ?_
 refine .nil (.seq (.seq (.seq (.region ?_))))
 iterate 4 refine .P ?_
 refine .F fa59_1 ?_
 refine .indexArr rfl rfl rfl rfl underlying56 sz55 rfl rfl (by decide) ?_
 refine .L ag55 ?_
 refine .bin (v := .bool true) rfl rfl rfl rfl rfl rfl (by kernel_rfl) ?_
 refine .P ?_
 refine .nil (.seq (.cond_true rfl (.seq (.region (.P2 ?_)))))
 refine .nil (.seq (.ret (.seq ?_)))
 exact .end_ rfl rfl (fun m hm => ⟨rfl, hm.ext⟩)
theorem Arith_real_5 {a b : Int} {m : AW} (hm : m.lo ≤ m.next) : Fc prog 19 [.int .i64 4, .int .i64 5, .int .i64 a, .int .i64 b] m fun v m' => v = .tuple ⟨[.int .i64 0, .int .i64 2]⟩ ∧ Ext m m' := by
 refine Fc.body (c := _) func19 rfl rfl rfl rfl hm ?_
 refine .seq (.region (.P2 ?_))
 refine .nil (.seq (.seq (.region (.P ?_))))
 refine .call _ rfl rfl rfl rfl rfl rfl (fun m hm => of_real hm.lole) ?_
 refine .P3 ?_
 refine .alloc rfl rfl rfl rfl zr59 (fun b10 hb10 => ?_)
 refine .S sz59 ?_
 refine .P ?_
 refine .nil (.seq (.seq (.seq (.region (.P2 ?_)))))
 refine .nil (.seq (.cond_false rfl (.skip (.seq (.seq (.block (.seq (.region (.P3 ?_)))))))))
 iterate 3 refine .O ?_
 refine .P2 ?_
 refine .nil (.seq (.cond_false rfl (.seq (.region (.P3 ?_)))))
 iterate 3 refine .O ?_
 refine .P2 ?_
 refine .nil (.seq (.cond_false rfl (.skip (.blk (.seq (.seq (.region (.P ?_))))))))
 refine .call _ rfl rfl rfl rfl rfl rfl (fun m hm => arithmetic_5 hm.lole) ?_
 iterate 5 refine .P ?_
 refine .nil (.seq (.seq (.seq (.region ?_))))
 iterate 4 refine .P ?_
 refine .F fa59_1 ?_
 refine .indexArr rfl rfl rfl rfl underlying56 sz55 rfl rfl (by decide) ?_
 refine .L ag55 ?_
 refine .bin (v := .bool true) rfl rfl rfl rfl rfl rfl (by kernel_rfl) ?_
 refine .P ?_
 refine .nil (.seq (.cond_true rfl (.seq (.region (.P2 ?_)))))
 refine .nil (.seq (.ret (.seq ?_)))
 exact .end_ rfl rfl (fun m hm => ⟨rfl, hm.ext⟩)
theorem Arith_real_6 {a b : Int} {m : AW} (hm : m.lo ≤ m.next) : Fc prog 19 [.int .i64 4, .int .i64 6, .int .i64 a, .int .i64 b] m fun v m' => v = .tuple ⟨[.int .i64 0, .int .i64 2]⟩ ∧ Ext m m' := by
 refine Fc.body (c := _) func19 rfl rfl rfl rfl hm ?_
 refine .seq (.region (.P2 ?_))
 refine .nil (.seq (.seq (.region (.P ?_))))
 refine .call _ rfl rfl rfl rfl rfl rfl (fun m hm => of_real hm.lole) ?_
 refine .P3 ?_
 refine .alloc rfl rfl rfl rfl zr59 (fun b10 hb10 => ?_)
 refine .S sz59 ?_
 refine .P ?_
 refine .nil (.seq (.seq (.seq (.region (.P2 ?_)))))
 refine .nil (.seq (.cond_false rfl (.skip (.seq (.seq (.block (.seq (.region (.P3 ?_)))))))))
 iterate 3 refine .O ?_
 refine .P2 ?_
 refine .nil (.seq (.cond_false rfl (.seq (.region (.P3 ?_)))))
 iterate 3 refine .O ?_
 refine .P2 ?_
 refine .nil (.seq (.cond_false rfl (.skip (.blk (.seq (.seq (.region (.P ?_))))))))
 refine .call _ rfl rfl rfl rfl rfl rfl (fun m hm => arithmetic_6 hm.lole) ?_
 iterate 5 refine .P ?_
 refine .nil (.seq (.seq (.seq (.region ?_))))
 iterate 4 refine .P ?_
 refine .F fa59_1 ?_
 refine .indexArr rfl rfl rfl rfl underlying56 sz55 rfl rfl (by decide) ?_
 refine .L ag55 ?_
 refine .bin (v := .bool true) rfl rfl rfl rfl rfl rfl (by kernel_rfl) ?_
 refine .P ?_
 refine .nil (.seq (.cond_true rfl (.seq (.region (.P2 ?_)))))
 refine .nil (.seq (.ret (.seq ?_)))
 exact .end_ rfl rfl (fun m hm => ⟨rfl, hm.ext⟩)
theorem Arith_real_7 {a b : Int} {m : AW} (hm : m.lo ≤ m.next) : Fc prog 19 [.int .i64 4, .int .i64 7, .int .i64 a, .int .i64 b] m fun v m' => v = .tuple ⟨[.int .i64 0, .int .i64 2]⟩ ∧ Ext m m' := by
 refine Fc.body (c := _) func19 rfl rfl rfl rfl hm ?_
 refine .seq (.region (.P2 ?_))
 refine .nil (.seq (.seq (.region (.P ?_))))
 refine .call _ rfl rfl rfl rfl rfl rfl (fun m hm => of_real hm.lole) ?_
 refine .P3 ?_
 refine .alloc rfl rfl rfl rfl zr59 (fun b10 hb10 => ?_)
 refine .S sz59 ?_
 refine .P ?_
 refine .nil (.seq (.seq (.seq (.region (.P2 ?_)))))
 refine .nil (.seq (.cond_false rfl (.skip (.seq (.seq (.block (.seq (.region (.P3 ?_)))))))))
 iterate 3 refine .O ?_
 refine .P2 ?_
 refine .nil (.seq (.cond_false rfl (.seq (.region (.P3 ?_)))))
 iterate 3 refine .O ?_
 refine .P2 ?_
 refine .nil (.seq (.cond_false rfl (.skip (.blk (.seq (.seq (.region (.P ?_))))))))
 refine .call _ rfl rfl rfl rfl rfl rfl (fun m hm => arithmetic_7 hm.lole) ?_
 iterate 5 refine .P ?_
 refine .nil (.seq (.seq (.seq (.region ?_))))
 iterate 4 refine .P ?_
 refine .F fa59_1 ?_
 refine .indexArr rfl rfl rfl rfl underlying56 sz55 rfl rfl (by decide) ?_
 refine .L ag55 ?_
 refine .bin (v := .bool true) rfl rfl rfl rfl rfl rfl (by kernel_rfl) ?_
 refine .P ?_
 refine .nil (.seq (.cond_true rfl (.seq (.region (.P2 ?_)))))
 refine .nil (.seq (.ret (.seq ?_)))
 exact .end_ rfl rfl (fun m hm => ⟨rfl, hm.ext⟩)
theorem Arith_real_8 {a b : Int} {m : AW} (hm : m.lo ≤ m.next) : Fc prog 19 [.int .i64 4, .int .i64 8, .int .i64 a, .int .i64 b] m fun v m' => v = .tuple ⟨[.int .i64 0, .int .i64 2]⟩ ∧ Ext m m' := by
 refine Fc.body (c := _) func19 rfl rfl rfl rfl hm ?_
 refine .seq (.region (.P2 ?_))
 refine .nil (.seq (.seq (.region (.P ?_))))
 refine .call _ rfl rfl rfl rfl rfl rfl (fun m hm => of_real hm.lole) ?_
 refine .P3 ?_
 refine .alloc rfl rfl rfl rfl zr59 (fun b10 hb10 => ?_)
 refine .S sz59 ?_
 refine .P ?_
 refine .nil (.seq (.seq (.seq (.region (.P2 ?_)))))
 refine .nil (.seq (.cond_false rfl (.skip (.seq (.seq (.block (.seq (.region (.P3 ?_)))))))))
 refine .F fa59_2 ?_
 refine .L ag55 ?_
 refine .bin (v := .bool false) rfl rfl rfl rfl rfl rfl (by kernel_rfl) ?_
 refine .P2 ?_
 refine .nil (.seq (.cond_false rfl (.seq (.region (.P3 ?_)))))
 iterate 3 refine .O ?_
 refine .P2 ?_
 refine .nil (.seq (.cond_false rfl (.skip (.blk (.seq (.seq (.region (.P ?_))))))))
 refine .call _ rfl rfl rfl rfl rfl rfl (fun m hm => arithmetic_none hm.lole (by omega)) ?_
 iterate 5 refine .P ?_
 refine .nil (.seq (.seq (.seq (.region (.P3 ?_)))))
 iterate 5 refine .O ?_
 refine .P ?_
 refine .nil (.seq (.cond_true rfl (.seq (.region (.P2 ?_)))))
 refine .nil (.seq (.ret (.seq ?_)))
 exact .end_ rfl rfl (fun m hm => ⟨rfl, hm.ext⟩)
theorem Arith_real_9 {a b : Int} {m : AW} (hm : m.lo ≤ m.next) : Fc prog 19 [.int .i64 4, .int .i64 9, .int .i64 a, .int .i64 b] m fun v m' => v = .tuple ⟨[.int .i64 0, .int .i64 2]⟩ ∧ Ext m m' := by
 refine Fc.body (c := _) func19 rfl rfl rfl rfl hm ?_
 refine .seq (.region (.P2 ?_))
 refine .nil (.seq (.seq (.region (.P ?_))))
 refine .call _ rfl rfl rfl rfl rfl rfl (fun m hm => of_real hm.lole) ?_
 refine .P3 ?_
 refine .alloc rfl rfl rfl rfl zr59 (fun b10 hb10 => ?_)
 refine .S sz59 ?_
 refine .P ?_
 refine .nil (.seq (.seq (.seq (.region (.P2 ?_)))))
 refine .nil (.seq (.cond_false rfl (.skip (.seq (.seq (.block (.seq (.region (.P3 ?_)))))))))
 iterate 3 refine .O ?_
 refine .P2 ?_
 refine .nil (.seq (.cond_false rfl (.seq (.region (.P3 ?_)))))
 refine .F fa59_3 ?_
 refine .L ag55 ?_
 refine .bin (v := .bool false) rfl rfl rfl rfl rfl rfl (by kernel_rfl) ?_
 refine .P2 ?_
 refine .nil (.seq (.cond_false rfl (.skip (.blk (.seq (.seq (.region (.P ?_))))))))
 refine .call _ rfl rfl rfl rfl rfl rfl (fun m hm => arithmetic_none hm.lole (by omega)) ?_
 iterate 5 refine .P ?_
 refine .nil (.seq (.seq (.seq (.region (.P3 ?_)))))
 iterate 5 refine .O ?_
 refine .P ?_
 refine .nil (.seq (.cond_true rfl (.seq (.region (.P2 ?_)))))
 refine .nil (.seq (.ret (.seq ?_)))
 exact .end_ rfl rfl (fun m hm => ⟨rfl, hm.ext⟩)
theorem Arith_real_other {op a b : Int} {m : AW} (hm : m.lo ≤ m.next) (h : op < 0 ∨ 9 < op) : Fc prog 19 [.int .i64 4, .int .i64 op, .int .i64 a, .int .i64 b] m fun v m' => v = .tuple ⟨[.int .i64 0, .int .i64 2]⟩ ∧ Ext m m' := by
 refine Fc.body (c := _) func19 rfl rfl rfl rfl hm ?_
 refine .seq (.region (.P2 ?_))
 refine .nil (.seq (.seq (.region (.P ?_))))
 refine .call _ rfl rfl rfl rfl rfl rfl (fun m hm => of_real hm.lole) ?_
 refine .P3 ?_
 refine .alloc rfl rfl rfl rfl zr59 (fun b10 hb10 => ?_)
 refine .S sz59 ?_
 refine .P ?_
 refine .nil (.seq (.seq (.seq (.region (.P2 ?_)))))
 refine .nil (.seq (.cond_false rfl (.skip (.seq (.seq (.block (.seq (.region (.P2 ?_)))))))))
 refine .as 24 (.bool false) rfl (congrArg Value.bool (by rw [eqI_eq]; exact decide_eq_false (by omega))) ?_
 refine .P ?_
 iterate 3 refine .O ?_
 refine .P2 ?_
 refine .nil (.seq (.cond_false rfl (.seq (.region (.P2 ?_)))))
 refine .as 42 (.bool false) rfl (congrArg Value.bool (by rw [eqI_eq]; exact decide_eq_false (by omega))) ?_
 refine .P ?_
 iterate 3 refine .O ?_
 refine .P2 ?_
 refine .nil (.seq (.cond_false rfl (.skip (.blk (.seq (.seq (.region (.P ?_))))))))
 refine .call _ rfl rfl rfl rfl rfl rfl (fun m hm => arithmetic_none hm.lole (by omega)) ?_
 iterate 5 refine .P ?_
 refine .nil (.seq (.seq (.seq (.region (.P3 ?_)))))
 iterate 5 refine .O ?_
 refine .P ?_
 refine .nil (.seq (.cond_true rfl (.seq (.region (.P2 ?_)))))
 refine .nil (.seq (.ret (.seq ?_)))
 exact .end_ rfl rfl (fun m hm => ⟨rfl, hm.ext⟩)
theorem clr_neg {a : Int} {m : AW} (hm : m.lo ≤ m.next) (h : Fit .i64 a) : Fc prog 132 [.int .i64 a] m fun v m' => v = .int .i64 (negR a) ∧ Ext m m' := by
 refine Fc.body (c := _) func132 rfl rfl rfl rfl hm ?_
 refine .seq (.region (.P ?_))
 refine .nil (.seq (.seq (.seq (.region (.P ?_)))))
 refine .call _ rfl rfl rfl rfl rfl rfl (fun m hm => float_ok hm.lole) ?_
 refine .P ?_
 refine .nil (.seq (.seq (.region (.P3 ?_))))
 refine .nil (.seq (.cond rfl (fun hc0 => ?_) fun hc0 => ?_))
 ·refine .seq (.region (.P ?_))
  refine .nil (.seq (.ret (.seq ?_)))
  exact .end_ rfl rfl (fun m hm => ⟨congrArg (Value.int .i64) (by rw [order_self] at hc0; unfold negR; rw [hc0]; rfl), hm.ext⟩)
 refine .skip (.seq (.seq (.region (.P3 ?_))))
 refine .nil (.seq (.ret ?_))
 exact .end_ rfl rfl (fun m hm => ⟨congrArg (Value.int .i64) (by rw [order_self] at hc0; unfold negR; rw [hc0]; rfl), hm.ext⟩)
theorem Unary_real_16 {a : Int} {m : AW} (hm : m.lo ≤ m.next) (ha : Fit .i64 a) : Fc prog 24 [.int .i64 4, .int .i64 16, .int .i64 a] m fun v m' => v = .tuple ⟨[.int .i64 (negR (w4 a)), .int .i64 0]⟩ ∧ Ext m m' := by
 refine Fc.body (c := _) func24 rfl rfl rfl rfl hm ?_
 refine .seq (.region (.P2 ?_))
 refine .nil (.seq (.seq (.region (.P ?_))))
 refine .call _ rfl rfl rfl rfl rfl rfl (fun m hm => of_real hm.lole) ?_
 refine .P3 ?_
 refine .alloc rfl rfl rfl rfl zr59 (fun b8 hb8 => ?_)
 refine .S sz59 ?_
 refine .P ?_
 refine .nil (.seq (.seq (.seq (.region (.P2 ?_)))))
 refine .nil (.seq (.cond_false rfl (.skip (.seq (.seq (.region (.F fa59_0 ?_)))))))
 refine .L ag54 ?_
 refine .P ?_
 refine .call _ rfl rfl rfl rfl rfl rfl (fun m hm => clr_1 hm.lole ha) ?_
 refine .P ?_
 refine .nil (.seq (.seq (.block (.seq (.region (.P3 ?_))))))
 refine .nil (.seq (.cond_true rfl (.seq (.region (.F fa59_4 ?_)))))
 refine .L ag54 ?_
 refine .P ?_
 refine .call _ rfl rfl rfl rfl rfl rfl (fun m hm => clr_neg hm.lole (fit_w4 ha)) ?_
 refine .P2 ?_
 refine .nil (.seq (.ret (.blk (.seq ?_))))
 exact .end_ rfl rfl (fun m hm => ⟨rfl, hm.ext⟩)
theorem Unary_real_17 {a : Int} {m : AW} (hm : m.lo ≤ m.next) (ha : Fit .i64 a) : Fc prog 24 [.int .i64 4, .int .i64 17, .int .i64 a] m fun v m' => v = .tuple ⟨[.int .i64 0, .int .i64 2]⟩ ∧ Ext m m' := by
 refine Fc.body (c := _) func24 rfl rfl rfl rfl hm ?_
 refine .seq (.region (.P2 ?_))
 refine .nil (.seq (.seq (.region (.P ?_))))
 refine .call _ rfl rfl rfl rfl rfl rfl (fun m hm => of_real hm.lole) ?_
 refine .P3 ?_
 refine .alloc rfl rfl rfl rfl zr59 (fun b8 hb8 => ?_)
 refine .S sz59 ?_
 refine .P ?_
 refine .nil (.seq (.seq (.seq (.region (.P2 ?_)))))
 refine .nil (.seq (.cond_false rfl (.skip (.seq (.seq (.region (.F fa59_0 ?_)))))))
 refine .L ag54 ?_
 refine .P ?_
 refine .call _ rfl rfl rfl rfl rfl rfl (fun m hm => clr_1 hm.lole ha) ?_
 refine .P ?_
 refine .nil (.seq (.seq (.block (.seq (.region (.P3 ?_))))))
 refine .nil (.seq (.cond_false rfl (.seq (.region (.P3 ?_)))))
 refine .F fa59_5 ?_
 refine .L ag54 ?_
 refine .bin (v := .bool false) rfl rfl rfl rfl rfl rfl (by kernel_rfl) ?_
 refine .P2 ?_
 refine .nil (.seq (.cond_false rfl (.seq (.region (.P3 ?_)))))
 iterate 2 refine .O ?_
 refine .P2 ?_
 refine .nil (.seq (.cond_false rfl (.skip (.blk (.seq (.seq (.region (.P2 ?_))))))))
 refine .nil (.seq (.ret ?_))
 exact .end_ rfl rfl (fun m hm => ⟨rfl, hm.ext⟩)
theorem Unary_real_18 {a : Int} {m : AW} (hm : m.lo ≤ m.next) (ha : Fit .i64 a) : Fc prog 24 [.int .i64 4, .int .i64 18, .int .i64 a] m fun v m' => v = .tuple ⟨[.int .i64 0, .int .i64 2]⟩ ∧ Ext m m' := by
 refine Fc.body (c := _) func24 rfl rfl rfl rfl hm ?_
 refine .seq (.region (.P2 ?_))
 refine .nil (.seq (.seq (.region (.P ?_))))
 refine .call _ rfl rfl rfl rfl rfl rfl (fun m hm => of_real hm.lole) ?_
 refine .P3 ?_
 refine .alloc rfl rfl rfl rfl zr59 (fun b8 hb8 => ?_)
 refine .S sz59 ?_
 refine .P ?_
 refine .nil (.seq (.seq (.seq (.region (.P2 ?_)))))
 refine .nil (.seq (.cond_false rfl (.skip (.seq (.seq (.region (.F fa59_0 ?_)))))))
 refine .L ag54 ?_
 refine .P ?_
 refine .call _ rfl rfl rfl rfl rfl rfl (fun m hm => clr_1 hm.lole ha) ?_
 refine .P ?_
 refine .nil (.seq (.seq (.block (.seq (.region (.P3 ?_))))))
 refine .nil (.seq (.cond_false rfl (.seq (.region (.P3 ?_)))))
 iterate 3 refine .O ?_
 refine .P2 ?_
 refine .nil (.seq (.cond_false rfl (.seq (.region ?_))))
 iterate 7 refine .P ?_
 refine .nil (.seq (.cond_false rfl (.skip (.blk (.seq (.seq (.region (.P2 ?_))))))))
 refine .nil (.seq (.ret ?_))
 exact .end_ rfl rfl (fun m hm => ⟨rfl, hm.ext⟩)
theorem Unary_real_other {op a : Int} {m : AW} (hm : m.lo ≤ m.next) (ha : Fit .i64 a) (h : op < 16 ∨ 18 < op) : Fc prog 24 [.int .i64 4, .int .i64 op, .int .i64 a] m fun v m' => v = .tuple ⟨[.int .i64 0, .int .i64 2]⟩ ∧ Ext m m' := by
 refine Fc.body (c := _) func24 rfl rfl rfl rfl hm ?_
 refine .seq (.region (.P2 ?_))
 refine .nil (.seq (.seq (.region (.P ?_))))
 refine .call _ rfl rfl rfl rfl rfl rfl (fun m hm => of_real hm.lole) ?_
 refine .P3 ?_
 refine .alloc rfl rfl rfl rfl zr59 (fun b8 hb8 => ?_)
 refine .S sz59 ?_
 refine .P ?_
 refine .nil (.seq (.seq (.seq (.region (.P2 ?_)))))
 refine .nil (.seq (.cond_false rfl (.skip (.seq (.seq (.region (.F fa59_0 ?_)))))))
 refine .L ag54 ?_
 refine .P ?_
 refine .call _ rfl rfl rfl rfl rfl rfl (fun m hm => clr_1 hm.lole ha) ?_
 refine .P ?_
 refine .nil (.seq (.seq (.block (.seq (.region (.P2 ?_))))))
 refine .as 24 (.bool false) rfl (congrArg Value.bool (by rw [eqI_eq]; exact decide_eq_false (by omega))) ?_
 refine .P ?_
 refine .nil (.seq (.cond_false rfl (.seq (.region (.P2 ?_)))))
 refine .as 31 (.bool false) rfl (congrArg Value.bool (by rw [eqI_eq]; exact decide_eq_false (by omega))) ?_
 refine .P ?_
 iterate 3 refine .O ?_
 refine .P2 ?_
 refine .nil (.seq (.cond_false rfl (.seq (.region (.P2 ?_)))))
 refine .as 43 (.bool false) rfl (congrArg Value.bool (by rw [eqI_eq]; exact decide_eq_false (by omega))) ?_
 refine .P ?_
 iterate 2 refine .O ?_
 refine .P2 ?_
 refine .nil (.seq (.cond_false rfl (.skip (.blk (.seq (.seq (.region (.P2 ?_))))))))
 refine .nil (.seq (.ret ?_))
 exact .end_ rfl rfl (fun m hm => ⟨rfl, hm.ext⟩)
theorem Arith_none {kind op a b : Int} {m : AW} (hm : m.lo ≤ m.next) (h1 : kind ≠ 1) (h2 : kind ≠ 2) (h3 : kind ≠ 3) (h4 : kind ≠ 4) : Fc prog 19 [.int .i64 kind, .int .i64 op, .int .i64 a, .int .i64 b] m fun v m' => v = .tuple ⟨[.int .i64 0, .int .i64 13]⟩ ∧ Ext m m' := by
 refine Fc.body (c := _) func19 rfl rfl rfl rfl hm ?_
 refine .seq (.region (.P2 ?_))
 refine .nil (.seq (.seq (.region (.P ?_))))
 refine .call _ rfl rfl rfl rfl rfl rfl (fun m hm => of_none hm.lole h1 h2 h3 h4) ?_
 refine .P3 ?_
 refine .alloc rfl rfl rfl rfl zr59 (fun b10 hb10 => ?_)
 refine .S sz59 ?_
 refine .P ?_
 refine .nil (.seq (.seq (.seq (.region (.P2 ?_)))))
 refine .nil (.seq (.cond_true rfl (.seq (.region (.P3 ?_)))))
 refine .nil (.seq (.ret (.seq ?_)))
 exact .end_ rfl rfl (fun m hm => ⟨rfl, hm.ext⟩)
theorem Unary_none {kind op a : Int} {m : AW} (hm : m.lo ≤ m.next) (h1 : kind ≠ 1) (h2 : kind ≠ 2) (h3 : kind ≠ 3) (h4 : kind ≠ 4) : Fc prog 24 [.int .i64 kind, .int .i64 op, .int .i64 a] m fun v m' => v = .tuple ⟨[.int .i64 0, .int .i64 13]⟩ ∧ Ext m m' := by
 refine Fc.body (c := _) func24 rfl rfl rfl rfl hm ?_
 refine .seq (.region (.P2 ?_))
 refine .nil (.seq (.seq (.region (.P ?_))))
 refine .call _ rfl rfl rfl rfl rfl rfl (fun m hm => of_none hm.lole h1 h2 h3 h4) ?_
 refine .P3 ?_
 refine .alloc rfl rfl rfl rfl zr59 (fun b8 hb8 => ?_)
 refine .S sz59 ?_
 refine .P ?_
 refine .nil (.seq (.seq (.seq (.region (.P2 ?_)))))
 refine .nil (.seq (.cond_true rfl (.seq (.region (.P3 ?_)))))
 refine .nil (.seq (.ret (.seq ?_)))
 exact .end_ rfl rfl (fun m hm => ⟨rfl, hm.ext⟩)
theorem RFits {kind op : Int} {m : AW} (hm : m.lo ≤ m.next) : Fc prog 25 [.int .i64 kind, .int .i64 op] m fun v m' => v = .bool (decide (0 ≤ op ∧ op ≤ 3 ∨ kind ≠ 4 ∧ 4 ≤ op ∧ op ≤ 9)) ∧ Ext m m' := by
 refine Fc.body (c := _) func25 rfl rfl rfl rfl hm ?_
 refine .seq (.region (.P ?_))
 refine .nil (.seq (.seq (.region (.P3 ?_))))
 refine .splitB 7 rfl (fun hs0 => ?_) (fun hs0 => ?_)
 ·(try simp only [decide_eq_true_eq, decide_eq_false_iff_not, nrm_lt, nrm_nlt, nrm_eq, nrm_neq, nrm_seq, nrm_sneq, nrm_sempty, nrm_snempty, nrm_ofNat, Bool.not_eq_true', Bool.not_eq_false'] at hs0)
  iterate 4 refine .P ?_
  refine .splitB 11 rfl (fun hs1 => ?_) (fun hs1 => ?_)
  ·(try simp only [decide_eq_true_eq, decide_eq_false_iff_not, nrm_lt, nrm_nlt, nrm_eq, nrm_neq, nrm_seq, nrm_sneq, nrm_sempty, nrm_snempty, nrm_ofNat, Bool.not_eq_true', Bool.not_eq_false'] at hs1)
   iterate 10 refine .O ?_
   refine .P2 ?_
   refine .nil (.seq (.ret ?_))
   exact .end_ rfl rfl (fun m hm => ⟨congrArg Value.bool (by rw [Bool.eq_iff_iff]; simp only [nrm_lt, nrm_nlt, nrm_eq, nrm_neq, nrm_seq, nrm_sneq, nrm_sempty, nrm_snempty, nrm_ofNat, Bool.not_eq_true', Bool.not_eq_false', decide_eq_true_eq, Bool.false_eq_true, reduceCtorEq, Classical.not_not, true_iff, false_iff, iff_true, iff_false]; omega), hm.ext⟩)
  (try simp only [decide_eq_true_eq, decide_eq_false_iff_not, nrm_lt, nrm_nlt, nrm_eq, nrm_neq, nrm_seq, nrm_sneq, nrm_sempty, nrm_snempty, nrm_ofNat, Bool.not_eq_true', Bool.not_eq_false'] at hs1)
  refine .P3 ?_
  refine .splitB 14 rfl (fun hs2 => ?_) (fun hs2 => ?_)
  ·(try simp only [decide_eq_true_eq, decide_eq_false_iff_not, nrm_lt, nrm_nlt, nrm_eq, nrm_neq, nrm_seq, nrm_sneq, nrm_sempty, nrm_snempty, nrm_ofNat, Bool.not_eq_true', Bool.not_eq_false'] at hs2)
   iterate 4 refine .P ?_
   refine .splitB 18 rfl (fun hs3 => ?_) (fun hs3 => ?_)
   ·(try simp only [decide_eq_true_eq, decide_eq_false_iff_not, nrm_lt, nrm_nlt, nrm_eq, nrm_neq, nrm_seq, nrm_sneq, nrm_sempty, nrm_snempty, nrm_ofNat, Bool.not_eq_true', Bool.not_eq_false'] at hs3)
    iterate 5 refine .P ?_
    refine .nil (.seq (.ret ?_))
    exact .end_ rfl rfl (fun m hm => ⟨congrArg Value.bool (by rw [Bool.eq_iff_iff]; simp only [nrm_lt, nrm_nlt, nrm_eq, nrm_neq, nrm_seq, nrm_sneq, nrm_sempty, nrm_snempty, nrm_ofNat, Bool.not_eq_true', Bool.not_eq_false', decide_eq_true_eq, Bool.false_eq_true, reduceCtorEq, Classical.not_not, true_iff, false_iff, iff_true, iff_false]; omega), hm.ext⟩)
   (try simp only [decide_eq_true_eq, decide_eq_false_iff_not, nrm_lt, nrm_nlt, nrm_eq, nrm_neq, nrm_seq, nrm_sneq, nrm_sempty, nrm_snempty, nrm_ofNat, Bool.not_eq_true', Bool.not_eq_false'] at hs3)
   iterate 2 refine .O ?_
   refine .P3 ?_
   refine .nil (.seq (.ret ?_))
   exact .end_ rfl rfl (fun m hm => ⟨congrArg Value.bool (by rw [Bool.eq_iff_iff]; simp only [nrm_lt, nrm_nlt, nrm_eq, nrm_neq, nrm_seq, nrm_sneq, nrm_sempty, nrm_snempty, nrm_ofNat, Bool.not_eq_true', Bool.not_eq_false', decide_eq_true_eq, Bool.false_eq_true, reduceCtorEq, Classical.not_not, true_iff, false_iff, iff_true, iff_false]; omega), hm.ext⟩)
  (try simp only [decide_eq_true_eq, decide_eq_false_iff_not, nrm_lt, nrm_nlt, nrm_eq, nrm_neq, nrm_seq, nrm_sneq, nrm_sempty, nrm_snempty, nrm_ofNat, Bool.not_eq_true', Bool.not_eq_false'] at hs2)
  iterate 2 refine .O ?_
  refine .P2 ?_
  iterate 2 refine .O ?_
  refine .P3 ?_
  refine .nil (.seq (.ret ?_))
  exact .end_ rfl rfl (fun m hm => ⟨congrArg Value.bool (by rw [Bool.eq_iff_iff]; simp only [nrm_lt, nrm_nlt, nrm_eq, nrm_neq, nrm_seq, nrm_sneq, nrm_sempty, nrm_snempty, nrm_ofNat, Bool.not_eq_true', Bool.not_eq_false', decide_eq_true_eq, Bool.false_eq_true, reduceCtorEq, Classical.not_not, true_iff, false_iff, iff_true, iff_false]; omega), hm.ext⟩)
 (try simp only [decide_eq_true_eq, decide_eq_false_iff_not, nrm_lt, nrm_nlt, nrm_eq, nrm_neq, nrm_seq, nrm_sneq, nrm_sempty, nrm_snempty, nrm_ofNat, Bool.not_eq_true', Bool.not_eq_false'] at hs0)
 iterate 2 refine .O ?_
 iterate 5 refine .P ?_
 refine .splitB 14 rfl (fun hs4 => ?_) (fun hs4 => ?_)
 ·(try simp only [decide_eq_true_eq, decide_eq_false_iff_not, nrm_lt, nrm_nlt, nrm_eq, nrm_neq, nrm_seq, nrm_sneq, nrm_sempty, nrm_snempty, nrm_ofNat, Bool.not_eq_true', Bool.not_eq_false'] at hs4)
  iterate 4 refine .P ?_
  refine .splitB 18 rfl (fun hs5 => ?_) (fun hs5 => ?_)
  ·(try simp only [decide_eq_true_eq, decide_eq_false_iff_not, nrm_lt, nrm_nlt, nrm_eq, nrm_neq, nrm_seq, nrm_sneq, nrm_sempty, nrm_snempty, nrm_ofNat, Bool.not_eq_true', Bool.not_eq_false'] at hs5)
   iterate 5 refine .P ?_
   refine .nil (.seq (.ret ?_))
   exact .end_ rfl rfl (fun m hm => ⟨congrArg Value.bool (by rw [Bool.eq_iff_iff]; simp only [nrm_lt, nrm_nlt, nrm_eq, nrm_neq, nrm_seq, nrm_sneq, nrm_sempty, nrm_snempty, nrm_ofNat, Bool.not_eq_true', Bool.not_eq_false', decide_eq_true_eq, Bool.false_eq_true, reduceCtorEq, Classical.not_not, true_iff, false_iff, iff_true, iff_false]; omega), hm.ext⟩)
  (try simp only [decide_eq_true_eq, decide_eq_false_iff_not, nrm_lt, nrm_nlt, nrm_eq, nrm_neq, nrm_seq, nrm_sneq, nrm_sempty, nrm_snempty, nrm_ofNat, Bool.not_eq_true', Bool.not_eq_false'] at hs5)
  iterate 2 refine .O ?_
  refine .P3 ?_
  refine .nil (.seq (.ret ?_))
  exact .end_ rfl rfl (fun m hm => ⟨congrArg Value.bool (by rw [Bool.eq_iff_iff]; simp only [nrm_lt, nrm_nlt, nrm_eq, nrm_neq, nrm_seq, nrm_sneq, nrm_sempty, nrm_snempty, nrm_ofNat, Bool.not_eq_true', Bool.not_eq_false', decide_eq_true_eq, Bool.false_eq_true, reduceCtorEq, Classical.not_not, true_iff, false_iff, iff_true, iff_false]; omega), hm.ext⟩)
 (try simp only [decide_eq_true_eq, decide_eq_false_iff_not, nrm_lt, nrm_nlt, nrm_eq, nrm_neq, nrm_seq, nrm_sneq, nrm_sempty, nrm_snempty, nrm_ofNat, Bool.not_eq_true', Bool.not_eq_false'] at hs4)
 iterate 2 refine .O ?_
 refine .P2 ?_
 iterate 2 refine .O ?_
 refine .P3 ?_
 refine .nil (.seq (.ret ?_))
 exact .end_ rfl rfl (fun m hm => ⟨congrArg Value.bool (by rw [Bool.eq_iff_iff]; simp only [nrm_lt, nrm_nlt, nrm_eq, nrm_neq, nrm_seq, nrm_sneq, nrm_sempty, nrm_snempty, nrm_ofNat, Bool.not_eq_true', Bool.not_eq_false', decide_eq_true_eq, Bool.false_eq_true, reduceCtorEq, Classical.not_not, true_iff, false_iff, iff_true, iff_false]; omega), hm.ext⟩)
theorem RFitsUnary {kind op : Int} {m : AW} (hm : m.lo ≤ m.next) : Fc prog 27 [.int .i64 kind, .int .i64 op] m fun v m' => v = .bool (decide (op = 16 ∨ op = 17 ∧ kind ≠ 4 ∨ op = 18 ∧ kind = 2)) ∧ Ext m m' := by
 refine Fc.body (c := _) func27 rfl rfl rfl rfl hm ?_
 refine .seq (.region (.P ?_))
 refine .nil (.seq (.seq (.region (.P3 ?_))))
 refine .splitB 7 rfl (fun hs0 => ?_) (fun hs0 => ?_)
 ·(try simp only [decide_eq_true_eq, decide_eq_false_iff_not, nrm_lt, nrm_nlt, nrm_eq, nrm_neq, nrm_seq, nrm_sneq, nrm_sempty, nrm_snempty, nrm_ofNat, Bool.not_eq_true', Bool.not_eq_false'] at hs0)
  iterate 6 refine .O ?_
  refine .P2 ?_
  iterate 6 refine .O ?_
  refine .P2 ?_
  refine .nil (.seq (.ret ?_))
  exact .end_ rfl rfl (fun m hm => ⟨congrArg Value.bool (by rw [Bool.eq_iff_iff]; simp only [nrm_lt, nrm_nlt, nrm_eq, nrm_neq, nrm_seq, nrm_sneq, nrm_sempty, nrm_snempty, nrm_ofNat, Bool.not_eq_true', Bool.not_eq_false', decide_eq_true_eq, Bool.false_eq_true, reduceCtorEq, Classical.not_not, true_iff, false_iff, iff_true, iff_false]; omega), hm.ext⟩)
 (try simp only [decide_eq_true_eq, decide_eq_false_iff_not, nrm_lt, nrm_nlt, nrm_eq, nrm_neq, nrm_seq, nrm_sneq, nrm_sempty, nrm_snempty, nrm_ofNat, Bool.not_eq_true', Bool.not_eq_false'] at hs0)
 refine .P3 ?_
 refine .splitB 10 rfl (fun hs1 => ?_) (fun hs1 => ?_)
 ·(try simp only [decide_eq_true_eq, decide_eq_false_iff_not, nrm_lt, nrm_nlt, nrm_eq, nrm_neq, nrm_seq, nrm_sneq, nrm_sempty, nrm_snempty, nrm_ofNat, Bool.not_eq_true', Bool.not_eq_false'] at hs1)
  iterate 5 refine .P ?_
  refine .splitB 15 rfl (fun hs2 => ?_) (fun hs2 => ?_)
  ·(try simp only [decide_eq_true_eq, decide_eq_false_iff_not, nrm_lt, nrm_nlt, nrm_eq, nrm_neq, nrm_seq, nrm_sneq, nrm_sempty, nrm_snempty, nrm_ofNat, Bool.not_eq_true', Bool.not_eq_false'] at hs2)
   iterate 6 refine .O ?_
   refine .P2 ?_
   refine .nil (.seq (.ret ?_))
   exact .end_ rfl rfl (fun m hm => ⟨congrArg Value.bool (by rw [Bool.eq_iff_iff]; simp only [nrm_lt, nrm_nlt, nrm_eq, nrm_neq, nrm_seq, nrm_sneq, nrm_sempty, nrm_snempty, nrm_ofNat, Bool.not_eq_true', Bool.not_eq_false', decide_eq_true_eq, Bool.false_eq_true, reduceCtorEq, Classical.not_not, true_iff, false_iff, iff_true, iff_false]; omega), hm.ext⟩)
  (try simp only [decide_eq_true_eq, decide_eq_false_iff_not, nrm_lt, nrm_nlt, nrm_eq, nrm_neq, nrm_seq, nrm_sneq, nrm_sempty, nrm_snempty, nrm_ofNat, Bool.not_eq_true', Bool.not_eq_false'] at hs2)
  refine .P3 ?_
  refine .splitB 18 rfl (fun hs3 => ?_) (fun hs3 => ?_)
  ·(try simp only [decide_eq_true_eq, decide_eq_false_iff_not, nrm_lt, nrm_nlt, nrm_eq, nrm_neq, nrm_seq, nrm_sneq, nrm_sempty, nrm_snempty, nrm_ofNat, Bool.not_eq_true', Bool.not_eq_false'] at hs3)
   iterate 5 refine .P ?_
   refine .nil (.seq (.ret ?_))
   exact .end_ rfl rfl (fun m hm => ⟨congrArg Value.bool (by rw [Bool.eq_iff_iff]; simp only [nrm_lt, nrm_nlt, nrm_eq, nrm_neq, nrm_seq, nrm_sneq, nrm_sempty, nrm_snempty, nrm_ofNat, Bool.not_eq_true', Bool.not_eq_false', decide_eq_true_eq, Bool.false_eq_true, reduceCtorEq, Classical.not_not, true_iff, false_iff, iff_true, iff_false]; omega), hm.ext⟩)
  (try simp only [decide_eq_true_eq, decide_eq_false_iff_not, nrm_lt, nrm_nlt, nrm_eq, nrm_neq, nrm_seq, nrm_sneq, nrm_sempty, nrm_snempty, nrm_ofNat, Bool.not_eq_true', Bool.not_eq_false'] at hs3)
  iterate 2 refine .O ?_
  refine .P3 ?_
  refine .nil (.seq (.ret ?_))
  exact .end_ rfl rfl (fun m hm => ⟨congrArg Value.bool (by rw [Bool.eq_iff_iff]; simp only [nrm_lt, nrm_nlt, nrm_eq, nrm_neq, nrm_seq, nrm_sneq, nrm_sempty, nrm_snempty, nrm_ofNat, Bool.not_eq_true', Bool.not_eq_false', decide_eq_true_eq, Bool.false_eq_true, reduceCtorEq, Classical.not_not, true_iff, false_iff, iff_true, iff_false]; omega), hm.ext⟩)
 (try simp only [decide_eq_true_eq, decide_eq_false_iff_not, nrm_lt, nrm_nlt, nrm_eq, nrm_neq, nrm_seq, nrm_sneq, nrm_sempty, nrm_snempty, nrm_ofNat, Bool.not_eq_true', Bool.not_eq_false'] at hs1)
 iterate 2 refine .O ?_
 iterate 6 refine .P ?_
 refine .splitB 18 rfl (fun hs4 => ?_) (fun hs4 => ?_)
 ·(try simp only [decide_eq_true_eq, decide_eq_false_iff_not, nrm_lt, nrm_nlt, nrm_eq, nrm_neq, nrm_seq, nrm_sneq, nrm_sempty, nrm_snempty, nrm_ofNat, Bool.not_eq_true', Bool.not_eq_false'] at hs4)
  iterate 5 refine .P ?_
  refine .nil (.seq (.ret ?_))
  exact .end_ rfl rfl (fun m hm => ⟨congrArg Value.bool (by rw [Bool.eq_iff_iff]; simp only [nrm_lt, nrm_nlt, nrm_eq, nrm_neq, nrm_seq, nrm_sneq, nrm_sempty, nrm_snempty, nrm_ofNat, Bool.not_eq_true', Bool.not_eq_false', decide_eq_true_eq, Bool.false_eq_true, reduceCtorEq, Classical.not_not, true_iff, false_iff, iff_true, iff_false]; omega), hm.ext⟩)
 (try simp only [decide_eq_true_eq, decide_eq_false_iff_not, nrm_lt, nrm_nlt, nrm_eq, nrm_neq, nrm_seq, nrm_sneq, nrm_sempty, nrm_snempty, nrm_ofNat, Bool.not_eq_true', Bool.not_eq_false'] at hs4)
 iterate 2 refine .O ?_
 refine .P3 ?_
 refine .nil (.seq (.ret ?_))
 exact .end_ rfl rfl (fun m hm => ⟨congrArg Value.bool (by rw [Bool.eq_iff_iff]; simp only [nrm_lt, nrm_nlt, nrm_eq, nrm_neq, nrm_seq, nrm_sneq, nrm_sempty, nrm_snempty, nrm_ofNat, Bool.not_eq_true', Bool.not_eq_false', decide_eq_true_eq, Bool.false_eq_true, reduceCtorEq, Classical.not_not, true_iff, false_iff, iff_true, iff_false]; omega), hm.ext⟩)
theorem RArith_0 {K : Int} {k : IntKind} {a b : Int} {m : AW} (hm : m.lo ≤ m.next) (hK : K ≠ 4) (hk : k.bits ≤ 64) (hmin : IntKind.i64.min ≤ k.min) (hmax : k.max ≤ IntKind.i64.max) (hW : ∀ {n : Int} {m : AW}, m.lo ≤ m.next → Fit .i64 n → Fc prog 22 [.int .i64 K, .int .i64 n] m fun v m' => v = .int .i64 (wr k n) ∧ Ext m m') (ha : Fit .i64 a) (hb : Fit .i64 b) : Fc prog 26 [.int .i64 K, .int .i64 0, .int .i64 a, .int .i64 b] m fun v m' => v = .tuple ⟨[.int .i64 (wr k (wr k a + wr k b)), .bool true]⟩ ∧ Ext m m' := by
 refine Fc.body (c := _) func26 rfl rfl rfl rfl hm ?_
 refine .seq (.region (.P2 ?_))
 refine .nil (.seq (.seq (.region (.P2 ?_))))
 refine .call _ rfl rfl rfl rfl rfl rfl (fun m hm => hW hm.lole (by first | exact ha | exact hb | exact Fit.wr .i64 _)) ?_
 refine .P ?_
 refine .nil (.seq (.seq (.seq (.region ?_))))
 iterate 6 refine .P ?_
 refine .nil (.seq (.cond_false rfl (.skip (.seq (.seq (.region (.P2 ?_)))))))
 refine .call _ rfl rfl rfl rfl rfl rfl (fun m hm => hW hm.lole (by first | exact ha | exact hb | exact Fit.wr .i64 _)) ?_
 refine .P ?_
 refine .nil (.seq (.seq (.seq (.region (.P ?_)))))
 refine .bin (v := .bool false) rfl rfl rfl rfl rfl rfl (binS_neql hK) ?_
 refine .nil (.seq (.cond_false rfl (.skip (.seq (.seq (.seq (.region (.P ?_))))))))
 refine .nil (.seq (.block (.seq (.region (.P2 ?_)))))
 refine .nil (.seq (.cond_true rfl (.seq (.region ?_))))
 iterate 4 refine .P ?_
 refine .call _ rfl rfl rfl rfl rfl rfl (fun m hm => hW hm.lole (by first | exact ha | exact hb | exact Fit.wr .i64 _)) ?_
 refine .P2 ?_
 refine .nil (.seq (.ret (.blk (.seq ?_))))
 exact .end_ rfl rfl (fun m hm => ⟨congrArg (fun z => Value.tuple ⟨[.int .i64 z, .bool true]⟩) (wr_wr hk _), hm.ext⟩)
theorem RArith_1 {K : Int} {k : IntKind} {a b : Int} {m : AW} (hm : m.lo ≤ m.next) (hK : K ≠ 4) (hk : k.bits ≤ 64) (hmin : IntKind.i64.min ≤ k.min) (hmax : k.max ≤ IntKind.i64.max) (hW : ∀ {n : Int} {m : AW}, m.lo ≤ m.next → Fit .i64 n → Fc prog 22 [.int .i64 K, .int .i64 n] m fun v m' => v = .int .i64 (wr k n) ∧ Ext m m') (ha : Fit .i64 a) (hb : Fit .i64 b) : Fc prog 26 [.int .i64 K, .int .i64 1, .int .i64 a, .int .i64 b] m fun v m' => v = .tuple ⟨[.int .i64 (wr k (wr k a - wr k b)), .bool true]⟩ ∧ Ext m m' := by
 refine Fc.body (c := _) func26 rfl rfl rfl rfl hm ?_
 refine .seq (.region (.P2 ?_))
 refine .nil (.seq (.seq (.region (.P2 ?_))))
 refine .call _ rfl rfl rfl rfl rfl rfl (fun m hm => hW hm.lole (by first | exact ha | exact hb | exact Fit.wr .i64 _)) ?_
 refine .P ?_
 refine .nil (.seq (.seq (.seq (.region ?_))))
 iterate 6 refine .P ?_
 refine .nil (.seq (.cond_false rfl (.skip (.seq (.seq (.region (.P2 ?_)))))))
 refine .call _ rfl rfl rfl rfl rfl rfl (fun m hm => hW hm.lole (by first | exact ha | exact hb | exact Fit.wr .i64 _)) ?_
 refine .P ?_
 refine .nil (.seq (.seq (.seq (.region (.P ?_)))))
 refine .bin (v := .bool false) rfl rfl rfl rfl rfl rfl (binS_neql hK) ?_
 refine .nil (.seq (.cond_false rfl (.skip (.seq (.seq (.seq (.region (.P ?_))))))))
 refine .nil (.seq (.block (.seq (.region (.P2 ?_)))))
 refine .nil (.seq (.cond_false rfl (.seq (.region (.P2 ?_)))))
 refine .nil (.seq (.cond_true rfl (.seq (.region ?_))))
 iterate 4 refine .P ?_
 refine .call _ rfl rfl rfl rfl rfl rfl (fun m hm => hW hm.lole (by first | exact ha | exact hb | exact Fit.wr .i64 _)) ?_
 refine .P2 ?_
 refine .nil (.seq (.ret (.blk (.seq ?_))))
 exact .end_ rfl rfl (fun m hm => ⟨congrArg (fun z => Value.tuple ⟨[.int .i64 z, .bool true]⟩) (wr_wr hk _), hm.ext⟩)
theorem RArith_2 {K : Int} {k : IntKind} {a b : Int} {m : AW} (hm : m.lo ≤ m.next) (hK : K ≠ 4) (hk : k.bits ≤ 64) (hmin : IntKind.i64.min ≤ k.min) (hmax : k.max ≤ IntKind.i64.max) (hW : ∀ {n : Int} {m : AW}, m.lo ≤ m.next → Fit .i64 n → Fc prog 22 [.int .i64 K, .int .i64 n] m fun v m' => v = .int .i64 (wr k n) ∧ Ext m m') (ha : Fit .i64 a) (hb : Fit .i64 b) : Fc prog 26 [.int .i64 K, .int .i64 2, .int .i64 a, .int .i64 b] m fun v m' => v = .tuple ⟨[.int .i64 (wr k (wr k a * wr k b)), .bool true]⟩ ∧ Ext m m' := by
 refine Fc.body (c := _) func26 rfl rfl rfl rfl hm ?_
 refine .seq (.region (.P2 ?_))
 refine .nil (.seq (.seq (.region (.P2 ?_))))
 refine .call _ rfl rfl rfl rfl rfl rfl (fun m hm => hW hm.lole (by first | exact ha | exact hb | exact Fit.wr .i64 _)) ?_
 refine .P ?_
 refine .nil (.seq (.seq (.seq (.region ?_))))
 iterate 6 refine .P ?_
 refine .nil (.seq (.cond_false rfl (.skip (.seq (.seq (.region (.P2 ?_)))))))
 refine .call _ rfl rfl rfl rfl rfl rfl (fun m hm => hW hm.lole (by first | exact ha | exact hb | exact Fit.wr .i64 _)) ?_
 refine .P ?_
 refine .nil (.seq (.seq (.seq (.region (.P ?_)))))
 refine .bin (v := .bool false) rfl rfl rfl rfl rfl rfl (binS_neql hK) ?_
 refine .nil (.seq (.cond_false rfl (.skip (.seq (.seq (.seq (.region (.P ?_))))))))
 refine .nil (.seq (.block (.seq (.region (.P2 ?_)))))
 refine .nil (.seq (.cond_false rfl (.seq (.region (.P2 ?_)))))
 refine .nil (.seq (.cond_false rfl (.seq (.region (.P2 ?_)))))
 refine .nil (.seq (.cond_true rfl (.seq (.region ?_))))
 iterate 4 refine .P ?_
 refine .call _ rfl rfl rfl rfl rfl rfl (fun m hm => hW hm.lole (by first | exact ha | exact hb | exact Fit.wr .i64 _)) ?_
 refine .P2 ?_
 refine .nil (.seq (.ret (.blk (.seq ?_))))
 exact .end_ rfl rfl (fun m hm => ⟨congrArg (fun z => Value.tuple ⟨[.int .i64 z, .bool true]⟩) (wr_wr hk _), hm.ext⟩)
theorem RArith_5 {K : Int} {k : IntKind} {a b : Int} {m : AW} (hm : m.lo ≤ m.next) (hK : K ≠ 4) (hk : k.bits ≤ 64) (hmin : IntKind.i64.min ≤ k.min) (hmax : k.max ≤ IntKind.i64.max) (hW : ∀ {n : Int} {m : AW}, m.lo ≤ m.next → Fit .i64 n → Fc prog 22 [.int .i64 K, .int .i64 n] m fun v m' => v = .int .i64 (wr k n) ∧ Ext m m') (ha : Fit .i64 a) (hb : Fit .i64 b) : Fc prog 26 [.int .i64 K, .int .i64 5, .int .i64 a, .int .i64 b] m fun v m' => v = .tuple ⟨[.int .i64 (bitV (· &&& ·) k (wr k a) (wr k b)), .bool true]⟩ ∧ Ext m m' := by
 refine Fc.body (c := _) func26 rfl rfl rfl rfl hm ?_
 refine .seq (.region (.P2 ?_))
 refine .nil (.seq (.seq (.region (.P2 ?_))))
 refine .call _ rfl rfl rfl rfl rfl rfl (fun m hm => hW hm.lole (by first | exact ha | exact hb | exact Fit.wr .i64 _)) ?_
 refine .P ?_
 refine .nil (.seq (.seq (.seq (.region ?_))))
 iterate 6 refine .P ?_
 refine .nil (.seq (.cond_false rfl (.skip (.seq (.seq (.region (.P2 ?_)))))))
 refine .call _ rfl rfl rfl rfl rfl rfl (fun m hm => hW hm.lole (by first | exact ha | exact hb | exact Fit.wr .i64 _)) ?_
 refine .P ?_
 refine .nil (.seq (.seq (.seq (.region (.P ?_)))))
 refine .bin (v := .bool false) rfl rfl rfl rfl rfl rfl (binS_neql hK) ?_
 refine .nil (.seq (.cond_false rfl (.skip (.seq (.seq (.seq (.region (.P ?_))))))))
 refine .nil (.seq (.block (.seq (.region (.P2 ?_)))))
 refine .nil (.seq (.cond_false rfl (.seq (.region (.P2 ?_)))))
 refine .nil (.seq (.cond_false rfl (.seq (.region (.P2 ?_)))))
 refine .nil (.seq (.cond_false rfl (.seq (.region (.P2 ?_)))))
 refine .nil (.seq (.cond_true rfl (.seq (.region ?_))))
 iterate 4 refine .P ?_
 refine .call _ rfl rfl rfl rfl rfl rfl (fun m hm => hW hm.lole (by first | exact ha | exact hb | exact Fit.wr .i64 _)) ?_
 refine .P2 ?_
 refine .nil (.seq (.ret (.blk (.seq ?_))))
 exact .end_ rfl rfl (fun m hm => ⟨congrArg (fun z => Value.tuple ⟨[.int .i64 z, .bool true]⟩) (bit_wr Nat.and_mod_two_pow hk _ _), hm.ext⟩)
theorem RArith_6 {K : Int} {k : IntKind} {a b : Int} {m : AW} (hm : m.lo ≤ m.next) (hK : K ≠ 4) (hk : k.bits ≤ 64) (hmin : IntKind.i64.min ≤ k.min) (hmax : k.max ≤ IntKind.i64.max) (hW : ∀ {n : Int} {m : AW}, m.lo ≤ m.next → Fit .i64 n → Fc prog 22 [.int .i64 K, .int .i64 n] m fun v m' => v = .int .i64 (wr k n) ∧ Ext m m') (ha : Fit .i64 a) (hb : Fit .i64 b) : Fc prog 26 [.int .i64 K, .int .i64 6, .int .i64 a, .int .i64 b] m fun v m' => v = .tuple ⟨[.int .i64 (bitV (· ||| ·) k (wr k a) (wr k b)), .bool true]⟩ ∧ Ext m m' := by
 refine Fc.body (c := _) func26 rfl rfl rfl rfl hm ?_
 refine .seq (.region (.P2 ?_))
 refine .nil (.seq (.seq (.region (.P2 ?_))))
 refine .call _ rfl rfl rfl rfl rfl rfl (fun m hm => hW hm.lole (by first | exact ha | exact hb | exact Fit.wr .i64 _)) ?_
 refine .P ?_
 refine .nil (.seq (.seq (.seq (.region ?_))))
 iterate 6 refine .P ?_
 refine .nil (.seq (.cond_false rfl (.skip (.seq (.seq (.region (.P2 ?_)))))))
 refine .call _ rfl rfl rfl rfl rfl rfl (fun m hm => hW hm.lole (by first | exact ha | exact hb | exact Fit.wr .i64 _)) ?_
 refine .P ?_
 refine .nil (.seq (.seq (.seq (.region (.P ?_)))))
 refine .bin (v := .bool false) rfl rfl rfl rfl rfl rfl (binS_neql hK) ?_
 refine .nil (.seq (.cond_false rfl (.skip (.seq (.seq (.seq (.region (.P ?_))))))))
 refine .nil (.seq (.block (.seq (.region (.P2 ?_)))))
 refine .nil (.seq (.cond_false rfl (.seq (.region (.P2 ?_)))))
 refine .nil (.seq (.cond_false rfl (.seq (.region (.P2 ?_)))))
 refine .nil (.seq (.cond_false rfl (.seq (.region (.P2 ?_)))))
 refine .nil (.seq (.cond_false rfl (.seq (.region (.P2 ?_)))))
 refine .nil (.seq (.cond_true rfl (.seq (.region ?_))))
 iterate 4 refine .P ?_
 refine .call _ rfl rfl rfl rfl rfl rfl (fun m hm => hW hm.lole (by first | exact ha | exact hb | exact Fit.wr .i64 _)) ?_
 refine .P2 ?_
 refine .nil (.seq (.ret (.blk (.seq ?_))))
 exact .end_ rfl rfl (fun m hm => ⟨congrArg (fun z => Value.tuple ⟨[.int .i64 z, .bool true]⟩) (bit_wr Nat.or_mod_two_pow hk _ _), hm.ext⟩)
theorem RArith_7 {K : Int} {k : IntKind} {a b : Int} {m : AW} (hm : m.lo ≤ m.next) (hK : K ≠ 4) (hk : k.bits ≤ 64) (hmin : IntKind.i64.min ≤ k.min) (hmax : k.max ≤ IntKind.i64.max) (hW : ∀ {n : Int} {m : AW}, m.lo ≤ m.next → Fit .i64 n → Fc prog 22 [.int .i64 K, .int .i64 n] m fun v m' => v = .int .i64 (wr k n) ∧ Ext m m') (ha : Fit .i64 a) (hb : Fit .i64 b) : Fc prog 26 [.int .i64 K, .int .i64 7, .int .i64 a, .int .i64 b] m fun v m' => v = .tuple ⟨[.int .i64 (bitV (· ^^^ ·) k (wr k a) (wr k b)), .bool true]⟩ ∧ Ext m m' := by
 refine Fc.body (c := _) func26 rfl rfl rfl rfl hm ?_
 refine .seq (.region (.P2 ?_))
 refine .nil (.seq (.seq (.region (.P2 ?_))))
 refine .call _ rfl rfl rfl rfl rfl rfl (fun m hm => hW hm.lole (by first | exact ha | exact hb | exact Fit.wr .i64 _)) ?_
 refine .P ?_
 refine .nil (.seq (.seq (.seq (.region ?_))))
 iterate 6 refine .P ?_
 refine .nil (.seq (.cond_false rfl (.skip (.seq (.seq (.region (.P2 ?_)))))))
 refine .call _ rfl rfl rfl rfl rfl rfl (fun m hm => hW hm.lole (by first | exact ha | exact hb | exact Fit.wr .i64 _)) ?_
 refine .P ?_
 refine .nil (.seq (.seq (.seq (.region (.P ?_)))))
 refine .bin (v := .bool false) rfl rfl rfl rfl rfl rfl (binS_neql hK) ?_
 refine .nil (.seq (.cond_false rfl (.skip (.seq (.seq (.seq (.region (.P ?_))))))))
 refine .nil (.seq (.block (.seq (.region (.P2 ?_)))))
 refine .nil (.seq (.cond_false rfl (.seq (.region (.P2 ?_)))))
 refine .nil (.seq (.cond_false rfl (.seq (.region (.P2 ?_)))))
 refine .nil (.seq (.cond_false rfl (.seq (.region (.P2 ?_)))))
 refine .nil (.seq (.cond_false rfl (.seq (.region (.P2 ?_)))))
 refine .nil (.seq (.cond_false rfl (.seq (.region (.P2 ?_)))))
 refine .nil (.seq (.cond_true rfl (.seq (.region ?_))))
 iterate 4 refine .P ?_
 refine .call _ rfl rfl rfl rfl rfl rfl (fun m hm => hW hm.lole (by first | exact ha | exact hb | exact Fit.wr .i64 _)) ?_
 refine .P2 ?_
 refine .nil (.seq (.ret (.blk (.seq ?_))))
 exact .end_ rfl rfl (fun m hm => ⟨congrArg (fun z => Value.tuple ⟨[.int .i64 z, .bool true]⟩) (bit_wr Nat.xor_mod_two_pow hk _ _), hm.ext⟩)
theorem RArith_3z {K : Int} {k : IntKind} {a b : Int} {m : AW} (hm : m.lo ≤ m.next) (hK : K ≠ 4) (hk : k.bits ≤ 64) (hmin : IntKind.i64.min ≤ k.min) (hmax : k.max ≤ IntKind.i64.max) (hW : ∀ {n : Int} {m : AW}, m.lo ≤ m.next → Fit .i64 n → Fc prog 22 [.int .i64 K, .int .i64 n] m fun v m' => v = .int .i64 (wr k n) ∧ Ext m m') (ha : Fit .i64 a) (hb : Fit .i64 b) (h0 : wr k b = 0) : Fc prog 26 [.int .i64 K, .int .i64 3, .int .i64 a, .int .i64 b] m fun v m' => v = .tuple ⟨[.int .i64 (0), .bool false]⟩ ∧ Ext m m' := by
 refine Fc.body (c := _) func26 rfl rfl rfl rfl hm ?_
 refine .seq (.region (.P2 ?_))
 refine .nil (.seq (.seq (.region (.P2 ?_))))
 refine .call _ rfl rfl rfl rfl rfl rfl (fun m hm => hW hm.lole (by first | exact ha | exact hb | exact Fit.wr .i64 _)) ?_
 refine .P ?_
 refine .nil (.seq (.seq (.seq (.region ?_))))
 iterate 6 refine .P ?_
 refine .nil (.seq (.cond_false rfl (.skip (.seq (.seq (.region (.P2 ?_)))))))
 refine .call _ rfl rfl rfl rfl rfl rfl (fun m hm => hW hm.lole (by first | exact ha | exact hb | exact Fit.wr .i64 _)) ?_
 refine .P ?_
 refine .nil (.seq (.seq (.seq (.region (.P ?_)))))
 refine .bin (v := .bool false) rfl rfl rfl rfl rfl rfl (binS_neql hK) ?_
 refine .nil (.seq (.cond_false rfl (.skip (.seq (.seq (.seq (.region (.P ?_))))))))
 refine .nil (.seq (.block (.seq (.region (.P2 ?_)))))
 refine .nil (.seq (.cond_false rfl (.seq (.region (.P2 ?_)))))
 refine .nil (.seq (.cond_false rfl (.seq (.region (.P2 ?_)))))
 refine .nil (.seq (.cond_false rfl (.seq (.region (.P2 ?_)))))
 refine .nil (.seq (.cond_false rfl (.seq (.region (.P2 ?_)))))
 refine .nil (.seq (.cond_false rfl (.seq (.region (.P2 ?_)))))
 refine .nil (.seq (.cond_false rfl (.skip (.blk (.seq (.seq (.seq (.region (.P ?_)))))))))
 refine .bin (v := .bool true) rfl rfl rfl rfl rfl rfl (binS_eql h0) ?_
 refine .nil (.seq (.cond_true rfl (.seq (.region (.P2 ?_)))))
 refine .nil (.seq (.ret (.seq ?_)))
 exact .end_ rfl rfl (fun m hm => ⟨rfl, hm.ext⟩)
theorem RArith_3 {K : Int} {k : IntKind} {a b : Int} {m : AW} (hm : m.lo ≤ m.next) (hK : K ≠ 4) (hk : k.bits ≤ 64) (hmin : IntKind.i64.min ≤ k.min) (hmax : k.max ≤ IntKind.i64.max) (hW : ∀ {n : Int} {m : AW}, m.lo ≤ m.next → Fit .i64 n → Fc prog 22 [.int .i64 K, .int .i64 n] m fun v m' => v = .int .i64 (wr k n) ∧ Ext m m') (ha : Fit .i64 a) (hb : Fit .i64 b) (h0 : wr k b ≠ 0) : Fc prog 26 [.int .i64 K, .int .i64 3, .int .i64 a, .int .i64 b] m fun v m' => v = .tuple ⟨[.int .i64 (wr k ((wr k a).tdiv (wr k b))), .bool true]⟩ ∧ Ext m m' := by
 refine Fc.body (c := _) func26 rfl rfl rfl rfl hm ?_
 refine .seq (.region (.P2 ?_))
 refine .nil (.seq (.seq (.region (.P2 ?_))))
 refine .call _ rfl rfl rfl rfl rfl rfl (fun m hm => hW hm.lole (by first | exact ha | exact hb | exact Fit.wr .i64 _)) ?_
 refine .P ?_
 refine .nil (.seq (.seq (.seq (.region ?_))))
 iterate 6 refine .P ?_
 refine .nil (.seq (.cond_false rfl (.skip (.seq (.seq (.region (.P2 ?_)))))))
 refine .call _ rfl rfl rfl rfl rfl rfl (fun m hm => hW hm.lole (by first | exact ha | exact hb | exact Fit.wr .i64 _)) ?_
 refine .P ?_
 refine .nil (.seq (.seq (.seq (.region (.P ?_)))))
 refine .bin (v := .bool false) rfl rfl rfl rfl rfl rfl (binS_neql hK) ?_
 refine .nil (.seq (.cond_false rfl (.skip (.seq (.seq (.seq (.region (.P ?_))))))))
 refine .nil (.seq (.block (.seq (.region (.P2 ?_)))))
 refine .nil (.seq (.cond_false rfl (.seq (.region (.P2 ?_)))))
 refine .nil (.seq (.cond_false rfl (.seq (.region (.P2 ?_)))))
 refine .nil (.seq (.cond_false rfl (.seq (.region (.P2 ?_)))))
 refine .nil (.seq (.cond_false rfl (.seq (.region (.P2 ?_)))))
 refine .nil (.seq (.cond_false rfl (.seq (.region (.P2 ?_)))))
 refine .nil (.seq (.cond_false rfl (.skip (.blk (.seq (.seq (.seq (.region (.P ?_)))))))))
 refine .bin (v := .bool false) rfl rfl rfl rfl rfl rfl (binS_neql h0) ?_
 refine .nil (.seq (.cond_false rfl (.skip (.seq (.seq (.region (.P ?_)))))))
 refine .nil (.seq (.seq (.seq (.region (.P2 ?_)))))
 refine .nil (.seq (.cond rfl (fun hc0 => ?_) fun hc0 => ?_))
 ·(try simp only [decide_eq_true_eq, decide_eq_false_iff_not, nrm_lt, nrm_nlt, nrm_eq, nrm_neq, nrm_seq, nrm_sneq, nrm_sempty, nrm_snempty, nrm_ofNat, Bool.not_eq_true', Bool.not_eq_false'] at hc0)
  refine .region (.P3 ?_)
  refine .nil (.seq (.seq (.seq (.region (.P2 ?_)))))
  refine .nil (.seq (.cond_true rfl (.seq (.region (.P2 ?_)))))
  refine .call _ rfl rfl rfl rfl rfl rfl (fun m hm => hW hm.lole (by first | exact ha | exact hb | exact Fit.wr .i64 _)) ?_
  refine .P2 ?_
  refine .nil (.seq (.ret (.seq ?_)))
  exact .end_ rfl rfl (fun m hm => ⟨congrArg (fun z => Value.tuple ⟨[.int .i64 z, .bool true]⟩) (by first | exact rtdiv1 hk (by assumption) | exact rtdiv2 hk), hm.ext⟩)
 (try simp only [decide_eq_true_eq, decide_eq_false_iff_not, nrm_lt, nrm_nlt, nrm_eq, nrm_neq, nrm_seq, nrm_sneq, nrm_sempty, nrm_snempty, nrm_ofNat, Bool.not_eq_true', Bool.not_eq_false'] at hc0)
 refine .region (.P2 ?_)
 refine .bin rfl rfl rfl rfl rfl rfl (binS_quo h0) ?_
 refine .P ?_
 refine .nil (.seq (.seq (.seq (.region (.P2 ?_)))))
 refine .nil (.seq (.cond_true rfl (.seq (.region (.P2 ?_)))))
 refine .call _ rfl rfl rfl rfl rfl rfl (fun m hm => hW hm.lole (by first | exact ha | exact hb | exact Fit.wr .i64 _)) ?_
 refine .P2 ?_
 refine .nil (.seq (.ret (.seq ?_)))
 exact .end_ rfl rfl (fun m hm => ⟨congrArg (fun z => Value.tuple ⟨[.int .i64 z, .bool true]⟩) (by first | exact rtdiv1 hk (by assumption) | exact rtdiv2 hk), hm.ext⟩)
theorem RArith_4z {K : Int} {k : IntKind} {a b : Int} {m : AW} (hm : m.lo ≤ m.next) (hK : K ≠ 4) (hk : k.bits ≤ 64) (hmin : IntKind.i64.min ≤ k.min) (hmax : k.max ≤ IntKind.i64.max) (hW : ∀ {n : Int} {m : AW}, m.lo ≤ m.next → Fit .i64 n → Fc prog 22 [.int .i64 K, .int .i64 n] m fun v m' => v = .int .i64 (wr k n) ∧ Ext m m') (ha : Fit .i64 a) (hb : Fit .i64 b) (h0 : wr k b = 0) : Fc prog 26 [.int .i64 K, .int .i64 4, .int .i64 a, .int .i64 b] m fun v m' => v = .tuple ⟨[.int .i64 (0), .bool false]⟩ ∧ Ext m m' := by
 refine Fc.body (c := _) func26 rfl rfl rfl rfl hm ?_
 refine .seq (.region (.P2 ?_))
 refine .nil (.seq (.seq (.region (.P2 ?_))))
 refine .call _ rfl rfl rfl rfl rfl rfl (fun m hm => hW hm.lole (by first | exact ha | exact hb | exact Fit.wr .i64 _)) ?_
 refine .P ?_
 refine .nil (.seq (.seq (.seq (.region ?_))))
 iterate 6 refine .P ?_
 refine .nil (.seq (.cond_false rfl (.skip (.seq (.seq (.region (.P2 ?_)))))))
 refine .call _ rfl rfl rfl rfl rfl rfl (fun m hm => hW hm.lole (by first | exact ha | exact hb | exact Fit.wr .i64 _)) ?_
 refine .P ?_
 refine .nil (.seq (.seq (.seq (.region (.P ?_)))))
 refine .bin (v := .bool false) rfl rfl rfl rfl rfl rfl (binS_neql hK) ?_
 refine .nil (.seq (.cond_false rfl (.skip (.seq (.seq (.seq (.region (.P ?_))))))))
 refine .nil (.seq (.block (.seq (.region (.P2 ?_)))))
 refine .nil (.seq (.cond_false rfl (.seq (.region (.P2 ?_)))))
 refine .nil (.seq (.cond_false rfl (.seq (.region (.P2 ?_)))))
 refine .nil (.seq (.cond_false rfl (.seq (.region (.P2 ?_)))))
 refine .nil (.seq (.cond_false rfl (.seq (.region (.P2 ?_)))))
 refine .nil (.seq (.cond_false rfl (.seq (.region (.P2 ?_)))))
 refine .nil (.seq (.cond_false rfl (.skip (.blk (.seq (.seq (.seq (.region (.P ?_)))))))))
 refine .bin (v := .bool true) rfl rfl rfl rfl rfl rfl (binS_eql h0) ?_
 refine .nil (.seq (.cond_true rfl (.seq (.region (.P2 ?_)))))
 refine .nil (.seq (.ret (.seq ?_)))
 exact .end_ rfl rfl (fun m hm => ⟨rfl, hm.ext⟩)
theorem RArith_4 {K : Int} {k : IntKind} {a b : Int} {m : AW} (hm : m.lo ≤ m.next) (hK : K ≠ 4) (hk : k.bits ≤ 64) (hmin : IntKind.i64.min ≤ k.min) (hmax : k.max ≤ IntKind.i64.max) (hW : ∀ {n : Int} {m : AW}, m.lo ≤ m.next → Fit .i64 n → Fc prog 22 [.int .i64 K, .int .i64 n] m fun v m' => v = .int .i64 (wr k n) ∧ Ext m m') (ha : Fit .i64 a) (hb : Fit .i64 b) (h0 : wr k b ≠ 0) : Fc prog 26 [.int .i64 K, .int .i64 4, .int .i64 a, .int .i64 b] m fun v m' => v = .tuple ⟨[.int .i64 (wr k ((wr k a).tmod (wr k b))), .bool true]⟩ ∧ Ext m m' := by
 refine Fc.body (c := _) func26 rfl rfl rfl rfl hm ?_
 refine .seq (.region (.P2 ?_))
 refine .nil (.seq (.seq (.region (.P2 ?_))))
 refine .call _ rfl rfl rfl rfl rfl rfl (fun m hm => hW hm.lole (by first | exact ha | exact hb | exact Fit.wr .i64 _)) ?_
 refine .P ?_
 refine .nil (.seq (.seq (.seq (.region ?_))))
 iterate 6 refine .P ?_
 refine .nil (.seq (.cond_false rfl (.skip (.seq (.seq (.region (.P2 ?_)))))))
 refine .call _ rfl rfl rfl rfl rfl rfl (fun m hm => hW hm.lole (by first | exact ha | exact hb | exact Fit.wr .i64 _)) ?_
 refine .P ?_
 refine .nil (.seq (.seq (.seq (.region (.P ?_)))))
 refine .bin (v := .bool false) rfl rfl rfl rfl rfl rfl (binS_neql hK) ?_
 refine .nil (.seq (.cond_false rfl (.skip (.seq (.seq (.seq (.region (.P ?_))))))))
 refine .nil (.seq (.block (.seq (.region (.P2 ?_)))))
 refine .nil (.seq (.cond_false rfl (.seq (.region (.P2 ?_)))))
 refine .nil (.seq (.cond_false rfl (.seq (.region (.P2 ?_)))))
 refine .nil (.seq (.cond_false rfl (.seq (.region (.P2 ?_)))))
 refine .nil (.seq (.cond_false rfl (.seq (.region (.P2 ?_)))))
 refine .nil (.seq (.cond_false rfl (.seq (.region (.P2 ?_)))))
 refine .nil (.seq (.cond_false rfl (.skip (.blk (.seq (.seq (.seq (.region (.P ?_)))))))))
 refine .bin (v := .bool false) rfl rfl rfl rfl rfl rfl (binS_neql h0) ?_
 refine .nil (.seq (.cond_false rfl (.skip (.seq (.seq (.region (.P ?_)))))))
 refine .nil (.seq (.seq (.seq (.region (.P2 ?_)))))
 refine .nil (.seq (.cond rfl (fun hc0 => ?_) fun hc0 => ?_))
 ·(try simp only [decide_eq_true_eq, decide_eq_false_iff_not, nrm_lt, nrm_nlt, nrm_eq, nrm_neq, nrm_seq, nrm_sneq, nrm_sempty, nrm_snempty, nrm_ofNat, Bool.not_eq_true', Bool.not_eq_false'] at hc0)
  refine .region (.P3 ?_)
  refine .nil (.seq (.seq (.seq (.region (.P2 ?_)))))
  refine .nil (.seq (.cond_false rfl (.skip (.seq (.seq (.region ?_))))))
  iterate 6 refine .P ?_
  refine .call _ rfl rfl rfl rfl rfl rfl (fun m hm => hW hm.lole (by first | exact ha | exact hb | exact Fit.wr .i64 _)) ?_
  refine .P2 ?_
  refine .nil (.seq (.ret ?_))
  exact .end_ rfl rfl (fun m hm => ⟨congrArg (fun z => Value.tuple ⟨[.int .i64 z, .bool true]⟩) (by first | exact rtmod1 hk (by assumption) | exact rtmod2 hk), hm.ext⟩)
 (try simp only [decide_eq_true_eq, decide_eq_false_iff_not, nrm_lt, nrm_nlt, nrm_eq, nrm_neq, nrm_seq, nrm_sneq, nrm_sempty, nrm_snempty, nrm_ofNat, Bool.not_eq_true', Bool.not_eq_false'] at hc0)
 refine .region (.P2 ?_)
 refine .bin rfl rfl rfl rfl rfl rfl (binS_quo h0) ?_
 refine .P ?_
 refine .nil (.seq (.seq (.seq (.region (.P2 ?_)))))
 refine .nil (.seq (.cond_false rfl (.skip (.seq (.seq (.region ?_))))))
 iterate 6 refine .P ?_
 refine .call _ rfl rfl rfl rfl rfl rfl (fun m hm => hW hm.lole (by first | exact ha | exact hb | exact Fit.wr .i64 _)) ?_
 refine .P2 ?_
 refine .nil (.seq (.ret ?_))
 exact .end_ rfl rfl (fun m hm => ⟨congrArg (fun z => Value.tuple ⟨[.int .i64 z, .bool true]⟩) (by first | exact rtmod1 hk (by assumption) | exact rtmod2 hk), hm.ext⟩)
theorem width_1 {m : AW} (hm : m.lo ≤ m.next) : Fc prog 80 [.int .i64 1] m fun v m' => v = .int .i64 8 ∧ Ext m m' := by
 refine Fc.body (c := _) func80 rfl rfl rfl rfl hm ?_
 refine .seq (.region (.P ?_))
 refine .nil (.seq (.seq (.seq (.region (.P ?_)))))
 refine .nil (.seq (.block (.seq (.region (.P2 ?_)))))
 refine .nil (.seq (.cond_true rfl (.seq (.region (.P ?_)))))
 refine .nil (.seq (.ret (.blk (.seq ?_))))
 exact .end_ rfl rfl (fun m hm => ⟨rfl, hm.ext⟩)
theorem width_2 {m : AW} (hm : m.lo ≤ m.next) : Fc prog 80 [.int .i64 2] m fun v m' => v = .int .i64 32 ∧ Ext m m' := by
 refine Fc.body (c := _) func80 rfl rfl rfl rfl hm ?_
 refine .seq (.region (.P ?_))
 refine .nil (.seq (.seq (.seq (.region (.P ?_)))))
 refine .nil (.seq (.block (.seq (.region (.P2 ?_)))))
 refine .nil (.seq (.cond_false rfl (.seq (.region (.P2 ?_)))))
 refine .nil (.seq (.cond_true rfl (.seq (.region (.P ?_)))))
 refine .nil (.seq (.ret (.blk (.seq ?_))))
 exact .end_ rfl rfl (fun m hm => ⟨rfl, hm.ext⟩)
theorem width_3 {m : AW} (hm : m.lo ≤ m.next) : Fc prog 80 [.int .i64 3] m fun v m' => v = .int .i64 64 ∧ Ext m m' := by
 refine Fc.body (c := _) func80 rfl rfl rfl rfl hm ?_
 refine .seq (.region (.P ?_))
 refine .nil (.seq (.seq (.seq (.region (.P ?_)))))
 refine .nil (.seq (.block (.seq (.region (.P2 ?_)))))
 refine .nil (.seq (.cond_false rfl (.seq (.region (.P2 ?_)))))
 refine .nil (.seq (.cond_false rfl (.skip (.blk (.seq (.seq (.region (.P ?_))))))))
 refine .nil (.seq (.ret ?_))
 exact .end_ rfl rfl (fun m hm => ⟨rfl, hm.ext⟩)
theorem shift_8_out {K a y : Int} {m : AW} (hm : m.lo ≤ m.next) {w : Nat} (hw : ∀ {m : AW}, m.lo ≤ m.next → Fc prog 80 [.int .i64 K] m fun v m' => v = .int .i64 (Int.ofNat w) ∧ Ext m m') (hy : y < 0 ∨ (w : Int) ≤ y) : Fc prog 53 [.int .i64 K, .int .i64 8, .int .i64 a, .int .i64 y] m fun v m' => v = .int .i64 (0) ∧ Ext m m' := by
 refine Fc.body (c := _) func53 rfl rfl rfl rfl hm ?_
 refine .seq (.region (.P ?_))
 refine .nil (.seq (.seq (.seq (.region (.P3 ?_)))))
 refine .splitB 12 rfl (fun hs_12 => ?_) (fun hs_12 => ?_)
 ·(try simp only [decide_eq_true_eq, decide_eq_false_iff_not, nrm_lt, nrm_nlt, nrm_eq, nrm_neq, nrm_seq, nrm_sneq, nrm_sempty, nrm_snempty, nrm_ofNat, Bool.not_eq_true', Bool.not_eq_false'] at hs_12)
  iterate 4 refine .O ?_
  refine .P ?_
  refine .nil (.seq (.cond_true rfl (.seq (.seq (.region (.P3 ?_))))))
  iterate 2 refine .O ?_
  refine .P ?_
  refine .nil (.seq (.cond_false rfl (.skip (.seq (.seq (.region (.P ?_)))))))
  refine .nil (.seq (.ret (.seq ?_)))
  exact .end_ rfl rfl (fun m hm => ⟨rfl, hm.ext⟩)
 (try simp only [decide_eq_true_eq, decide_eq_false_iff_not, nrm_lt, nrm_nlt, nrm_eq, nrm_neq, nrm_seq, nrm_sneq, nrm_sempty, nrm_snempty, nrm_ofNat, Bool.not_eq_true', Bool.not_eq_false'] at hs_12)
 refine .P2 ?_
 refine .call _ rfl rfl rfl rfl rfl rfl (fun m hm => hw hm.lole) ?_
 refine .P2 ?_
 refine .nil (.seq (.cond rfl (fun ht17 => ?_) fun ht17 => ?_))
 ·(try simp only [decide_eq_true_eq, decide_eq_false_iff_not, nrm_lt, nrm_nlt, nrm_eq, nrm_neq, nrm_seq, nrm_sneq, nrm_sempty, nrm_snempty, nrm_ofNat, Bool.not_eq_true', Bool.not_eq_false'] at ht17)
  refine .seq (.seq (.region (.P3 ?_)))
  iterate 2 refine .O ?_
  refine .P ?_
  refine .nil (.seq (.cond_false rfl (.skip (.seq (.seq (.region (.P ?_)))))))
  refine .nil (.seq (.ret (.seq ?_)))
  exact .end_ rfl rfl (fun m hm => ⟨rfl, hm.ext⟩)
 (try simp only [decide_eq_true_eq, decide_eq_false_iff_not, nrm_lt, nrm_nlt, nrm_eq, nrm_neq, nrm_seq, nrm_sneq, nrm_sempty, nrm_snempty, nrm_ofNat, Bool.not_eq_true', Bool.not_eq_false'] at ht17)
 exfalso; omega
theorem shift_9_out {K a y : Int} {m : AW} (hm : m.lo ≤ m.next) {w : Nat} (hw : ∀ {m : AW}, m.lo ≤ m.next → Fc prog 80 [.int .i64 K] m fun v m' => v = .int .i64 (Int.ofNat w) ∧ Ext m m') (hy : y < 0 ∨ (w : Int) ≤ y) : Fc prog 53 [.int .i64 K, .int .i64 9, .int .i64 a, .int .i64 y] m fun v m' => v = .int .i64 (if a < 0 then -1 else 0) ∧ Ext m m' := by
 refine Fc.body (c := _) func53 rfl rfl rfl rfl hm ?_
 refine .seq (.region (.P ?_))
 refine .nil (.seq (.seq (.seq (.region (.P3 ?_)))))
 refine .splitB 12 rfl (fun hs_12 => ?_) (fun hs_12 => ?_)
 ·(try simp only [decide_eq_true_eq, decide_eq_false_iff_not, nrm_lt, nrm_nlt, nrm_eq, nrm_neq, nrm_seq, nrm_sneq, nrm_sempty, nrm_snempty, nrm_ofNat, Bool.not_eq_true', Bool.not_eq_false'] at hs_12)
  iterate 4 refine .O ?_
  refine .P ?_
  refine .nil (.seq (.cond_true rfl (.seq (.seq (.region ?_)))))
  iterate 6 refine .P ?_
  refine .nil (.seq (.cond rfl (fun hc0 => ?_) fun hc0 => ?_))
  ·(try simp only [decide_eq_true_eq, decide_eq_false_iff_not, nrm_lt, nrm_nlt, nrm_eq, nrm_neq, nrm_seq, nrm_sneq, nrm_sempty, nrm_snempty, nrm_ofNat, Bool.not_eq_true', Bool.not_eq_false'] at hc0)
   refine .seq (.region (.P ?_))
   refine .nil (.seq (.ret (.seq (.seq ?_))))
   exact .end_ rfl rfl (fun m hm => ⟨congrArg (Value.int .i64) (by first | (rw [if_pos (by omega)]) | (rw [if_neg (by omega)])), hm.ext⟩)
  (try simp only [decide_eq_true_eq, decide_eq_false_iff_not, nrm_lt, nrm_nlt, nrm_eq, nrm_neq, nrm_seq, nrm_sneq, nrm_sempty, nrm_snempty, nrm_ofNat, Bool.not_eq_true', Bool.not_eq_false'] at hc0)
  refine .skip (.seq (.seq (.region (.P ?_))))
  refine .nil (.seq (.ret (.seq ?_)))
  exact .end_ rfl rfl (fun m hm => ⟨congrArg (Value.int .i64) (by first | (rw [if_pos (by omega)]) | (rw [if_neg (by omega)])), hm.ext⟩)
 (try simp only [decide_eq_true_eq, decide_eq_false_iff_not, nrm_lt, nrm_nlt, nrm_eq, nrm_neq, nrm_seq, nrm_sneq, nrm_sempty, nrm_snempty, nrm_ofNat, Bool.not_eq_true', Bool.not_eq_false'] at hs_12)
 refine .P2 ?_
 refine .call _ rfl rfl rfl rfl rfl rfl (fun m hm => hw hm.lole) ?_
 refine .P2 ?_
 refine .nil (.seq (.cond rfl (fun ht17 => ?_) fun ht17 => ?_))
 ·(try simp only [decide_eq_true_eq, decide_eq_false_iff_not, nrm_lt, nrm_nlt, nrm_eq, nrm_neq, nrm_seq, nrm_sneq, nrm_sempty, nrm_snempty, nrm_ofNat, Bool.not_eq_true', Bool.not_eq_false'] at ht17)
  refine .seq (.seq (.region ?_))
  iterate 6 refine .P ?_
  refine .nil (.seq (.cond rfl (fun hc2 => ?_) fun hc2 => ?_))
  ·(try simp only [decide_eq_true_eq, decide_eq_false_iff_not, nrm_lt, nrm_nlt, nrm_eq, nrm_neq, nrm_seq, nrm_sneq, nrm_sempty, nrm_snempty, nrm_ofNat, Bool.not_eq_true', Bool.not_eq_false'] at hc2)
   refine .seq (.region (.P ?_))
   refine .nil (.seq (.ret (.seq (.seq ?_))))
   exact .end_ rfl rfl (fun m hm => ⟨congrArg (Value.int .i64) (by first | (rw [if_pos (by omega)]) | (rw [if_neg (by omega)])), hm.ext⟩)
  (try simp only [decide_eq_true_eq, decide_eq_false_iff_not, nrm_lt, nrm_nlt, nrm_eq, nrm_neq, nrm_seq, nrm_sneq, nrm_sempty, nrm_snempty, nrm_ofNat, Bool.not_eq_true', Bool.not_eq_false'] at hc2)
  refine .skip (.seq (.seq (.region (.P ?_))))
  refine .nil (.seq (.ret (.seq ?_)))
  exact .end_ rfl rfl (fun m hm => ⟨congrArg (Value.int .i64) (by first | (rw [if_pos (by omega)]) | (rw [if_neg (by omega)])), hm.ext⟩)
 (try simp only [decide_eq_true_eq, decide_eq_false_iff_not, nrm_lt, nrm_nlt, nrm_eq, nrm_neq, nrm_seq, nrm_sneq, nrm_sempty, nrm_snempty, nrm_ofNat, Bool.not_eq_true', Bool.not_eq_false'] at ht17)
 exfalso; omega
theorem shift_8_in {K : Int} {k : IntKind} {a : Int} {j : Nat} {m : AW} (hm : m.lo ≤ m.next) (hK : K ≠ 4) (hk : k.bits ≤ 64) (hmin : IntKind.i64.min ≤ k.min) (hmax : k.max ≤ IntKind.i64.max) (hW : ∀ {n : Int} {m : AW}, m.lo ≤ m.next → Fit .i64 n → Fc prog 22 [.int .i64 K, .int .i64 n] m fun v m' => v = .int .i64 (wr k n) ∧ Ext m m') {w : Nat} (hw : ∀ {m : AW}, m.lo ≤ m.next → Fc prog 80 [.int .i64 K] m fun v m' => v = .int .i64 (Int.ofNat w) ∧ Ext m m') (ha : Fit k a) (hj : j < w) (hw64 : w ≤ 64) : Fc prog 53 [.int .i64 K, .int .i64 8, .int .i64 a, .int .i64 (Int.ofNat j)] m fun v m' => v = .int .i64 (wr k (a * 2 ^ j)) ∧ Ext m m' := by
 refine Fc.body (c := _) func53 rfl rfl rfl rfl hm ?_
 refine .seq (.region (.P ?_))
 refine .nil (.seq (.seq (.seq (.region (.P3 ?_)))))
 refine .splitB 12 rfl (fun hs_12 => ?_) (fun hs_12 => ?_)
 ·(try simp only [decide_eq_true_eq, decide_eq_false_iff_not, nrm_lt, nrm_nlt, nrm_eq, nrm_neq, nrm_seq, nrm_sneq, nrm_sempty, nrm_snempty, nrm_ofNat, Bool.not_eq_true', Bool.not_eq_false'] at hs_12)
  exfalso; omega
 (try simp only [decide_eq_true_eq, decide_eq_false_iff_not, nrm_lt, nrm_nlt, nrm_eq, nrm_neq, nrm_seq, nrm_sneq, nrm_sempty, nrm_snempty, nrm_ofNat, Bool.not_eq_true', Bool.not_eq_false'] at hs_12)
 refine .P2 ?_
 refine .call _ rfl rfl rfl rfl rfl rfl (fun m hm => hw hm.lole) ?_
 refine .P2 ?_
 refine .nil (.seq (.cond rfl (fun ht17 => ?_) fun ht17 => ?_))
 ·(try simp only [decide_eq_true_eq, decide_eq_false_iff_not, nrm_lt, nrm_nlt, nrm_eq, nrm_neq, nrm_seq, nrm_sneq, nrm_sempty, nrm_snempty, nrm_ofNat, Bool.not_eq_true', Bool.not_eq_false'] at ht17)
  exfalso; omega
 (try simp only [decide_eq_true_eq, decide_eq_false_iff_not, nrm_lt, nrm_nlt, nrm_eq, nrm_neq, nrm_seq, nrm_sneq, nrm_sempty, nrm_snempty, nrm_ofNat, Bool.not_eq_true', Bool.not_eq_false'] at ht17)
 refine .skip (.seq (.seq (.seq (.region (.P ?_)))))
 refine .nil (.seq (.block ?_))
 refine .loop (α := Nat) (fun i => [(0, .int .i64 K), (1, .int .i64 8), (2, .int .i64 (wr k (a * 2 ^ i))), (3, .int .i64 (Int.ofNat j)), (9, .int .i64 (Int.ofNat i))]) (fun i => []) (fun i => i ≤ j) (fun i => j - i) 0 (Nat.zero_le _) ⟨rfl, rfl, congrArg (fun z => some (Value.int .i64 z)) (by rw [Int.pow_zero, Int.mul_one]; exact (show wr k a = a from ha).symm), rfl, rfl, trivial⟩ (List.nil_sublist _) (fun i hi => ?_)
 refine .seq (.seq (.region (.P3 ?_)))
 refine .nil (.seq (.cond rfl (fun ht26 => ?_) fun ht26 => ?_))
 ·(try simp only [decide_eq_true_eq, decide_eq_false_iff_not, nrm_lt, nrm_nlt, nrm_eq, nrm_neq, nrm_seq, nrm_sneq, nrm_sempty, nrm_snempty, nrm_ofNat, Bool.not_eq_true', Bool.not_eq_false'] at ht26)
  refine .skip (.seq (.seq (.block (.seq (.region (.P2 ?_))))))
  refine .nil (.seq (.cond_true rfl (.region ?_)))
  iterate 4 refine .P ?_
  refine .call _ rfl rfl rfl rfl rfl rfl (fun m hm => hW hm.lole (by first | exact ha | exact hb | exact Fit.wr .i64 _)) ?_
  refine .P ?_
  refine .nil (.blk (.seq (.region (.P2 ?_))))
  refine .W 28 i ?_
  refine .P ?_
  refine .nil ?_
  exact .loop (i + 1) (by omega) (by omega) ⟨rfl, rfl, congrArg (fun z => some (Value.int .i64 z)) (shl_step hk), rfl, rfl, trivial⟩ (List.nil_sublist _)
 (try simp only [decide_eq_true_eq, decide_eq_false_iff_not, nrm_lt, nrm_nlt, nrm_eq, nrm_neq, nrm_seq, nrm_sneq, nrm_sempty, nrm_snempty, nrm_ofNat, Bool.not_eq_true', Bool.not_eq_false'] at ht26)
 have hij : i = j := by omega
 refine .exit (.seq (.loop (.here (.seq (.seq (.region (.P2 ?_)))))))
 refine .nil (.seq (.ret ?_))
 exact .end_ rfl rfl (fun m hm => ⟨by rw [hij]; rfl, hm.ext⟩)
theorem shift_9_in {K : Int} {k : IntKind} {a : Int} {j : Nat} {m : AW} (hm : m.lo ≤ m.next) (hK : K ≠ 4) (hk : k.bits ≤ 64) (hmin : IntKind.i64.min ≤ k.min) (hmax : k.max ≤ IntKind.i64.max) (hW : ∀ {n : Int} {m : AW}, m.lo ≤ m.next → Fit .i64 n → Fc prog 22 [.int .i64 K, .int .i64 n] m fun v m' => v = .int .i64 (wr k n) ∧ Ext m m') {w : Nat} (hw : ∀ {m : AW}, m.lo ≤ m.next → Fc prog 80 [.int .i64 K] m fun v m' => v = .int .i64 (Int.ofNat w) ∧ Ext m m') (ha : Fit k a) (hj : j < w) (hw64 : w ≤ 64) : Fc prog 53 [.int .i64 K, .int .i64 9, .int .i64 a, .int .i64 (Int.ofNat j)] m fun v m' => v = .int .i64 (a.fdiv (2 ^ j)) ∧ Ext m m' := by
 refine Fc.body (c := _) func53 rfl rfl rfl rfl hm ?_
 refine .seq (.region (.P ?_))
 refine .nil (.seq (.seq (.seq (.region (.P3 ?_)))))
 refine .splitB 12 rfl (fun hs_12 => ?_) (fun hs_12 => ?_)
 ·(try simp only [decide_eq_true_eq, decide_eq_false_iff_not, nrm_lt, nrm_nlt, nrm_eq, nrm_neq, nrm_seq, nrm_sneq, nrm_sempty, nrm_snempty, nrm_ofNat, Bool.not_eq_true', Bool.not_eq_false'] at hs_12)
  exfalso; omega
 (try simp only [decide_eq_true_eq, decide_eq_false_iff_not, nrm_lt, nrm_nlt, nrm_eq, nrm_neq, nrm_seq, nrm_sneq, nrm_sempty, nrm_snempty, nrm_ofNat, Bool.not_eq_true', Bool.not_eq_false'] at hs_12)
 refine .P2 ?_
 refine .call _ rfl rfl rfl rfl rfl rfl (fun m hm => hw hm.lole) ?_
 refine .P2 ?_
 refine .nil (.seq (.cond rfl (fun ht17 => ?_) fun ht17 => ?_))
 ·(try simp only [decide_eq_true_eq, decide_eq_false_iff_not, nrm_lt, nrm_nlt, nrm_eq, nrm_neq, nrm_seq, nrm_sneq, nrm_sempty, nrm_snempty, nrm_ofNat, Bool.not_eq_true', Bool.not_eq_false'] at ht17)
  exfalso; omega
 (try simp only [decide_eq_true_eq, decide_eq_false_iff_not, nrm_lt, nrm_nlt, nrm_eq, nrm_neq, nrm_seq, nrm_sneq, nrm_sempty, nrm_snempty, nrm_ofNat, Bool.not_eq_true', Bool.not_eq_false'] at ht17)
 refine .skip (.seq (.seq (.seq (.region (.P ?_)))))
 refine .nil (.seq (.block ?_))
 refine .loop (α := Nat) (fun i => [(0, .int .i64 K), (1, .int .i64 9), (2, .int .i64 (a.fdiv (2 ^ i))), (3, .int .i64 (Int.ofNat j)), (9, .int .i64 (Int.ofNat i))]) (fun i => []) (fun i => i ≤ j) (fun i => j - i) 0 (Nat.zero_le _) ⟨rfl, rfl, congrArg (fun z => some (Value.int .i64 z)) (by rw [Int.pow_zero, Int.fdiv_one]), rfl, rfl, trivial⟩ (List.nil_sublist _) (fun i hi => ?_)
 refine .seq (.seq (.region (.P3 ?_)))
 refine .nil (.seq (.cond rfl (fun ht26 => ?_) fun ht26 => ?_))
 ·(try simp only [decide_eq_true_eq, decide_eq_false_iff_not, nrm_lt, nrm_nlt, nrm_eq, nrm_neq, nrm_seq, nrm_sneq, nrm_sempty, nrm_snempty, nrm_ofNat, Bool.not_eq_true', Bool.not_eq_false'] at ht26)
  refine .skip (.seq (.seq (.block (.seq (.region (.P2 ?_))))))
  refine .nil (.seq (.cond_false rfl (.seq (.region (.P3 ?_)))))
  refine .splitB 38 rfl (fun hs1 => ?_) (fun hs1 => ?_)
  ·(try simp only [decide_eq_true_eq, decide_eq_false_iff_not, nrm_lt, nrm_nlt, nrm_eq, nrm_neq, nrm_seq, nrm_sneq, nrm_sempty, nrm_snempty, nrm_ofNat, Bool.not_eq_true', Bool.not_eq_false'] at hs1)
   refine .P ?_
   refine .bin rfl rfl rfl rfl rfl rfl (binS_rem (by decide)) ?_
   refine .P2 ?_
   refine .nil (.seq (.cond rfl (fun hc2 => ?_) fun hc2 => ?_))
   ·(try simp only [decide_eq_true_eq, decide_eq_false_iff_not, nrm_lt, nrm_nlt, nrm_eq, nrm_neq, nrm_seq, nrm_sneq, nrm_sempty, nrm_snempty, nrm_ofNat, Bool.not_eq_true', Bool.not_eq_false'] at hc2)
    refine .region (.P ?_)
    refine .bin rfl rfl rfl rfl rfl rfl (binS_quo (by decide)) ?_
    refine .P2 ?_
    refine .nil (.blk (.seq (.region (.P2 ?_))))
    refine .W 28 i ?_
    refine .P ?_
    refine .nil ?_
    exact .loop (i + 1) (by omega) (by omega) ⟨rfl, rfl, congrArg (fun z => some (Value.int .i64 z)) (by first | exact half_odd (fit_shr (ha.le hmin hmax) i) (by omega) (by omega) | exact half_even (fit_shr (ha.le hmin hmax) i) (by omega) (by omega) | exact half_pos (fit_shr (ha.le hmin hmax) i) (by omega)), rfl, rfl, trivial⟩ (List.nil_sublist _)
   (try simp only [decide_eq_true_eq, decide_eq_false_iff_not, nrm_lt, nrm_nlt, nrm_eq, nrm_neq, nrm_seq, nrm_sneq, nrm_sempty, nrm_snempty, nrm_ofNat, Bool.not_eq_true', Bool.not_eq_false'] at hc2)
   refine .region (.P ?_)
   refine .bin rfl rfl rfl rfl rfl rfl (binS_quo (by decide)) ?_
   refine .P ?_
   refine .nil (.blk (.seq (.region (.P2 ?_))))
   refine .W 28 i ?_
   refine .P ?_
   refine .nil ?_
   exact .loop (i + 1) (by omega) (by omega) ⟨rfl, rfl, congrArg (fun z => some (Value.int .i64 z)) (by first | exact half_odd (fit_shr (ha.le hmin hmax) i) (by omega) (by omega) | exact half_even (fit_shr (ha.le hmin hmax) i) (by omega) (by omega) | exact half_pos (fit_shr (ha.le hmin hmax) i) (by omega)), rfl, rfl, trivial⟩ (List.nil_sublist _)
  (try simp only [decide_eq_true_eq, decide_eq_false_iff_not, nrm_lt, nrm_nlt, nrm_eq, nrm_neq, nrm_seq, nrm_sneq, nrm_sempty, nrm_snempty, nrm_ofNat, Bool.not_eq_true', Bool.not_eq_false'] at hs1)
  iterate 3 refine .O ?_
  refine .P ?_
  refine .nil (.seq (.cond_false rfl (.region (.P ?_))))
  refine .bin rfl rfl rfl rfl rfl rfl (binS_quo (by decide)) ?_
  refine .P ?_
  refine .nil (.blk (.seq (.region (.P2 ?_))))
  refine .W 28 i ?_
  refine .P ?_
  refine .nil ?_
  exact .loop (i + 1) (by omega) (by omega) ⟨rfl, rfl, congrArg (fun z => some (Value.int .i64 z)) (by first | exact half_odd (fit_shr (ha.le hmin hmax) i) (by omega) (by omega) | exact half_even (fit_shr (ha.le hmin hmax) i) (by omega) (by omega) | exact half_pos (fit_shr (ha.le hmin hmax) i) (by omega)), rfl, rfl, trivial⟩ (List.nil_sublist _)
 (try simp only [decide_eq_true_eq, decide_eq_false_iff_not, nrm_lt, nrm_nlt, nrm_eq, nrm_neq, nrm_seq, nrm_sneq, nrm_sempty, nrm_snempty, nrm_ofNat, Bool.not_eq_true', Bool.not_eq_false'] at ht26)
 have hij : i = j := by omega
 refine .exit (.seq (.loop (.here (.seq (.seq (.region (.P2 ?_)))))))
 refine .nil (.seq (.ret ?_))
 exact .end_ rfl rfl (fun m hm => ⟨by rw [hij]; rfl, hm.ext⟩)
theorem RArith_shl_out {K : Int} {k : IntKind} {a b : Int} {m : AW} (hm : m.lo ≤ m.next) (hK : K ≠ 4) (hk : k.bits ≤ 64) (hmin : IntKind.i64.min ≤ k.min) (hmax : k.max ≤ IntKind.i64.max) (hW : ∀ {n : Int} {m : AW}, m.lo ≤ m.next → Fit .i64 n → Fc prog 22 [.int .i64 K, .int .i64 n] m fun v m' => v = .int .i64 (wr k n) ∧ Ext m m') {w : Nat} (hw : ∀ {m : AW}, m.lo ≤ m.next → Fc prog 80 [.int .i64 K] m fun v m' => v = .int .i64 (Int.ofNat w) ∧ Ext m m') (ha : Fit .i64 a) (hb : Fit .i64 b) (hy : wr .i32 b < 0 ∨ (w : Int) ≤ wr .i32 b) : Fc prog 26 [.int .i64 K, .int .i64 8, .int .i64 a, .int .i64 b] m fun v m' => v = .tuple ⟨[.int .i64 (0), .bool true]⟩ ∧ Ext m m' := by
 refine Fc.body (c := _) func26 rfl rfl rfl rfl hm ?_
 refine .seq (.region (.P2 ?_))
 refine .nil (.seq (.seq (.region (.P2 ?_))))
 refine .call _ rfl rfl rfl rfl rfl rfl (fun m hm => hW hm.lole ha) ?_
 refine .P ?_
 refine .nil (.seq (.seq (.seq (.region (.P3 ?_)))))
 iterate 2 refine .O ?_
 refine .P ?_
 refine .nil (.seq (.cond_true rfl (.seq (.region ?_))))
 iterate 4 refine .P ?_
 refine .call _ rfl rfl rfl rfl rfl rfl (fun m hm => RWrap_i32 hm.lole hb) ?_
 refine .call _ rfl rfl rfl rfl rfl rfl (fun m hm => shift_8_out hm.lole hw hy) ?_
 refine .P2 ?_
 refine .nil (.seq (.ret (.seq ?_)))
 exact .end_ rfl rfl (fun m hm => ⟨rfl, hm.ext⟩)
theorem RArith_shl_in {K : Int} {k : IntKind} {a b : Int} {m : AW} (hm : m.lo ≤ m.next) (hK : K ≠ 4) (hk : k.bits ≤ 64) (hmin : IntKind.i64.min ≤ k.min) (hmax : k.max ≤ IntKind.i64.max) (hW : ∀ {n : Int} {m : AW}, m.lo ≤ m.next → Fit .i64 n → Fc prog 22 [.int .i64 K, .int .i64 n] m fun v m' => v = .int .i64 (wr k n) ∧ Ext m m') {w : Nat} (hw : ∀ {m : AW}, m.lo ≤ m.next → Fc prog 80 [.int .i64 K] m fun v m' => v = .int .i64 (Int.ofNat w) ∧ Ext m m') (ha : Fit .i64 a) (hb : Fit .i64 b) {j : Nat} (hy : wr .i32 b = Int.ofNat j) (hj : j < w) (hw64 : w ≤ 64) : Fc prog 26 [.int .i64 K, .int .i64 8, .int .i64 a, .int .i64 b] m fun v m' => v = .tuple ⟨[.int .i64 (wr k (wr k a * 2 ^ j)), .bool true]⟩ ∧ Ext m m' := by
 refine Fc.body (c := _) func26 rfl rfl rfl rfl hm ?_
 refine .seq (.region (.P2 ?_))
 refine .nil (.seq (.seq (.region (.P2 ?_))))
 refine .call _ rfl rfl rfl rfl rfl rfl (fun m hm => hW hm.lole ha) ?_
 refine .P ?_
 refine .nil (.seq (.seq (.seq (.region (.P3 ?_)))))
 iterate 2 refine .O ?_
 refine .P ?_
 refine .nil (.seq (.cond_true rfl (.seq (.region ?_))))
 iterate 4 refine .P ?_
 refine .call _ rfl rfl rfl rfl rfl rfl (fun m hm => (hy ▸ RWrap_i32 hm.lole hb)) ?_
 refine .call _ rfl rfl rfl rfl rfl rfl (fun m hm => shift_8_in hm.lole hK hk hmin hmax hW hw (Fit.wr _ _) hj hw64) ?_
 refine .P2 ?_
 refine .nil (.seq (.ret (.seq ?_)))
 exact .end_ rfl rfl (fun m hm => ⟨rfl, hm.ext⟩)
theorem RArith_shr_out {K : Int} {k : IntKind} {a b : Int} {m : AW} (hm : m.lo ≤ m.next) (hK : K ≠ 4) (hk : k.bits ≤ 64) (hmin : IntKind.i64.min ≤ k.min) (hmax : k.max ≤ IntKind.i64.max) (hW : ∀ {n : Int} {m : AW}, m.lo ≤ m.next → Fit .i64 n → Fc prog 22 [.int .i64 K, .int .i64 n] m fun v m' => v = .int .i64 (wr k n) ∧ Ext m m') {w : Nat} (hw : ∀ {m : AW}, m.lo ≤ m.next → Fc prog 80 [.int .i64 K] m fun v m' => v = .int .i64 (Int.ofNat w) ∧ Ext m m') (ha : Fit .i64 a) (hb : Fit .i64 b) (hy : wr .i32 b < 0 ∨ (w : Int) ≤ wr .i32 b) : Fc prog 26 [.int .i64 K, .int .i64 9, .int .i64 a, .int .i64 b] m fun v m' => v = .tuple ⟨[.int .i64 (if wr k a < 0 then -1 else 0), .bool true]⟩ ∧ Ext m m' := by
 refine Fc.body (c := _) func26 rfl rfl rfl rfl hm ?_
 refine .seq (.region (.P2 ?_))
 refine .nil (.seq (.seq (.region (.P2 ?_))))
 refine .call _ rfl rfl rfl rfl rfl rfl (fun m hm => hW hm.lole ha) ?_
 refine .P ?_
 refine .nil (.seq (.seq (.seq (.region ?_))))
 iterate 6 refine .P ?_
 refine .nil (.seq (.cond_true rfl (.seq (.region ?_))))
 iterate 4 refine .P ?_
 refine .call _ rfl rfl rfl rfl rfl rfl (fun m hm => RWrap_i32 hm.lole hb) ?_
 refine .call _ rfl rfl rfl rfl rfl rfl (fun m hm => shift_9_out hm.lole hw hy) ?_
 refine .P2 ?_
 refine .nil (.seq (.ret (.seq ?_)))
 exact .end_ rfl rfl (fun m hm => ⟨rfl, hm.ext⟩)
theorem RArith_shr_in {K : Int} {k : IntKind} {a b : Int} {m : AW} (hm : m.lo ≤ m.next) (hK : K ≠ 4) (hk : k.bits ≤ 64) (hmin : IntKind.i64.min ≤ k.min) (hmax : k.max ≤ IntKind.i64.max) (hW : ∀ {n : Int} {m : AW}, m.lo ≤ m.next → Fit .i64 n → Fc prog 22 [.int .i64 K, .int .i64 n] m fun v m' => v = .int .i64 (wr k n) ∧ Ext m m') {w : Nat} (hw : ∀ {m : AW}, m.lo ≤ m.next → Fc prog 80 [.int .i64 K] m fun v m' => v = .int .i64 (Int.ofNat w) ∧ Ext m m') (ha : Fit .i64 a) (hb : Fit .i64 b) {j : Nat} (hy : wr .i32 b = Int.ofNat j) (hj : j < w) (hw64 : w ≤ 64) : Fc prog 26 [.int .i64 K, .int .i64 9, .int .i64 a, .int .i64 b] m fun v m' => v = .tuple ⟨[.int .i64 ((wr k a).fdiv (2 ^ j)), .bool true]⟩ ∧ Ext m m' := by
 refine Fc.body (c := _) func26 rfl rfl rfl rfl hm ?_
 refine .seq (.region (.P2 ?_))
 refine .nil (.seq (.seq (.region (.P2 ?_))))
 refine .call _ rfl rfl rfl rfl rfl rfl (fun m hm => hW hm.lole ha) ?_
 refine .P ?_
 refine .nil (.seq (.seq (.seq (.region ?_))))
 iterate 6 refine .P ?_
 refine .nil (.seq (.cond_true rfl (.seq (.region ?_))))
 iterate 4 refine .P ?_
 refine .call _ rfl rfl rfl rfl rfl rfl (fun m hm => (hy ▸ RWrap_i32 hm.lole hb)) ?_
 refine .call _ rfl rfl rfl rfl rfl rfl (fun m hm => shift_9_in hm.lole hK hk hmin hmax hW hw (Fit.wr _ _) hj hw64) ?_
 refine .P2 ?_
 refine .nil (.seq (.ret (.seq ?_)))
 exact .end_ rfl rfl (fun m hm => ⟨rfl, hm.ext⟩)
theorem RUnary_16 {K : Int} {k : IntKind} {a : Int} {m : AW} (hm : m.lo ≤ m.next) (hK : K ≠ 4) (hk : k.bits ≤ 64) (hmin : IntKind.i64.min ≤ k.min) (hmax : k.max ≤ IntKind.i64.max) (hW : ∀ {n : Int} {m : AW}, m.lo ≤ m.next → Fit .i64 n → Fc prog 22 [.int .i64 K, .int .i64 n] m fun v m' => v = .int .i64 (wr k n) ∧ Ext m m') (ha : Fit .i64 a) : Fc prog 28 [.int .i64 K, .int .i64 16, .int .i64 a] m fun v m' => v = .int .i64 (wr k (0 - wr k a)) ∧ Ext m m' := by
 refine Fc.body (c := _) func28 rfl rfl rfl rfl hm ?_
 refine .seq (.region (.P ?_))
 refine .nil (.seq (.seq (.region (.P2 ?_))))
 refine .call _ rfl rfl rfl rfl rfl rfl (fun m hm => hW hm.lole (by first | exact ha | exact Fit.wr .i64 _)) ?_
 refine .P ?_
 refine .nil (.seq (.seq (.block (.seq (.region ?_)))))
 iterate 4 refine .P ?_
 refine .bin (v := .bool false) rfl rfl rfl rfl rfl rfl (binS_neql hK) ?_
 refine .P2 ?_
 refine .nil (.seq (.cond_false rfl (.seq (.region (.P3 ?_)))))
 refine .nil (.seq (.cond_true rfl (.seq (.region (.P3 ?_)))))
 refine .call _ rfl rfl rfl rfl rfl rfl (fun m hm => hW hm.lole (by first | exact ha | exact Fit.wr .i64 _)) ?_
 refine .P ?_
 refine .nil (.seq (.ret (.blk (.seq ?_))))
 exact .end_ rfl rfl (fun m hm => ⟨congrArg (Value.int .i64) (wr_wr hk _), hm.ext⟩)
theorem RUnary_17 {K : Int} {k : IntKind} {a : Int} {m : AW} (hm : m.lo ≤ m.next) (hK : K ≠ 4) (hk : k.bits ≤ 64) (hmin : IntKind.i64.min ≤ k.min) (hmax : k.max ≤ IntKind.i64.max) (hW : ∀ {n : Int} {m : AW}, m.lo ≤ m.next → Fit .i64 n → Fc prog 22 [.int .i64 K, .int .i64 n] m fun v m' => v = .int .i64 (wr k n) ∧ Ext m m') (ha : Fit .i64 a) : Fc prog 28 [.int .i64 K, .int .i64 17, .int .i64 a] m fun v m' => v = .int .i64 (wr k (-1 - wr k a)) ∧ Ext m m' := by
 refine Fc.body (c := _) func28 rfl rfl rfl rfl hm ?_
 refine .seq (.region (.P ?_))
 refine .nil (.seq (.seq (.region (.P2 ?_))))
 refine .call _ rfl rfl rfl rfl rfl rfl (fun m hm => hW hm.lole (by first | exact ha | exact Fit.wr .i64 _)) ?_
 refine .P ?_
 refine .nil (.seq (.seq (.block (.seq (.region (.P3 ?_))))))
 iterate 2 refine .O ?_
 refine .P2 ?_
 refine .nil (.seq (.cond_false rfl (.seq (.region (.P3 ?_)))))
 refine .nil (.seq (.cond_false rfl (.seq (.region (.P3 ?_)))))
 refine .nil (.seq (.cond_true rfl (.seq (.region (.P3 ?_)))))
 refine .call _ rfl rfl rfl rfl rfl rfl (fun m hm => hW hm.lole (by first | exact ha | exact Fit.wr .i64 _)) ?_
 refine .P ?_
 refine .nil (.seq (.ret (.blk (.seq ?_))))
 exact .end_ rfl rfl (fun m hm => ⟨congrArg (Value.int .i64) (wr_wr hk _), hm.ext⟩)
theorem RUnary_18 {K : Int} {k : IntKind} {a : Int} {m : AW} (hm : m.lo ≤ m.next) (hK : K ≠ 4) (hk : k.bits ≤ 64) (hmin : IntKind.i64.min ≤ k.min) (hmax : k.max ≤ IntKind.i64.max) (hW : ∀ {n : Int} {m : AW}, m.lo ≤ m.next → Fit .i64 n → Fc prog 22 [.int .i64 K, .int .i64 n] m fun v m' => v = .int .i64 (wr k n) ∧ Ext m m') (ha : Fit .i64 a) : Fc prog 28 [.int .i64 K, .int .i64 18, .int .i64 a] m fun v m' => v = .int .i64 (if wr k a = 0 then 1 else 0) ∧ Ext m m' := by
 refine Fc.body (c := _) func28 rfl rfl rfl rfl hm ?_
 refine .seq (.region (.P ?_))
 refine .nil (.seq (.seq (.region (.P2 ?_))))
 refine .call _ rfl rfl rfl rfl rfl rfl (fun m hm => hW hm.lole ha) ?_
 refine .P ?_
 refine .nil (.seq (.seq (.block (.seq (.region (.P3 ?_))))))
 iterate 2 refine .O ?_
 refine .P2 ?_
 refine .nil (.seq (.cond_false rfl (.seq (.region (.P3 ?_)))))
 refine .nil (.seq (.cond_false rfl (.seq (.region (.P3 ?_)))))
 refine .nil (.seq (.cond_false rfl (.seq (.region (.P3 ?_)))))
 refine .nil (.seq (.cond rfl (fun hc0 => ?_) fun hc0 => ?_))
 ·(try simp only [decide_eq_true_eq, decide_eq_false_iff_not, nrm_lt, nrm_nlt, nrm_eq, nrm_neq, nrm_seq, nrm_sneq, nrm_sempty, nrm_snempty, nrm_ofNat, Bool.not_eq_true', Bool.not_eq_false'] at hc0)
  refine .seq (.region (.P ?_))
  refine .nil (.seq (.ret (.blk (.seq ?_))))
  exact .end_ rfl rfl (fun m hm => ⟨congrArg (Value.int .i64) (by first | rw [if_pos (by assumption)] | rw [if_neg (by assumption)]), hm.ext⟩)
 (try simp only [decide_eq_true_eq, decide_eq_false_iff_not, nrm_lt, nrm_nlt, nrm_eq, nrm_neq, nrm_seq, nrm_sneq, nrm_sempty, nrm_snempty, nrm_ofNat, Bool.not_eq_true', Bool.not_eq_false'] at hc0)
 refine .skip (.blk (.seq (.seq (.region (.P ?_)))))
 refine .nil (.seq (.ret ?_))
 exact .end_ rfl rfl (fun m hm => ⟨congrArg (Value.int .i64) (by first | rw [if_pos (by assumption)] | rw [if_neg (by assumption)]), hm.ext⟩)
theorem RUnary_real {a : Int} {m : AW} (hm : m.lo ≤ m.next) (ha : Fit .i64 a) : Fc prog 28 [.int .i64 4, .int .i64 16, .int .i64 a] m fun v m' => v = .int .i64 (negR (w4 a)) ∧ Ext m m' := by
 refine Fc.body (c := _) func28 rfl rfl rfl rfl hm ?_
 refine .seq (.region (.P ?_))
 refine .nil (.seq (.seq (.region (.P2 ?_))))
 refine .call _ rfl rfl rfl rfl rfl rfl (fun m hm => RWrap_real hm.lole (by first | exact ha | exact Fit.wr .i64 _)) ?_
 refine .P ?_
 refine .nil (.seq (.seq (.block (.seq (.region ?_)))))
 iterate 7 refine .P ?_
 refine .nil (.seq (.cond_true rfl (.seq (.region (.P2 ?_)))))
 refine .convInt rfl rfl rfl rfl underlying2 underlying34 rfl (.P ?_)
 refine .convInt rfl rfl rfl rfl underlying34 underlying2 rfl ?_
 refine .call _ rfl rfl rfl rfl rfl rfl (fun m hm => RWrap_real hm.lole (by first | exact ha | exact Fit.wr .i64 _)) ?_
 refine .P ?_
 refine .nil (.seq (.ret (.blk (.seq ?_))))
 exact .end_ rfl rfl (fun m hm => ⟨congrArg (Value.int .i64) (negR_ref), hm.ext⟩)
theorem RArith_real_0 {a b : Int} {m : AW} (hm : m.lo ≤ m.next) (hlay : LaidAt lays m) (ha : Fit .i64 a) (hb : Fit .i64 b) : Fc prog 26 [.int .i64 4, .int .i64 0, .int .i64 a, .int .i64 b] m fun v m' => v = .tuple ⟨[.int .i64 (realV .add (flb (w4 a)) (flb (w4 b))), .bool true]⟩ ∧ Ext m m' := by
 refine Fc.body (c := _) func26 rfl rfl rfl rfl hm ?_
 refine .seq (.region (.P2 ?_))
 refine .nil (.seq (.seq (.region (.P2 ?_))))
 refine .call _ rfl rfl rfl rfl rfl rfl (fun m hm => RWrap_real hm.lole ha) ?_
 refine .P ?_
 refine .nil (.seq (.seq (.seq (.region ?_))))
 iterate 6 refine .P ?_
 refine .nil (.seq (.cond_false rfl (.skip (.seq (.seq (.region (.P2 ?_)))))))
 refine .call _ rfl rfl rfl rfl rfl rfl (fun m hm => RWrap_real hm.lole hb) ?_
 refine .P ?_
 refine .nil (.seq (.seq (.seq (.region (.P2 ?_)))))
 refine .nil (.seq (.cond_true rfl (.seq (.region (.P2 ?_)))))
 refine .call _ rfl rfl rfl rfl rfl rfl (fun m hm => value_ok hm.lole) ?_
 refine .P ?_
 refine .call _ rfl rfl rfl rfl rfl rfl (fun m hm => value_ok hm.lole) ?_
 refine .call _ rfl rfl rfl rfl rfl rfl (fun m hm => rreals_0 (hlay.kr hm)) ?_
 refine .P2 ?_
 refine .nil (.seq (.ret (.seq ?_)))
 exact .end_ rfl rfl (fun m hm => ⟨rfl, hm.ext⟩)
theorem RArith_real_1 {a b : Int} {m : AW} (hm : m.lo ≤ m.next) (hlay : LaidAt lays m) (ha : Fit .i64 a) (hb : Fit .i64 b) : Fc prog 26 [.int .i64 4, .int .i64 1, .int .i64 a, .int .i64 b] m fun v m' => v = .tuple ⟨[.int .i64 (realV .sub (flb (w4 a)) (flb (w4 b))), .bool true]⟩ ∧ Ext m m' := by
 refine Fc.body (c := _) func26 rfl rfl rfl rfl hm ?_
 refine .seq (.region (.P2 ?_))
 refine .nil (.seq (.seq (.region (.P2 ?_))))
 refine .call _ rfl rfl rfl rfl rfl rfl (fun m hm => RWrap_real hm.lole ha) ?_
 refine .P ?_
 refine .nil (.seq (.seq (.seq (.region ?_))))
 iterate 6 refine .P ?_
 refine .nil (.seq (.cond_false rfl (.skip (.seq (.seq (.region (.P2 ?_)))))))
 refine .call _ rfl rfl rfl rfl rfl rfl (fun m hm => RWrap_real hm.lole hb) ?_
 refine .P ?_
 refine .nil (.seq (.seq (.seq (.region (.P2 ?_)))))
 refine .nil (.seq (.cond_true rfl (.seq (.region (.P2 ?_)))))
 refine .call _ rfl rfl rfl rfl rfl rfl (fun m hm => value_ok hm.lole) ?_
 refine .P ?_
 refine .call _ rfl rfl rfl rfl rfl rfl (fun m hm => value_ok hm.lole) ?_
 refine .call _ rfl rfl rfl rfl rfl rfl (fun m hm => rreals_1 (hlay.kr hm)) ?_
 refine .P2 ?_
 refine .nil (.seq (.ret (.seq ?_)))
 exact .end_ rfl rfl (fun m hm => ⟨rfl, hm.ext⟩)
theorem RArith_real_2 {a b : Int} {m : AW} (hm : m.lo ≤ m.next) (hlay : LaidAt lays m) (ha : Fit .i64 a) (hb : Fit .i64 b) : Fc prog 26 [.int .i64 4, .int .i64 2, .int .i64 a, .int .i64 b] m fun v m' => v = .tuple ⟨[.int .i64 (realV .mul (flb (w4 a)) (flb (w4 b))), .bool true]⟩ ∧ Ext m m' := by
 refine Fc.body (c := _) func26 rfl rfl rfl rfl hm ?_
 refine .seq (.region (.P2 ?_))
 refine .nil (.seq (.seq (.region (.P2 ?_))))
 refine .call _ rfl rfl rfl rfl rfl rfl (fun m hm => RWrap_real hm.lole ha) ?_
 refine .P ?_
 refine .nil (.seq (.seq (.seq (.region ?_))))
 iterate 6 refine .P ?_
 refine .nil (.seq (.cond_false rfl (.skip (.seq (.seq (.region (.P2 ?_)))))))
 refine .call _ rfl rfl rfl rfl rfl rfl (fun m hm => RWrap_real hm.lole hb) ?_
 refine .P ?_
 refine .nil (.seq (.seq (.seq (.region (.P2 ?_)))))
 refine .nil (.seq (.cond_true rfl (.seq (.region (.P2 ?_)))))
 refine .call _ rfl rfl rfl rfl rfl rfl (fun m hm => value_ok hm.lole) ?_
 refine .P ?_
 refine .call _ rfl rfl rfl rfl rfl rfl (fun m hm => value_ok hm.lole) ?_
 refine .call _ rfl rfl rfl rfl rfl rfl (fun m hm => rreals_2 (hlay.kr hm)) ?_
 refine .P2 ?_
 refine .nil (.seq (.ret (.seq ?_)))
 exact .end_ rfl rfl (fun m hm => ⟨rfl, hm.ext⟩)
theorem RArith_real_3 {a b : Int} {m : AW} (hm : m.lo ≤ m.next) (hlay : LaidAt lays m) (ha : Fit .i64 a) (hb : Fit .i64 b) : Fc prog 26 [.int .i64 4, .int .i64 3, .int .i64 a, .int .i64 b] m fun v m' => v = .tuple ⟨[.int .i64 (realV .quo (flb (w4 a)) (flb (w4 b))), .bool true]⟩ ∧ Ext m m' := by
 refine Fc.body (c := _) func26 rfl rfl rfl rfl hm ?_
 refine .seq (.region (.P2 ?_))
 refine .nil (.seq (.seq (.region (.P2 ?_))))
 refine .call _ rfl rfl rfl rfl rfl rfl (fun m hm => RWrap_real hm.lole ha) ?_
 refine .P ?_
 refine .nil (.seq (.seq (.seq (.region ?_))))
 iterate 6 refine .P ?_
 refine .nil (.seq (.cond_false rfl (.skip (.seq (.seq (.region (.P2 ?_)))))))
 refine .call _ rfl rfl rfl rfl rfl rfl (fun m hm => RWrap_real hm.lole hb) ?_
 refine .P ?_
 refine .nil (.seq (.seq (.seq (.region (.P2 ?_)))))
 refine .nil (.seq (.cond_true rfl (.seq (.region (.P2 ?_)))))
 refine .call _ rfl rfl rfl rfl rfl rfl (fun m hm => value_ok hm.lole) ?_
 refine .P ?_
 refine .call _ rfl rfl rfl rfl rfl rfl (fun m hm => value_ok hm.lole) ?_
 refine .call _ rfl rfl rfl rfl rfl rfl (fun m hm => rreals_3 (hlay.kr hm)) ?_
 refine .P2 ?_
 refine .nil (.seq (.ret (.seq ?_)))
 exact .end_ rfl rfl (fun m hm => ⟨rfl, hm.ext⟩)
theorem reckons_law {kind op a b n e q f y z : Int} {is_ : Bool} {m : AW} (hm : m.lo ≤ m.next) (hlay : LaidAt lays m) (hA : ∀ {m : AW}, m.lo ≤ m.next → LaidAt lays m → Fc prog 19 [.int .i64 kind, .int .i64 op, .int .i64 a, .int .i64 b] m fun v m' => v = .tuple ⟨[.int .i64 n, .int .i64 e]⟩ ∧ Ext m m') (hU : ∀ {m : AW}, m.lo ≤ m.next → Fc prog 24 [.int .i64 kind, .int .i64 op, .int .i64 a] m fun v m' => v = .tuple ⟨[.int .i64 q, .int .i64 f]⟩ ∧ Ext m m') (hKd : ∀ {m : AW}, m.lo ≤ m.next → Fc prog 14 [.int .i64 kind] m fun v m' => v = .bool true ∧ Ext m m') (hR : (0 ≤ op ∧ op ≤ 3 ∨ kind ≠ 4 ∧ 4 ≤ op ∧ op ≤ 9) → ∀ {m : AW}, m.lo ≤ m.next → LaidAt lays m → Fc prog 26 [.int .i64 kind, .int .i64 op, .int .i64 a, .int .i64 b] m fun v m' => v = .tuple ⟨[.int .i64 y, .bool is_]⟩ ∧ Ext m m') (hRU : (op = 16 ∨ op = 17 ∧ kind ≠ 4 ∨ op = 18 ∧ kind = 2) → ∀ {m : AW}, m.lo ≤ m.next → Fc prog 28 [.int .i64 kind, .int .i64 op, .int .i64 a] m fun v m' => v = .int .i64 z ∧ Ext m m') (e1 : e = if 0 ≤ op ∧ op ≤ 3 ∨ kind ≠ 4 ∧ 4 ≤ op ∧ op ≤ 9 then (if is_ = true then 0 else 11) else 2) (e2 : f = if op = 16 ∨ op = 17 ∧ kind ≠ 4 ∨ op = 18 ∧ kind = 2 then 0 else 2) (e3 : n = if (0 ≤ op ∧ op ≤ 3 ∨ kind ≠ 4 ∧ 4 ≤ op ∧ op ≤ 9) ∧ is_ = true then y else 0) (e4 : q = if op = 16 ∨ op = 17 ∧ kind ≠ 4 ∨ op = 18 ∧ kind = 2 then z else 0) : Fc prog 8 [.agg ⟨[.int .i64 kind, .int .i64 op, .int .i64 a, .int .i64 b]⟩] m fun v m' => v = .bool true ∧ Ext m m' := by
 refine Fc.body (c := _) func8 rfl rfl rfl rfl hm ?_
 refine .seq (.region ?_)
 refine .box rfl rfl rfl rfl rfl (fun b1 hb1 => ?_)
 refine .P ?_
 refine .nil (.seq (.seq (.region (.F fa43_0 ?_))))
 refine .L ag3 ?_
 refine .F fa43_1 ?_
 refine .L ag3 ?_
 refine .F fa43_2 ?_
 refine .L ag2 ?_
 refine .F fa43_3 ?_
 refine .L ag2 ?_
 refine .call _ rfl rfl rfl rfl rfl rfl (fun m hm => hA hm.lole (hlay.kr hm)) ?_
 iterate 5 refine .P ?_
 refine .nil (.seq (.seq (.region (.F fa43_0 ?_))))
 refine .L ag3 ?_
 refine .F fa43_1 ?_
 refine .L ag3 ?_
 refine .F fa43_2 ?_
 refine .L ag2 ?_
 refine .call _ rfl rfl rfl rfl rfl rfl (fun m hm => hU hm.lole) ?_
 iterate 5 refine .P ?_
 refine .nil (.seq (.seq (.seq (.region (.F fa43_0 ?_)))))
 refine .L ag3 ?_
 refine .call _ rfl rfl rfl rfl rfl rfl (fun m hm => hKd hm.lole) ?_
 refine .P ?_
 refine .nil (.seq (.cond_false rfl (.skip (.seq (.seq (.region (.P2 ?_)))))))
 refine .nil (.seq (.seq (.region (.P2 ?_))))
 refine .nil (.seq ?_)
 refine .joinA (True) [(7, .int .i64 e), (9, .int .i64 n)] ?_ (fun _ => ?_)
 ·refine .seq (.region (.F fa43_0 ?_))
  refine .L ag3 ?_
  refine .F fa43_1 ?_
  refine .L ag3 ?_
  refine .call _ rfl rfl rfl rfl rfl rfl (fun m hm => RFits hm.lole) ?_
  refine .P ?_
  refine .nil (.seq (.cond rfl (fun hc0 => ?_) fun hc0 => ?_))
  ·(try simp only [decide_eq_true_eq, decide_eq_false_iff_not, nrm_lt, nrm_nlt, nrm_eq, nrm_neq, nrm_seq, nrm_sneq, nrm_sempty, nrm_snempty, nrm_ofNat, Bool.not_eq_true', Bool.not_eq_false'] at hc0)
   refine .region (.P ?_)
   refine .nil ?_
   refine .as 7 (.int .i64 e) rfl (congrArg (Value.int .i64) (by rw [e1]; simp [*])) ?_
   refine .as 9 (.int .i64 n) rfl (congrArg (Value.int .i64) (by rw [e3]; simp [*])) ?_
   exact .J (trivial)
  (try simp only [decide_eq_true_eq, decide_eq_false_iff_not, nrm_lt, nrm_nlt, nrm_eq, nrm_neq, nrm_seq, nrm_sneq, nrm_sempty, nrm_snempty, nrm_ofNat, Bool.not_eq_true', Bool.not_eq_false'] at hc0)
  refine .seq (.region (.F fa43_0 ?_))
  refine .L ag3 ?_
  refine .F fa43_1 ?_
  refine .L ag3 ?_
  refine .F fa43_2 ?_
  refine .L ag2 ?_
  refine .F fa43_3 ?_
  refine .L ag2 ?_
  refine .call _ rfl rfl rfl rfl rfl rfl (fun m hm => hR (by assumption) hm.lole (hlay.kr hm)) ?_
  iterate 5 refine .P ?_
  refine .nil (.seq (.seq (.region (.P ?_))))
  refine .nil (.seq (.cond rfl (fun hc1 => ?_) fun hc1 => ?_))
  ·(try simp only [decide_eq_true_eq, decide_eq_false_iff_not, nrm_lt, nrm_nlt, nrm_eq, nrm_neq, nrm_seq, nrm_sneq, nrm_sempty, nrm_snempty, nrm_ofNat, Bool.not_eq_true', Bool.not_eq_false'] at hc1)
   refine .region (.P2 ?_)
   refine .nil ?_
   refine .as 7 (.int .i64 e) rfl (congrArg (Value.int .i64) (by rw [e1]; simp [*])) ?_
   refine .as 9 (.int .i64 n) rfl (congrArg (Value.int .i64) (by rw [e3]; simp [*])) ?_
   exact .J (trivial)
  (try simp only [decide_eq_true_eq, decide_eq_false_iff_not, nrm_lt, nrm_nlt, nrm_eq, nrm_neq, nrm_seq, nrm_sneq, nrm_sempty, nrm_snempty, nrm_ofNat, Bool.not_eq_true', Bool.not_eq_false'] at hc1)
  refine .region (.P ?_)
  refine .nil ?_
  refine .as 7 (.int .i64 e) rfl (congrArg (Value.int .i64) (by rw [e1]; simp [*])) ?_
  refine .as 9 (.int .i64 n) rfl (congrArg (Value.int .i64) (by rw [e3]; simp [*])) ?_
  exact .J (trivial)
 refine .joinA (True) [(8, .int .i64 f), (10, .int .i64 q)] ?_ (fun _ => ?_)
 ·refine .seq (.region (.F fa43_0 ?_))
  refine .L ag3 ?_
  refine .F fa43_1 ?_
  refine .L ag3 ?_
  refine .call _ rfl rfl rfl rfl rfl rfl (fun m hm => RFitsUnary hm.lole) ?_
  refine .P ?_
  refine .nil (.seq (.cond rfl (fun hc2 => ?_) fun hc2 => ?_))
  ·(try simp only [decide_eq_true_eq, decide_eq_false_iff_not, nrm_lt, nrm_nlt, nrm_eq, nrm_neq, nrm_seq, nrm_sneq, nrm_sempty, nrm_snempty, nrm_ofNat, Bool.not_eq_true', Bool.not_eq_false'] at hc2)
   refine .region (.P ?_)
   refine .nil ?_
   refine .as 8 (.int .i64 f) rfl (congrArg (Value.int .i64) (by rw [e2]; simp [*])) ?_
   refine .as 10 (.int .i64 q) rfl (congrArg (Value.int .i64) (by rw [e4]; simp [*])) ?_
   exact .J (trivial)
  (try simp only [decide_eq_true_eq, decide_eq_false_iff_not, nrm_lt, nrm_nlt, nrm_eq, nrm_neq, nrm_seq, nrm_sneq, nrm_sempty, nrm_snempty, nrm_ofNat, Bool.not_eq_true', Bool.not_eq_false'] at hc2)
  refine .region (.F fa43_0 ?_)
  refine .L ag3 ?_
  refine .F fa43_1 ?_
  refine .L ag3 ?_
  refine .F fa43_2 ?_
  refine .L ag2 ?_
  refine .call _ rfl rfl rfl rfl rfl rfl (fun m hm => hRU (by assumption) hm.lole) ?_
  refine .P ?_
  refine .nil ?_
  refine .as 8 (.int .i64 f) rfl (congrArg (Value.int .i64) (by rw [e2]; simp [*])) ?_
  refine .as 10 (.int .i64 q) rfl (congrArg (Value.int .i64) (by rw [e4]; simp [*])) ?_
  exact .J (trivial)
 refine .seq (.region ?_)
 refine .call _ rfl rfl rfl rfl rfl rfl (fun m hm => awake_ok (hlay.kr hm)) ?_
 refine .P3 ?_
 refine .bin (v := .bool true) rfl rfl rfl rfl rfl rfl (binS_eql rfl) ?_
 iterate 4 refine .P ?_
 refine .bin (v := .bool true) rfl rfl rfl rfl rfl rfl (binS_eql rfl) ?_
 iterate 4 refine .P ?_
 refine .bin (v := .bool true) rfl rfl rfl rfl rfl rfl (binS_eql rfl) ?_
 iterate 4 refine .P ?_
 refine .bin (v := .bool true) rfl rfl rfl rfl rfl rfl (binS_eql rfl) ?_
 refine .P2 ?_
 refine .nil (.seq (.ret ?_))
 exact .end_ rfl rfl (fun m hm => ⟨rfl, hm.ext⟩)
theorem reckons_none {kind op a b : Int} {m : AW} (hm : m.lo ≤ m.next) (hlay : LaidAt lays m) (h1 : kind ≠ 1) (h2 : kind ≠ 2) (h3 : kind ≠ 3) (h4 : kind ≠ 4) : Fc prog 8 [.agg ⟨[.int .i64 kind, .int .i64 op, .int .i64 a, .int .i64 b]⟩] m fun v m' => v = .bool true ∧ Ext m m' := by
 refine Fc.body (c := _) func8 rfl rfl rfl rfl hm ?_
 refine .seq (.region ?_)
 refine .box rfl rfl rfl rfl rfl (fun b1 hb1 => ?_)
 refine .P ?_
 refine .nil (.seq (.seq (.region (.F fa43_0 ?_))))
 refine .L ag3 ?_
 refine .F fa43_1 ?_
 refine .L ag3 ?_
 refine .F fa43_2 ?_
 refine .L ag2 ?_
 refine .F fa43_3 ?_
 refine .L ag2 ?_
 refine .call _ rfl rfl rfl rfl rfl rfl (fun m hm => Arith_none hm.lole h1 h2 h3 h4) ?_
 iterate 5 refine .P ?_
 refine .nil (.seq (.seq (.region (.F fa43_0 ?_))))
 refine .L ag3 ?_
 refine .F fa43_1 ?_
 refine .L ag3 ?_
 refine .F fa43_2 ?_
 refine .L ag2 ?_
 refine .call _ rfl rfl rfl rfl rfl rfl (fun m hm => Unary_none hm.lole h1 h2 h3 h4) ?_
 iterate 5 refine .P ?_
 refine .nil (.seq (.seq (.seq (.region (.F fa43_0 ?_)))))
 refine .L ag3 ?_
 refine .call _ rfl rfl rfl rfl rfl rfl (fun m hm => Kind_none hm.lole h1 h2 h3 h4) ?_
 refine .P ?_
 refine .nil (.seq (.cond_true rfl (.seq (.region ?_))))
 refine .call _ rfl rfl rfl rfl rfl rfl (fun m hm => awake_ok (hlay.kr hm)) ?_
 iterate 17 refine .P ?_
 refine .nil (.seq (.ret (.seq ?_)))
 exact .end_ rfl rfl (fun m hm => ⟨rfl, hm.ext⟩)
end Go.Proofs.YtmcjihhfgmfcpaaGreatDoor
