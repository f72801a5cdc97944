/-
  NumberConverts: the functions that it calls, followed, 0. Conditions: none.
-/
import Derived.Test.YtmcjihhfgmfcpaaGreatDoorAwk
import Derived.Test.YtmcjihhfgmfcpaaGreatDoorPla
namespace Go.Proofs.YtmcjihhfgmfcpaaGreatDoor
open Go Go.Ab
set_option linter.unusedVariables false
set_option linter.unusedSimpArgs false
set_option linter.unusedSectionVars false
open Go.Proofs.Tryz
theorem so {α : Type} {l : List α} {i : Nat} {P Q : Prop} (h : l = [] ∧ P ∨ Q) (k : i < l.length) : Q := h.elim (fun h => by rw [h.1] at k; simp at k) id
abbrev FA (t i k : Nat) : Prop := ∀ b off, fieldAddrA Tryz.prog t (.pointer (some ⟨b, off, none⟩)) i = some (.pointer (some ⟨b, off + k, none⟩))
theorem ag54 : aggT prog 54 = some false := by kernel_rfl
theorem ag59 : aggT prog 59 = some true := by kernel_rfl
theorem fa59_0 : FA 59 0 0 := fun _ _ => by kernel_rfl
theorem sz59 : sizeT prog 59 = some 16 := by kernel_rfl
theorem zr59 : zeroT prog 59 = some (.agg ⟨[.nilFunc, .nilFunc, .nilFunc, .nilFunc, .nilFunc, .nilFunc, .nilFunc, .nilFunc, .nilFunc, .nilFunc, .nilFunc, .nilFunc, .nilFunc, .nilFunc, .nilFunc, .int .i64 0]⟩) := by kernel_rfl
theorem cl_u8_1 {n : Int} {m : AW} (hm : m.lo ≤ m.next) (h : Fit .i64 n) : Fc prog 82 [.int .i64 n] m fun v m' => v = .int .i64 (wr .u8 n) ∧ Ext m m' := by
 refine Fc.body (c := _) func82 rfl rfl rfl rfl hm ?_
 refine .seq (.region (.P ?_))
 refine .nil (.seq (.seq (.region (.P ?_))))
 refine .convInt rfl rfl rfl rfl underlying2 underlying5 rfl (.convInt rfl rfl rfl rfl underlying5 underlying2 rfl (.P ?_))
 refine .nil (.seq (.ret ?_))
 exact .end_ rfl rfl (fun m hm => ⟨congrArg (Value.int .i64) (wr64 _ _ (by decide) (by decide)), hm.ext⟩)
theorem cl_i32_1 {n : Int} {m : AW} (hm : m.lo ≤ m.next) (h : Fit .i64 n) : Fc prog 97 [.int .i64 n] m fun v m' => v = .int .i64 (wr .i32 n) ∧ Ext m m' := by
 refine Fc.body (c := _) func97 rfl rfl rfl rfl hm ?_
 refine .seq (.region (.P ?_))
 refine .nil (.seq (.seq (.region (.P ?_))))
 refine .convInt rfl rfl rfl rfl underlying2 underlying21 rfl (.convInt rfl rfl rfl rfl underlying21 underlying2 rfl (.P ?_))
 refine .nil (.seq (.ret ?_))
 exact .end_ rfl rfl (fun m hm => ⟨congrArg (Value.int .i64) (wr64 _ _ (by decide) (by decide)), hm.ext⟩)
theorem cl_i64_1 {n : Int} {m : AW} (hm : m.lo ≤ m.next) (h : Fit .i64 n) : Fc prog 112 [.int .i64 n] m fun v m' => v = .int .i64 (wr .i64 n) ∧ Ext m m' := by
 refine Fc.body (c := _) func112 rfl rfl rfl rfl hm ?_
 refine .seq (.region (.P ?_))
 refine .nil (.seq (.seq (.region (.P2 ?_))))
 refine .nil (.seq (.ret ?_))
 exact .end_ rfl rfl (fun m hm => ⟨congrArg (Value.int .i64) (h.symm), hm.ext⟩)
def tabR : List Value := [.func (.func 127) ⟨[]⟩ ⟨[]⟩, .func (.func 128) ⟨[]⟩ ⟨[]⟩, .func (.func 129) ⟨[]⟩ ⟨[]⟩, .func (.func 130) ⟨[]⟩ ⟨[]⟩, .func (.func 131) ⟨[]⟩ ⟨[]⟩, .nilFunc, .nilFunc, .nilFunc, .nilFunc, .nilFunc, .nilFunc, .func (.func 132) ⟨[]⟩ ⟨[]⟩, .nilFunc, .func (.func 133) ⟨[]⟩ ⟨[]⟩, .func (.func 134) ⟨[]⟩ ⟨[]⟩, .int .i64 4607182418800017408]
def tab_u8 (b : Nat) : List Value := [.func (.func 82) ⟨[]⟩ ⟨[]⟩, .func (.func 83) ⟨[]⟩ ⟨[]⟩, .func (.func 84) ⟨[]⟩ ⟨[]⟩, .func (.func 85) ⟨[]⟩ ⟨[]⟩, .func (.func 86) ⟨[]⟩ ⟨[]⟩, .func (.func 87) ⟨[]⟩ ⟨[]⟩, .func (.func 88) ⟨[]⟩ ⟨[]⟩, .func (.func 89) ⟨[]⟩ ⟨[]⟩, .func (.func 90) ⟨[]⟩ ⟨[]⟩, .func (.func 91) ⟨[]⟩ ⟨[.pointer (some ⟨b, 0, none⟩)]⟩, .func (.func 92) ⟨[]⟩ ⟨[.pointer (some ⟨b, 0, none⟩)]⟩, .func (.func 93) ⟨[]⟩ ⟨[]⟩, .func (.func 94) ⟨[]⟩ ⟨[]⟩, .func (.func 95) ⟨[]⟩ ⟨[]⟩, .func (.func 96) ⟨[]⟩ ⟨[]⟩, .int .i64 1]
theorem ints_u8 {m : AW} (hm : m.lo ≤ m.next) : Fc prog 59 [.int .i64 8] m fun v m' => ∃ b, True ∧ v = .agg ⟨tab_u8 b⟩ ∧ Ext m m' ∧ News m m' [(b, .cells [.int .i64 8] 2 false .plain none)] := by
 refine Fc.body (c := _) func59 rfl rfl rfl rfl hm ?_
 refine .seq (.region ?_)
 refine .box rfl rfl rfl rfl rfl (fun b1 hb1 => ?_)
 refine .alloc rfl rfl rfl rfl zr59 (fun b2 hb2 => ?_)
 refine .nil (.seq (.seq (.region ?_)))
 refine .p (v := .agg ⟨[.func (.func 83) ⟨[]⟩ ⟨[]⟩, .func (.func 84) ⟨[]⟩ ⟨[]⟩, .func (.func 85) ⟨[]⟩ ⟨[]⟩, .func (.func 86) ⟨[]⟩ ⟨[]⟩, .func (.func 87) ⟨[]⟩ ⟨[]⟩, .func (.func 88) ⟨[]⟩ ⟨[]⟩, .func (.func 89) ⟨[]⟩ ⟨[]⟩, .func (.func 90) ⟨[]⟩ ⟨[]⟩]⟩) rfl rfl rfl (by kernel_rfl) ?_
 refine .P2 ?_
 refine .p (v := .agg ⟨tab_u8 b1⟩) rfl rfl rfl (by kernel_rfl) ?_
 refine .S sz59 ?_
 refine .nil (.seq (.ret ?_))
 refine .endH rfl (.agg rfl ag59 sz59 (by repeat first | exact .head | exact .app .head | exact .base ‹_› ‹_› (by simp) | refine .tail ?_ | refine .app ?_) (Nat.le_of_ble_eq_true rfl) rfl .nil) ?_
 exact fun m hm => ⟨b1, trivial, rfl, hm.ext, hm.news (.cons _ (.refl _))⟩
theorem of_u8 {m : AW} (hm : m.lo ≤ m.next) : Fc prog 34 [.int .i64 1] m fun v m' => ∃ b, True ∧ v = .tuple ⟨[.agg ⟨tab_u8 b⟩, .int .i64 0]⟩ ∧ Ext m m' ∧ News m m' [(b, .cells [.int .i64 8] 2 false .plain none)] := by
 refine Fc.body (c := _) func34 rfl rfl rfl rfl hm ?_
 refine .seq (.region ?_)
 refine .alloc rfl rfl rfl rfl zr59 (fun b2 hb2 => ?_)
 refine .P ?_
 refine .nil (.seq (.seq (.seq (.region (.P ?_)))))
 refine .nil (.seq (.block (.seq (.region (.P2 ?_)))))
 refine .nil (.seq (.cond_true rfl (.seq (.region ?_))))
 refine .calln _ _ _ rfl rfl rfl rfl rfl rfl (fun m hm => ints_u8 hm.lole) (fun x hx => ?_)
 clear hx
 refine .S sz59 ?_
 refine .P ?_
 refine .nil (.seq (.ret (.blk (.seq ?_))))
 refine .endH rfl (.agg rfl ag59 sz59 (by repeat first | exact .head | exact .app .head | exact .base ‹_› ‹_› (by simp) | refine .tail ?_ | refine .app ?_) (Nat.le_of_ble_eq_true rfl) rfl (.tmp rfl .nil)) ?_
 exact fun m hm => ⟨x, trivial, rfl, hm.ext, hm.news (by first | exact .cons_cons _ (List.nil_sublist _) | exact .cons _ (.cons_cons _ (List.nil_sublist _)))⟩
def tab_i32 (b : Nat) : List Value := [.func (.func 97) ⟨[]⟩ ⟨[]⟩, .func (.func 98) ⟨[]⟩ ⟨[]⟩, .func (.func 99) ⟨[]⟩ ⟨[]⟩, .func (.func 100) ⟨[]⟩ ⟨[]⟩, .func (.func 101) ⟨[]⟩ ⟨[]⟩, .func (.func 102) ⟨[]⟩ ⟨[]⟩, .func (.func 103) ⟨[]⟩ ⟨[]⟩, .func (.func 104) ⟨[]⟩ ⟨[]⟩, .func (.func 105) ⟨[]⟩ ⟨[]⟩, .func (.func 106) ⟨[]⟩ ⟨[.pointer (some ⟨b, 0, none⟩)]⟩, .func (.func 107) ⟨[]⟩ ⟨[.pointer (some ⟨b, 0, none⟩)]⟩, .func (.func 108) ⟨[]⟩ ⟨[]⟩, .func (.func 109) ⟨[]⟩ ⟨[]⟩, .func (.func 110) ⟨[]⟩ ⟨[]⟩, .func (.func 111) ⟨[]⟩ ⟨[]⟩, .int .i64 1]
theorem ints_i32 {m : AW} (hm : m.lo ≤ m.next) : Fc prog 60 [.int .i64 32] m fun v m' => ∃ b, True ∧ v = .agg ⟨tab_i32 b⟩ ∧ Ext m m' ∧ News m m' [(b, .cells [.int .i64 32] 2 false .plain none)] := by
 refine Fc.body (c := _) func60 rfl rfl rfl rfl hm ?_
 refine .seq (.region ?_)
 refine .box rfl rfl rfl rfl rfl (fun b1 hb1 => ?_)
 refine .alloc rfl rfl rfl rfl zr59 (fun b2 hb2 => ?_)
 refine .nil (.seq (.seq (.region ?_)))
 refine .p (v := .agg ⟨[.func (.func 98) ⟨[]⟩ ⟨[]⟩, .func (.func 99) ⟨[]⟩ ⟨[]⟩, .func (.func 100) ⟨[]⟩ ⟨[]⟩, .func (.func 101) ⟨[]⟩ ⟨[]⟩, .func (.func 102) ⟨[]⟩ ⟨[]⟩, .func (.func 103) ⟨[]⟩ ⟨[]⟩, .func (.func 104) ⟨[]⟩ ⟨[]⟩, .func (.func 105) ⟨[]⟩ ⟨[]⟩]⟩) rfl rfl rfl (by kernel_rfl) ?_
 refine .P2 ?_
 refine .p (v := .agg ⟨tab_i32 b1⟩) rfl rfl rfl (by kernel_rfl) ?_
 refine .S sz59 ?_
 refine .nil (.seq (.ret ?_))
 refine .endH rfl (.agg rfl ag59 sz59 (by repeat first | exact .head | exact .app .head | exact .base ‹_› ‹_› (by simp) | refine .tail ?_ | refine .app ?_) (Nat.le_of_ble_eq_true rfl) rfl .nil) ?_
 exact fun m hm => ⟨b1, trivial, rfl, hm.ext, hm.news (.cons _ (.refl _))⟩
theorem of_i32 {m : AW} (hm : m.lo ≤ m.next) : Fc prog 34 [.int .i64 2] m fun v m' => ∃ b, True ∧ v = .tuple ⟨[.agg ⟨tab_i32 b⟩, .int .i64 0]⟩ ∧ Ext m m' ∧ News m m' [(b, .cells [.int .i64 32] 2 false .plain none)] := by
 refine Fc.body (c := _) func34 rfl rfl rfl rfl hm ?_
 refine .seq (.region ?_)
 refine .alloc rfl rfl rfl rfl zr59 (fun b2 hb2 => ?_)
 refine .P ?_
 refine .nil (.seq (.seq (.seq (.region (.P ?_)))))
 refine .nil (.seq (.block (.seq (.region (.P2 ?_)))))
 refine .nil (.seq (.cond_false rfl (.seq (.region (.P2 ?_)))))
 refine .nil (.seq (.cond_true rfl (.seq (.region ?_))))
 refine .calln _ _ _ rfl rfl rfl rfl rfl rfl (fun m hm => ints_i32 hm.lole) (fun x hx => ?_)
 clear hx
 refine .S sz59 ?_
 refine .P ?_
 refine .nil (.seq (.ret (.blk (.seq ?_))))
 refine .endH rfl (.agg rfl ag59 sz59 (by repeat first | exact .head | exact .app .head | exact .base ‹_› ‹_› (by simp) | refine .tail ?_ | refine .app ?_) (Nat.le_of_ble_eq_true rfl) rfl (.tmp rfl .nil)) ?_
 exact fun m hm => ⟨x, trivial, rfl, hm.ext, hm.news (by first | exact .cons_cons _ (List.nil_sublist _) | exact .cons _ (.cons_cons _ (List.nil_sublist _)))⟩
def tab_i64 (b : Nat) : List Value := [.func (.func 112) ⟨[]⟩ ⟨[]⟩, .func (.func 113) ⟨[]⟩ ⟨[]⟩, .func (.func 114) ⟨[]⟩ ⟨[]⟩, .func (.func 115) ⟨[]⟩ ⟨[]⟩, .func (.func 116) ⟨[]⟩ ⟨[]⟩, .func (.func 117) ⟨[]⟩ ⟨[]⟩, .func (.func 118) ⟨[]⟩ ⟨[]⟩, .func (.func 119) ⟨[]⟩ ⟨[]⟩, .func (.func 120) ⟨[]⟩ ⟨[]⟩, .func (.func 121) ⟨[]⟩ ⟨[.pointer (some ⟨b, 0, none⟩)]⟩, .func (.func 122) ⟨[]⟩ ⟨[.pointer (some ⟨b, 0, none⟩)]⟩, .func (.func 123) ⟨[]⟩ ⟨[]⟩, .func (.func 124) ⟨[]⟩ ⟨[]⟩, .func (.func 125) ⟨[]⟩ ⟨[]⟩, .func (.func 126) ⟨[]⟩ ⟨[]⟩, .int .i64 1]
theorem ints_i64 {m : AW} (hm : m.lo ≤ m.next) : Fc prog 61 [.int .i64 64] m fun v m' => ∃ b, True ∧ v = .agg ⟨tab_i64 b⟩ ∧ Ext m m' ∧ News m m' [(b, .cells [.int .i64 64] 2 false .plain none)] := by
 refine Fc.body (c := _) func61 rfl rfl rfl rfl hm ?_
 refine .seq (.region ?_)
 refine .box rfl rfl rfl rfl rfl (fun b1 hb1 => ?_)
 refine .alloc rfl rfl rfl rfl zr59 (fun b2 hb2 => ?_)
 refine .nil (.seq (.seq (.region ?_)))
 refine .p (v := .agg ⟨[.func (.func 113) ⟨[]⟩ ⟨[]⟩, .func (.func 114) ⟨[]⟩ ⟨[]⟩, .func (.func 115) ⟨[]⟩ ⟨[]⟩, .func (.func 116) ⟨[]⟩ ⟨[]⟩, .func (.func 117) ⟨[]⟩ ⟨[]⟩, .func (.func 118) ⟨[]⟩ ⟨[]⟩, .func (.func 119) ⟨[]⟩ ⟨[]⟩, .func (.func 120) ⟨[]⟩ ⟨[]⟩]⟩) rfl rfl rfl (by kernel_rfl) ?_
 refine .P2 ?_
 refine .p (v := .agg ⟨tab_i64 b1⟩) rfl rfl rfl (by kernel_rfl) ?_
 refine .S sz59 ?_
 refine .nil (.seq (.ret ?_))
 refine .endH rfl (.agg rfl ag59 sz59 (by repeat first | exact .head | exact .app .head | exact .base ‹_› ‹_› (by simp) | refine .tail ?_ | refine .app ?_) (Nat.le_of_ble_eq_true rfl) rfl .nil) ?_
 exact fun m hm => ⟨b1, trivial, rfl, hm.ext, hm.news (.cons _ (.refl _))⟩
theorem of_i64 {m : AW} (hm : m.lo ≤ m.next) : Fc prog 34 [.int .i64 3] m fun v m' => ∃ b, True ∧ v = .tuple ⟨[.agg ⟨tab_i64 b⟩, .int .i64 0]⟩ ∧ Ext m m' ∧ News m m' [(b, .cells [.int .i64 64] 2 false .plain none)] := by
 refine Fc.body (c := _) func34 rfl rfl rfl rfl hm ?_
 refine .seq (.region ?_)
 refine .alloc rfl rfl rfl rfl zr59 (fun b2 hb2 => ?_)
 refine .P ?_
 refine .nil (.seq (.seq (.seq (.region (.P ?_)))))
 refine .nil (.seq (.block (.seq (.region (.P2 ?_)))))
 refine .nil (.seq (.cond_false rfl (.seq (.region (.P2 ?_)))))
 refine .nil (.seq (.cond_false rfl (.seq (.region (.P2 ?_)))))
 refine .nil (.seq (.cond_true rfl (.seq (.region ?_))))
 refine .calln _ _ _ rfl rfl rfl rfl rfl rfl (fun m hm => ints_i64 hm.lole) (fun x hx => ?_)
 clear hx
 refine .S sz59 ?_
 refine .P ?_
 refine .nil (.seq (.ret (.blk (.seq ?_))))
 refine .endH rfl (.agg rfl ag59 sz59 (by repeat first | exact .head | exact .app .head | exact .base ‹_› ‹_› (by simp) | refine .tail ?_ | refine .app ?_) (Nat.le_of_ble_eq_true rfl) rfl (.tmp rfl .nil)) ?_
 exact fun m hm => ⟨x, trivial, rfl, hm.ext, hm.news (by first | exact .cons_cons _ (List.nil_sublist _) | exact .cons _ (.cons_cons _ (List.nil_sublist _)))⟩
theorem reals_ok {m : AW} (hm : m.lo ≤ m.next) : Fc prog 62 [] m fun v m' => v = .agg ⟨tabR⟩ ∧ Ext m m' := by
 refine Fc.body (c := _) func62 rfl rfl rfl rfl hm ?_
 refine .seq (.region ?_)
 refine .alloc rfl rfl rfl rfl zr59 (fun b0 hb0 => ?_)
 refine .nil (.seq (.seq (.region ?_)))
 refine .p (v := .agg ⟨[.func (.func 128) ⟨[]⟩ ⟨[]⟩, .func (.func 129) ⟨[]⟩ ⟨[]⟩, .func (.func 130) ⟨[]⟩ ⟨[]⟩, .func (.func 131) ⟨[]⟩ ⟨[]⟩, .nilFunc, .nilFunc, .nilFunc, .nilFunc]⟩) rfl rfl rfl (by kernel_rfl) ?_
 refine .p (v := .agg ⟨tabR⟩) rfl rfl rfl (by kernel_rfl) ?_
 refine .S sz59 ?_
 refine .nil (.seq (.ret ?_))
 refine .endH rfl (.agg rfl ag59 sz59 (by repeat first | exact .head | exact .app .head | exact .base ‹_› ‹_› (by simp) | refine .tail ?_ | refine .app ?_) (Nat.le_of_ble_eq_true rfl) rfl .nil) ?_
 exact fun m hm => ⟨rfl, hm.ext⟩
theorem of_real {m : AW} (hm : m.lo ≤ m.next) : Fc prog 34 [.int .i64 4] m fun v m' => v = .tuple ⟨[.agg ⟨tabR⟩, .int .i64 0]⟩ ∧ Ext m m' := by
 refine Fc.body (c := _) func34 rfl rfl rfl rfl hm ?_
 refine .seq (.region ?_)
 refine .alloc rfl rfl rfl rfl zr59 (fun b2 hb2 => ?_)
 refine .P ?_
 refine .nil (.seq (.seq (.seq (.region (.P ?_)))))
 refine .nil (.seq (.block (.seq (.region (.P2 ?_)))))
 refine .nil (.seq (.cond_false rfl (.seq (.region (.P2 ?_)))))
 refine .nil (.seq (.cond_false rfl (.seq (.region (.P2 ?_)))))
 refine .nil (.seq (.cond_false rfl (.seq (.region (.P2 ?_)))))
 refine .nil (.seq (.cond_true rfl (.seq (.region ?_))))
 refine .call _ rfl rfl rfl rfl rfl rfl (fun m hm => reals_ok hm.lole) ?_
 refine .S sz59 ?_
 refine .P ?_
 refine .nil (.seq (.ret (.blk (.seq ?_))))
 refine .endH rfl (.agg rfl ag59 sz59 (by repeat first | exact .head | exact .app .head | exact .base ‹_› ‹_› (by simp) | refine .tail ?_ | refine .app ?_) (Nat.le_of_ble_eq_true rfl) rfl (.tmp rfl .nil)) ?_
 exact fun m hm => ⟨rfl, hm.ext⟩
def tab0 : List Value := [.nilFunc, .nilFunc, .nilFunc, .nilFunc, .nilFunc, .nilFunc, .nilFunc, .nilFunc, .nilFunc, .nilFunc, .nilFunc, .nilFunc, .nilFunc, .nilFunc, .nilFunc, .int .i64 0]
theorem of_none {kind : Int} {m : AW} (hm : m.lo ≤ m.next) (h1 : kind ≠ 1) (h2 : kind ≠ 2) (h3 : kind ≠ 3) (h4 : kind ≠ 4) : Fc prog 34 [.int .i64 kind] m fun v m' => v = .tuple ⟨[.agg ⟨tab0⟩, .int .i64 13]⟩ ∧ Ext m m' := by
 refine Fc.body (c := _) func34 rfl rfl rfl rfl hm ?_
 refine .seq (.region ?_)
 refine .alloc rfl rfl rfl rfl zr59 (fun b2 hb2 => ?_)
 refine .P ?_
 refine .nil (.seq (.seq (.seq (.region (.P ?_)))))
 refine .nil (.seq (.block (.seq (.region (.P2 ?_)))))
 refine .nil (.seq ?_)
 refine .cond_false (by rw [eqI_eq]; simp only [h1, decide_false]; rfl) ?_
 refine .seq (.region (.P2 ?_))
 refine .nil (.seq ?_)
 refine .cond_false (by rw [eqI_eq]; simp only [h2, decide_false]; rfl) ?_
 refine .seq (.region (.P2 ?_))
 refine .nil (.seq ?_)
 refine .cond_false (by rw [eqI_eq]; simp only [h3, decide_false]; rfl) ?_
 refine .seq (.region (.P2 ?_))
 refine .nil (.seq ?_)
 refine .cond_false (by rw [eqI_eq]; simp only [h4, decide_false]; rfl) ?_
 refine .skip (.blk (.seq (.seq (.region ?_))))
 refine .p (v := .agg ⟨tab0⟩) rfl rfl rfl (by kernel_rfl) ?_
 refine .S sz59 ?_
 refine .P ?_
 refine .nil (.seq (.ret ?_))
 refine .endH rfl (.agg rfl ag59 sz59 (by repeat first | exact .head | exact .app .head | exact .base ‹_› ‹_› (by simp) | refine .tail ?_ | refine .app ?_) (Nat.le_of_ble_eq_true rfl) rfl (.tmp rfl .nil)) ?_
 exact fun m hm => ⟨rfl, hm.ext⟩
def bitsV (b : Nat) : Int := if nanB b then 9221120237041090561 else wr .i64 (Int.ofNat b)
def w4 (n : Int) : Int := if nanB (flb n) then 9221120237041090561 else n
theorem frombits_ok {n : Int} {m : AW} : Fc prog 64 [.int .u64 n] m fun v m' => v = .float .f64 n.toNat ∧ Ext m m' :=
 Fc.extern func64 rfl (by kernel_rfl)
theorem tobits_ok {b : Nat} {m : AW} : Fc prog 66 [.float .f64 b] m fun v m' => v = .int .u64 b ∧ Ext m m' :=
 Fc.extern func66 rfl (by kernel_rfl)
theorem float_ok {n : Int} {m : AW} (hm : m.lo ≤ m.next) : Fc prog 36 [.int .i64 n] m fun v m' => v = .float .f64 (flb n) ∧ Ext m m' := by
 refine Fc.body (c := _) func36 rfl rfl rfl rfl hm ?_
 refine .seq (.region (.P ?_))
 refine .nil (.seq (.seq (.region (.P ?_))))
 refine .convInt rfl rfl rfl rfl underlying2 underlying34 rfl ?_
 refine .call _ rfl rfl rfl rfl rfl rfl (fun m hm => frombits_ok) ?_
 refine .P ?_
 refine .nil (.seq (.ret ?_))
 exact .end_ rfl rfl (fun m hm => ⟨rfl, hm.ext⟩)
theorem value_ok {n : Int} {m : AW} (hm : m.lo ≤ m.next) : Fc prog 43 [.int .i64 n] m fun v m' => v = .float .f64 (flb n) ∧ Ext m m' := by
 refine Fc.body (c := _) func43 rfl rfl rfl rfl hm ?_
 refine .seq (.region (.P ?_))
 refine .nil (.seq (.seq (.region (.P ?_))))
 refine .convInt rfl rfl rfl rfl underlying2 underlying34 rfl ?_
 refine .call _ rfl rfl rfl rfl rfl rfl (fun m hm => frombits_ok) ?_
 refine .P ?_
 refine .nil (.seq (.ret ?_))
 exact .end_ rfl rfl (fun m hm => ⟨rfl, hm.ext⟩)
theorem bits_nan {b : Nat} {m : AW} (hm : m.lo ≤ m.next) (h : nanB b = true) : Fc prog 55 [.float .f64 b] m fun v m' => v = .int .i64 9221120237041090561 ∧ Ext m m' := by
 refine Fc.body (c := _) func55 rfl rfl rfl rfl hm ?_
 refine .seq (.region (.P ?_))
 refine .nil (.seq (.seq (.seq (.region (.P3 ?_)))))
 refine .nil (.seq ?_)
 refine .cond_true (by rw [order_self, h]; rfl) ?_
 refine .seq (.region (.P ?_))
 refine .nil (.seq (.ret (.seq ?_)))
 exact .end_ rfl rfl (fun m hm => ⟨rfl, hm.ext⟩)
theorem bits_num {b : Nat} {m : AW} (hm : m.lo ≤ m.next) (h : nanB b = false) : Fc prog 55 [.float .f64 b] m fun v m' => v = .int .i64 (wr .i64 (Int.ofNat b)) ∧ Ext m m' := by
 refine Fc.body (c := _) func55 rfl rfl rfl rfl hm ?_
 refine .seq (.region (.P ?_))
 refine .nil (.seq (.seq (.seq (.region (.P3 ?_)))))
 refine .nil (.seq ?_)
 refine .cond_false (by rw [order_self, h]; rfl) ?_
 refine .skip (.seq (.seq (.region (.P ?_))))
 refine .call _ rfl rfl rfl rfl rfl rfl (fun m hm => tobits_ok) ?_
 refine .convInt rfl rfl rfl rfl underlying34 underlying2 rfl (.P ?_)
 refine .nil (.seq (.ret ?_))
 exact .end_ rfl rfl (fun m hm => ⟨rfl, hm.ext⟩)
theorem bits_ok {b : Nat} {m : AW} (hm : m.lo ≤ m.next) : Fc prog 55 [.float .f64 b] m fun v m' => v = .int .i64 (bitsV b) ∧ Ext m m' := by
 unfold bitsV
 cases h : nanB b with
 | true => exact bits_nan hm h
 | false => exact bits_num hm h
theorem bitsV_flb {n : Int} (h : Fit .i64 n) : bitsV (flb n) = w4 n := by
 unfold bitsV w4
 rw [wr_flb h]
theorem clr_1 {n : Int} {m : AW} (hm : m.lo ≤ m.next) (h : Fit .i64 n) : Fc prog 127 [.int .i64 n] m fun v m' => v = .int .i64 (w4 n) ∧ Ext m m' := by
 refine Fc.body (c := _) func127 rfl rfl rfl rfl hm ?_
 refine .seq (.region (.P ?_))
 refine .nil (.seq (.seq (.region (.P ?_))))
 refine .call _ rfl rfl rfl rfl rfl rfl (fun m hm => float_ok hm.lole) ?_
 refine .call _ rfl rfl rfl rfl rfl rfl (fun m hm => bits_ok hm.lole) ?_
 refine .P ?_
 refine .nil (.seq (.ret ?_))
 exact .end_ rfl rfl (fun m hm => ⟨congrArg (Value.int .i64) (bitsV_flb h), hm.ext⟩)
theorem isNaN_ok {n : Int} {m : AW} (hm : m.lo ≤ m.next) : Fc prog 52 [.int .i64 n] m fun v m' => v = .bool (nanB (flb n)) ∧ Ext m m' := by
 refine Fc.body (c := _) func52 rfl rfl rfl rfl hm ?_
 refine .seq (.region (.P ?_))
 refine .nil (.seq (.seq (.region (.P ?_))))
 refine .convInt rfl rfl rfl rfl underlying2 underlying34 rfl (.P ?_)
 refine .nil (.seq (.seq (.region ?_)))
 iterate 5 refine .P ?_
 refine .splitB 10 rfl (fun hs0 => ?_) (fun hs0 => ?_)
 ·refine .P ?_
  iterate 4 refine .P ?_
  refine .nil (.seq (.ret ?_))
  exact .end_ rfl rfl (fun m hm => ⟨congrArg Value.bool (nan_T hs0), hm.ext⟩)
 iterate 3 refine .O ?_
 refine .P2 ?_
 refine .nil (.seq (.ret ?_))
 exact .end_ rfl rfl (fun m hm => ⟨congrArg Value.bool (nan_F hs0), hm.ext⟩)
theorem Kind_u8 {m : AW} (hm : m.lo ≤ m.next) : Fc prog 14 [.int .i64 1] m fun v m' => v = .bool true ∧ Ext m m' := by
 refine Fc.body (c := _) func14 rfl rfl rfl rfl hm ?_
 refine .seq (.region (.P ?_))
 refine .nil (.seq (.seq (.region (.P3 ?_))))
 iterate 2 refine .O ?_
 refine .P2 ?_
 iterate 2 refine .O ?_
 refine .P2 ?_
 iterate 2 refine .O ?_
 refine .P2 ?_
 refine .nil (.seq (.ret ?_))
 exact .end_ rfl rfl (fun m hm => ⟨rfl, hm.ext⟩)
theorem RWrap_u8 {n : Int} {m : AW} (hm : m.lo ≤ m.next) (h : Fit .i64 n) : Fc prog 22 [.int .i64 1, .int .i64 n] m fun v m' => v = .int .i64 (wr .u8 n) ∧ Ext m m' := by
 refine Fc.body (c := _) func22 rfl rfl rfl rfl hm ?_
 refine .seq (.region (.P ?_))
 refine .nil (.seq (.seq (.seq (.region (.P ?_)))))
 refine .nil (.seq (.block (.seq (.region (.P2 ?_)))))
 refine .nil (.seq (.cond_true rfl (.seq (.region (.P3 ?_)))))
 refine .nil (.seq (.ret (.blk (.seq ?_))))
 exact .end_ rfl rfl (fun m hm => ⟨congrArg (Value.int .i64) (and255 _), hm.ext⟩)
theorem Kind_i32 {m : AW} (hm : m.lo ≤ m.next) : Fc prog 14 [.int .i64 2] m fun v m' => v = .bool true ∧ Ext m m' := by
 refine Fc.body (c := _) func14 rfl rfl rfl rfl hm ?_
 refine .seq (.region (.P ?_))
 refine .nil (.seq (.seq (.region ?_)))
 iterate 7 refine .P ?_
 iterate 2 refine .O ?_
 refine .P2 ?_
 iterate 2 refine .O ?_
 refine .P2 ?_
 refine .nil (.seq (.ret ?_))
 exact .end_ rfl rfl (fun m hm => ⟨rfl, hm.ext⟩)
theorem RWrap_i32 {n : Int} {m : AW} (hm : m.lo ≤ m.next) (h : Fit .i64 n) : Fc prog 22 [.int .i64 2, .int .i64 n] m fun v m' => v = .int .i64 (wr .i32 n) ∧ Ext m m' := by
 refine Fc.body (c := _) func22 rfl rfl rfl rfl hm ?_
 refine .seq (.region (.P ?_))
 refine .nil (.seq (.seq (.seq (.region (.P ?_)))))
 refine .nil (.seq (.block (.seq (.region (.P2 ?_)))))
 refine .nil (.seq (.cond_false rfl (.seq (.region (.P2 ?_)))))
 refine .nil (.seq (.cond_true rfl (.seq (.region (.P ?_)))))
 refine .convInt rfl rfl rfl rfl underlying2 underlying34 rfl (.convInt rfl rfl rfl rfl underlying34 underlying83 rfl (.convInt rfl rfl rfl rfl underlying83 underlying21 rfl (.convInt rfl rfl rfl rfl underlying21 underlying2 rfl (.P ?_))))
 refine .nil (.seq (.ret (.blk (.seq ?_))))
 exact .end_ rfl rfl (fun m hm => ⟨congrArg (Value.int .i64) ((by rw [wr64 _ _ (by decide) (by decide), wr_wr (k := .i32) (k' := .u32) (by decide), wr_wr (k := .i32) (k' := .u64) (by decide)])), hm.ext⟩)
theorem Kind_i64 {m : AW} (hm : m.lo ≤ m.next) : Fc prog 14 [.int .i64 3] m fun v m' => v = .bool true ∧ Ext m m' := by
 refine Fc.body (c := _) func14 rfl rfl rfl rfl hm ?_
 refine .seq (.region (.P ?_))
 refine .nil (.seq (.seq (.region ?_)))
 iterate 11 refine .P ?_
 iterate 2 refine .O ?_
 refine .P2 ?_
 refine .nil (.seq (.ret ?_))
 exact .end_ rfl rfl (fun m hm => ⟨rfl, hm.ext⟩)
theorem RWrap_i64 {n : Int} {m : AW} (hm : m.lo ≤ m.next) (h : Fit .i64 n) : Fc prog 22 [.int .i64 3, .int .i64 n] m fun v m' => v = .int .i64 (wr .i64 n) ∧ Ext m m' := by
 refine Fc.body (c := _) func22 rfl rfl rfl rfl hm ?_
 refine .seq (.region (.P ?_))
 refine .nil (.seq (.seq (.seq (.region (.P ?_)))))
 refine .nil (.seq (.block (.seq (.region (.P2 ?_)))))
 refine .nil (.seq (.cond_false rfl (.seq (.region (.P2 ?_)))))
 refine .nil (.seq (.cond_false rfl (.seq (.region (.P2 ?_)))))
 refine .nil (.seq (.cond_false rfl (.skip (.blk (.seq (.seq (.region (.P2 ?_))))))))
 refine .nil (.seq (.ret ?_))
 exact .end_ rfl rfl (fun m hm => ⟨congrArg (Value.int .i64) (h.symm), hm.ext⟩)
theorem Kind_real {m : AW} (hm : m.lo ≤ m.next) : Fc prog 14 [.int .i64 4] m fun v m' => v = .bool true ∧ Ext m m' := by
 refine Fc.body (c := _) func14 rfl rfl rfl rfl hm ?_
 refine .seq (.region (.P ?_))
 refine .nil (.seq (.seq (.region ?_)))
 iterate 15 refine .P ?_
 refine .nil (.seq (.ret ?_))
 exact .end_ rfl rfl (fun m hm => ⟨rfl, hm.ext⟩)
theorem RWrap_nan {n : Int} {m : AW} (hm : m.lo ≤ m.next) (h : nanB (flb n) = true) : Fc prog 22 [.int .i64 4, .int .i64 n] m fun v m' => v = .int .i64 9221120237041090561 ∧ Ext m m' := by
 refine Fc.body (c := _) func22 rfl rfl rfl rfl hm ?_
 refine .seq (.region (.P ?_))
 refine .nil (.seq (.seq (.seq (.region (.P ?_)))))
 refine .nil (.seq (.block (.seq (.region (.P2 ?_)))))
 refine .nil (.seq (.cond_false rfl (.seq (.region (.P2 ?_)))))
 refine .nil (.seq (.cond_false rfl (.seq (.region (.P2 ?_)))))
 refine .nil (.seq (.cond_true rfl (.seq (.region (.P ?_)))))
 refine .call _ rfl rfl rfl rfl rfl rfl (fun m hm => isNaN_ok hm.lole) ?_
 refine .nil (.seq ?_)
 refine .cond_true (by rw [h]; rfl) ?_
 refine .seq (.region (.P ?_))
 refine .nil (.seq (.ret (.blk (.seq ?_))))
 exact .end_ rfl rfl (fun m hm => ⟨rfl, hm.ext⟩)
theorem RWrap_num {n : Int} {m : AW} (hm : m.lo ≤ m.next) (h : nanB (flb n) = false) : Fc prog 22 [.int .i64 4, .int .i64 n] m fun v m' => v = .int .i64 n ∧ Ext m m' := by
 refine Fc.body (c := _) func22 rfl rfl rfl rfl hm ?_
 refine .seq (.region (.P ?_))
 refine .nil (.seq (.seq (.seq (.region (.P ?_)))))
 refine .nil (.seq (.block (.seq (.region (.P2 ?_)))))
 refine .nil (.seq (.cond_false rfl (.seq (.region (.P2 ?_)))))
 refine .nil (.seq (.cond_false rfl (.seq (.region (.P2 ?_)))))
 refine .nil (.seq (.cond_true rfl (.seq (.region (.P ?_)))))
 refine .call _ rfl rfl rfl rfl rfl rfl (fun m hm => isNaN_ok hm.lole) ?_
 refine .nil (.seq ?_)
 refine .cond_false (by rw [h]; rfl) ?_
 refine .skip (.blk (.seq (.seq (.region (.P2 ?_)))))
 refine .nil (.seq (.ret ?_))
 exact .end_ rfl rfl (fun m hm => ⟨rfl, hm.ext⟩)
theorem RWrap_real {n : Int} {m : AW} (hm : m.lo ≤ m.next) (_ : Fit .i64 n) : Fc prog 22 [.int .i64 4, .int .i64 n] m fun v m' => v = .int .i64 (w4 n) ∧ Ext m m' := by
 unfold w4
 cases h : nanB (flb n) with
 | true => exact RWrap_nan hm h
 | false => exact RWrap_num hm h
theorem Kind_none {kind : Int} {m : AW} (hm : m.lo ≤ m.next) (h1 : kind ≠ 1) (h2 : kind ≠ 2) (h3 : kind ≠ 3) (h4 : kind ≠ 4) : Fc prog 14 [.int .i64 kind] m fun v m' => v = .bool false ∧ Ext m m' := by
 refine Fc.body (c := _) func14 rfl rfl rfl rfl hm ?_
 refine .seq (.region (.P ?_))
 refine .nil (.seq (.seq (.region (.P ?_))))
 refine .bin (v := .bool false) rfl rfl rfl rfl rfl rfl (binS_neql h1) ?_
 refine .P2 ?_
 refine .bin (v := .bool false) rfl rfl rfl rfl rfl rfl (binS_neql h2) ?_
 refine .P3 ?_
 refine .bin (v := .bool false) rfl rfl rfl rfl rfl rfl (binS_neql h3) ?_
 refine .P3 ?_
 refine .bin (v := .bool false) rfl rfl rfl rfl rfl rfl (binS_neql h4) ?_
 refine .P2 ?_
 refine .nil (.seq (.ret ?_))
 exact .end_ rfl rfl (fun m hm => ⟨rfl, hm.ext⟩)
theorem Round_ok {w : Nat} {m : AW} (hm : m.lo ≤ m.next) (hw : w < 18446744073709551616) : Fc prog 81 [.float .f64 w] m fun v m' => v = .float .f64 (roundN w) ∧ Ext m m' := by
 obtain ⟨E, hE⟩ : ∃ E, E = w / 4503599627370496 % 2048 := ⟨_, rfl⟩
 have hEl : E < 2048 := by omega
 refine Fc.body (c := _) func81 rfl rfl rfl rfl hm ?_
 refine .seq (.region (.P ?_))
 refine .nil (.seq (.seq (.region (.P ?_))))
 refine .call _ rfl rfl rfl rfl rfl rfl (fun m hm => tobits_ok) ?_
 refine .P ?_
 refine .nil (.seq (.seq (.region (.P3 ?_))))
 refine .as 9 (.int .u64 (Int.ofNat E)) rfl (congrArg (Value.int .u64) (hE ▸ expo_eq hw)) ?_
 refine .P ?_
 refine .nil (.seq (.seq (.seq (.region (.P2 ?_)))))
 refine .nil (.seq (.cond rfl (fun hc0 => ?_) fun hc0 => ?_))
 ·(try simp only [decide_eq_true_eq, decide_eq_false_iff_not, nrm_lt, nrm_nlt, nrm_eq, nrm_neq, nrm_seq, nrm_sneq, nrm_sempty, nrm_snempty, nrm_ofNat, Bool.not_eq_true', Bool.not_eq_false'] at hc0)
  refine .seq (.region (.P2 ?_))
  refine .as 13 (.int .u64 (Int.ofNat (w / 9223372036854775808 * 9223372036854775808))) rfl (congrArg (Value.int .u64) (top_eq hw)) ?_
  refine .P ?_
  refine .nil (.seq (.seq (.region (.P2 ?_))))
  refine .nil (.seq (.cond rfl (fun hc1 => ?_) fun hc1 => ?_))
  ·(try simp only [decide_eq_true_eq, decide_eq_false_iff_not, nrm_lt, nrm_nlt, nrm_eq, nrm_neq, nrm_seq, nrm_sneq, nrm_sempty, nrm_snempty, nrm_ofNat, Bool.not_eq_true', Bool.not_eq_false'] at hc1)
   refine .region (.P2 ?_)
   refine .as 17 (.int .u64 (Int.ofNat (w / 9223372036854775808 * 9223372036854775808 + 4607182418800017408))) rfl (congrArg (Value.int .u64) (or_eq hw)) ?_
   refine .P ?_
   refine .nil (.seq (.seq (.region (.P ?_))))
   refine .call _ rfl rfl rfl rfl rfl rfl (fun m hm => frombits_ok) ?_
   refine .P ?_
   refine .nil (.seq (.ret ?_))
   exact .end_ rfl rfl (fun m hm => ⟨congrArg (Value.float .f64) (by unfold roundN; rw [← hE, if_pos (by omega), if_pos (by omega)]; exact Int.toNat_natCast _), hm.ext⟩)
  (try simp only [decide_eq_true_eq, decide_eq_false_iff_not, nrm_lt, nrm_nlt, nrm_eq, nrm_neq, nrm_seq, nrm_sneq, nrm_sempty, nrm_snempty, nrm_ofNat, Bool.not_eq_true', Bool.not_eq_false'] at hc1)
  refine .skip (.seq (.seq (.region (.P ?_))))
  refine .call _ rfl rfl rfl rfl rfl rfl (fun m hm => frombits_ok) ?_
  refine .P ?_
  refine .nil (.seq (.ret ?_))
  exact .end_ rfl rfl (fun m hm => ⟨congrArg (Value.float .f64) (by unfold roundN; rw [← hE, if_pos (by omega), if_neg (by omega), Nat.add_zero]; exact Int.toNat_natCast _), hm.ext⟩)
 (try simp only [decide_eq_true_eq, decide_eq_false_iff_not, nrm_lt, nrm_nlt, nrm_eq, nrm_neq, nrm_seq, nrm_sneq, nrm_sempty, nrm_snempty, nrm_ofNat, Bool.not_eq_true', Bool.not_eq_false'] at hc0)
 refine .seq (.region (.P2 ?_))
 refine .nil (.seq (.cond rfl (fun hc2 => ?_) fun hc2 => ?_))
 ·(try simp only [decide_eq_true_eq, decide_eq_false_iff_not, nrm_lt, nrm_nlt, nrm_eq, nrm_neq, nrm_seq, nrm_sneq, nrm_sempty, nrm_snempty, nrm_ofNat, Bool.not_eq_true', Bool.not_eq_false'] at hc2)
  refine .seq (.region (.P2 ?_))
  refine .as 21 (.int .u64 (Int.ofNat (E - 1023))) rfl (congrArg (Value.int .u64) (sub_eq (by omega) hEl)) ?_
  refine .P ?_
  refine .nil (.seq (.seq (.region (.P2 ?_))))
  refine .bin rfl rfl rfl rfl rfl rfl (binS_shr (by simp [IntKind.bits]; omega)) ?_
  refine .as 24 (.int .u64 (Int.ofNat (2 ^ (1074 - E)))) rfl (congrArg (Value.int .u64) (halfshr_eq (by omega) (by omega))) ?_
  refine .P ?_
  refine .as 25 (.int .u64 (Int.ofNat (w + 2 ^ (1074 - E)))) rfl (congrArg (Value.int .u64) ((addhalf_eq hE hw (by omega) (by omega)).1)) ?_
  refine .P ?_
  refine .nil (.seq (.region (.P2 ?_)))
  refine .bin rfl rfl rfl rfl rfl rfl (binS_shr (by simp [IntKind.bits]; omega)) ?_
  refine .as 28 (.int .u64 (Int.ofNat (2 ^ (1075 - E) - 1))) rfl (congrArg (Value.int .u64) (maskshr_eq (by omega) (by omega))) ?_
  refine .P ?_
  refine .as 29 (.int .u64 (Int.ofNat ((w + 2 ^ (1074 - E)) / 2 ^ (1075 - E) * 2 ^ (1075 - E)))) rfl (congrArg (Value.int .u64) (andnot_eq (addhalf_eq hE hw (by omega) (by omega)).2 (by omega))) ?_
  refine .P ?_
  refine .nil (.seq (.seq (.region (.P ?_))))
  refine .call _ rfl rfl rfl rfl rfl rfl (fun m hm => frombits_ok) ?_
  refine .P ?_
  refine .nil (.seq (.ret ?_))
  exact .end_ rfl rfl (fun m hm => ⟨congrArg (Value.float .f64) (by unfold roundN; rw [← hE, if_neg (by omega), if_pos (by omega)]; exact Int.toNat_natCast _), hm.ext⟩)
 (try simp only [decide_eq_true_eq, decide_eq_false_iff_not, nrm_lt, nrm_nlt, nrm_eq, nrm_neq, nrm_seq, nrm_sneq, nrm_sempty, nrm_snempty, nrm_ofNat, Bool.not_eq_true', Bool.not_eq_false'] at hc2)
 refine .skip (.seq (.seq (.region (.P ?_))))
 refine .call _ rfl rfl rfl rfl rfl rfl (fun m hm => frombits_ok) ?_
 refine .P ?_
 refine .nil (.seq (.ret ?_))
 exact .end_ rfl rfl (fun m hm => ⟨congrArg (Value.float .f64) (by unfold roundN; rw [← hE, if_neg (by omega), if_neg (by omega)]; rfl), hm.ext⟩)
theorem rounded_nan {w : Nat} {lo hi : Int} {m : AW} (hm : m.lo ≤ m.next) (hw : w < 18446744073709551616) (hn : nanB w = true) : Fc prog 56 [.float .f64 w, .int .i64 lo, .int .i64 hi] m fun v m' => v = .int .i64 0 ∧ Ext m m' := by
 refine Fc.body (c := _) func56 rfl rfl rfl rfl hm ?_
 refine .seq (.region (.P ?_))
 refine .nil (.seq (.seq (.region (.P ?_))))
 refine .call _ rfl rfl rfl rfl rfl rfl (fun m hm => Round_ok hm.lole hw) ?_
 refine .P ?_
 refine .nil (.seq (.seq (.block (.seq (.region ?_)))))
 iterate 4 refine .P ?_
 refine .nil (.seq ?_)
 refine .cond_true (by rw [order_self, round_nan hw, hn]; rfl) ?_
 refine .seq (.region (.P ?_))
 refine .nil (.seq (.ret (.blk (.seq ?_))))
 exact .end_ rfl rfl (fun m hm => ⟨rfl, hm.ext⟩)
theorem rounded_num {w : Nat} {lo hi hi2 : Int} {m : AW} (hm : m.lo ≤ m.next) (hw : w < 18446744073709551616) (hn : nanB w = false) (hl : EndR lo (FloatKind.f64.nearest lo)) (hh : EndR hi2 (FloatKind.f64.nearest hi)) (h1 : -9223372036854775808 ≤ lo) (h2 : hi2 ≤ 9223372036854775808) (h3 : hi ≤ hi2) (h4 : hi2 ≤ hi + 1) : Fc prog 56 [.float .f64 w, .int .i64 lo, .int .i64 hi] m fun v m' => v = .int .i64 (clampV lo hi (valR w)) ∧ Ext m m' := by
 refine Fc.body (c := _) func56 rfl rfl rfl rfl hm ?_
 refine .seq (.region (.P ?_))
 refine .nil (.seq (.seq (.region (.P ?_))))
 refine .call _ rfl rfl rfl rfl rfl rfl (fun m hm => Round_ok hm.lole hw) ?_
 refine .P ?_
 refine .nil (.seq (.seq (.block (.seq (.region ?_)))))
 iterate 4 refine .P ?_
 refine .nil (.seq ?_)
 refine .cond_false (by rw [order_self, round_nan hw, hn]; rfl) ?_
 refine .seq (.region (.P2 ?_))
 refine .convIF rfl rfl rfl rfl underlying2 underlying63 rfl (.P ?_)
 refine .as 17 (.bool (decide (valR w ≤ lo))) rfl (congrArg Value.bool (round_leq hw hn hl)) ?_
 refine .P ?_
 refine .nil (.seq (.cond rfl (fun hc1 => ?_) fun hc1 => ?_))
 ·(try simp only [decide_eq_true_eq, decide_eq_false_iff_not, nrm_lt, nrm_nlt, nrm_eq, nrm_neq, nrm_seq, nrm_sneq, nrm_sempty, nrm_snempty, nrm_ofNat, Bool.not_eq_true', Bool.not_eq_false'] at hc1)
  refine .seq (.region (.P2 ?_))
  refine .nil (.seq (.ret (.blk (.seq ?_))))
  exact .end_ rfl rfl (fun m hm => ⟨congrArg (Value.int .i64) (by unfold clampV; rw [if_pos (by omega)]), hm.ext⟩)
 (try simp only [decide_eq_true_eq, decide_eq_false_iff_not, nrm_lt, nrm_nlt, nrm_eq, nrm_neq, nrm_seq, nrm_sneq, nrm_sempty, nrm_snempty, nrm_ofNat, Bool.not_eq_true', Bool.not_eq_false'] at hc1)
 refine .seq (.region (.P2 ?_))
 refine .convIF rfl rfl rfl rfl underlying2 underlying63 rfl (.P ?_)
 refine .as 23 (.bool (decide (hi2 ≤ valR w))) rfl (congrArg Value.bool (round_geq hw hn hh)) ?_
 refine .P ?_
 refine .nil (.seq (.cond rfl (fun hc2 => ?_) fun hc2 => ?_))
 ·(try simp only [decide_eq_true_eq, decide_eq_false_iff_not, nrm_lt, nrm_nlt, nrm_eq, nrm_neq, nrm_seq, nrm_sneq, nrm_sempty, nrm_snempty, nrm_ofNat, Bool.not_eq_true', Bool.not_eq_false'] at hc2)
  refine .seq (.region (.P2 ?_))
  refine .nil (.seq (.ret (.blk (.seq ?_))))
  exact .end_ rfl rfl (fun m hm => ⟨congrArg (Value.int .i64) (by unfold clampV; rw [if_neg (by omega), if_pos (by omega)]), hm.ext⟩)
 (try simp only [decide_eq_true_eq, decide_eq_false_iff_not, nrm_lt, nrm_nlt, nrm_eq, nrm_neq, nrm_seq, nrm_sneq, nrm_sempty, nrm_snempty, nrm_ofNat, Bool.not_eq_true', Bool.not_eq_false'] at hc2)
 refine .skip (.blk (.seq (.seq (.region (.P ?_)))))
 refine .convFI rfl rfl rfl rfl underlying63 underlying2 rfl (round_int hw hn (by omega) (by omega)) ?_
 refine .P ?_
 refine .nil (.seq (.ret ?_))
 exact .end_ rfl rfl (fun m hm => ⟨congrArg (Value.int .i64) (by unfold clampV; rw [if_neg (by omega)]; split <;> omega), hm.ext⟩)
theorem rounded_2 {w : Nat} {m : AW} (hm : m.lo ≤ m.next) (hw : w < 18446744073709551616) : Fc prog 56 [.float .f64 w, .int .i64 (-2147483648), .int .i64 2147483647] m fun v m' => v = .int .i64 (convR (-2147483648) 2147483647 w) ∧ Ext m m' := by
 cases h : nanB w with
 | true => rw [convR_nan h]; exact rounded_nan hm hw h
 | false => rw [convR_num h]; exact rounded_num (hi2 := 2147483647) hm hw h end32lo end32hi (by omega) (by omega) (by omega) (by omega)
theorem ends_2 {m : AW} (hm : m.lo ≤ m.next) : Fc prog 79 [.int .i64 2] m fun v m' => v = .tuple ⟨[.int .i64 (-2147483648), .int .i64 2147483647]⟩ ∧ Ext m m' := by
 refine Fc.body (c := _) func79 rfl rfl rfl rfl hm ?_
 refine .seq (.region (.P2 ?_))
 refine .nil (.seq (.seq (.seq (.region (.P2 ?_)))))
 refine .nil (.seq (.cond_true rfl (.seq (.region (.P2 ?_)))))
 refine .nil (.seq (.ret (.seq ?_)))
 exact .end_ rfl rfl (fun m hm => ⟨rfl, hm.ext⟩)
theorem near_nan_2 {w : Nat} {m : AW} (hm : m.lo ≤ m.next) (hn : nanB w = true) : Fc prog 57 [.int .i64 2, .float .f64 w] m fun v m' => v = .int .i64 0 ∧ Ext m m' := by
 refine Fc.body (c := _) func57 rfl rfl rfl rfl hm ?_
 refine .seq (.region (.P ?_))
 refine .nil (.seq (.seq (.region (.P ?_))))
 refine .call _ rfl rfl rfl rfl rfl rfl (fun m hm => ends_2 hm.lole) ?_
 iterate 5 refine .P ?_
 refine .nil (.seq (.seq (.block (.seq (.region ?_)))))
 iterate 4 refine .P ?_
 refine .nil (.seq ?_)
 refine .cond_true (by rw [order_self, hn]; rfl) ?_
 refine .seq (.region (.P ?_))
 refine .nil (.seq (.ret (.blk (.seq ?_))))
 exact .end_ rfl rfl (fun m hm => ⟨rfl, hm.ext⟩)
theorem near_num_2 {w : Nat} {m : AW} (hm : m.lo ≤ m.next) (hw : w < 18446744073709551616) (hn : nanB w = false) : Fc prog 57 [.int .i64 2, .float .f64 w] m fun v m' => v = .int .i64 (clampV (-2147483648) 2147483647 (valR w)) ∧ Ext m m' := by
 have hp := hU_pos
 refine Fc.body (c := _) func57 rfl rfl rfl rfl hm ?_
 refine .seq (.region (.P ?_))
 refine .nil (.seq (.seq (.region (.P ?_))))
 refine .call _ rfl rfl rfl rfl rfl rfl (fun m hm => ends_2 hm.lole) ?_
 iterate 5 refine .P ?_
 refine .nil (.seq (.seq (.block (.seq (.region ?_)))))
 iterate 4 refine .P ?_
 refine .nil (.seq ?_)
 refine .cond_false (by rw [order_self, hn]; rfl) ?_
 refine .seq (.region (.P2 ?_))
 refine .as 20 (.bool (decide (9223372036854775808 * ((2 * hU : Nat) : Int) ≤ sg (sgR w) (szR w)))) rfl (congrArg Value.bool (geq_ord (ord_read hn) endHi)) ?_
 refine .P ?_
 refine .nil (.seq (.cond rfl (fun ht18 => ?_) fun ht18 => ?_))
 ·(try simp only [decide_eq_true_eq, decide_eq_false_iff_not, nrm_lt, nrm_nlt, nrm_eq, nrm_neq, nrm_seq, nrm_sneq, nrm_sempty, nrm_snempty, nrm_ofNat, Bool.not_eq_true', Bool.not_eq_false'] at ht18)
  have hv := val_hi ht18
  refine .seq (.region (.P2 ?_))
  refine .nil (.seq (.ret (.blk (.seq ?_))))
  exact .end_ rfl rfl (fun m hm => ⟨congrArg (Value.int .i64) (by unfold clampV; rw [if_neg (by omega), if_pos (by omega)]), hm.ext⟩)
 (try simp only [decide_eq_true_eq, decide_eq_false_iff_not, nrm_lt, nrm_nlt, nrm_eq, nrm_neq, nrm_seq, nrm_sneq, nrm_sempty, nrm_snempty, nrm_ofNat, Bool.not_eq_true', Bool.not_eq_false'] at ht18)
 refine .seq (.region (.P2 ?_))
 refine .as 24 (.bool (decide (sg (sgR w) (szR w) ≤ -9223372036854775808 * ((2 * hU : Nat) : Int)))) rfl (congrArg Value.bool (leq_ord (ord_read hn) endLo)) ?_
 refine .P ?_
 refine .nil (.seq (.cond rfl (fun ht22 => ?_) fun ht22 => ?_))
 ·(try simp only [decide_eq_true_eq, decide_eq_false_iff_not, nrm_lt, nrm_nlt, nrm_eq, nrm_neq, nrm_seq, nrm_sneq, nrm_sempty, nrm_snempty, nrm_ofNat, Bool.not_eq_true', Bool.not_eq_false'] at ht22)
  have hv := val_lo ht22
  refine .seq (.region (.P2 ?_))
  refine .nil (.seq (.ret (.blk (.seq ?_))))
  exact .end_ rfl rfl (fun m hm => ⟨congrArg (Value.int .i64) (by unfold clampV; rw [if_pos (by omega)]), hm.ext⟩)
 (try simp only [decide_eq_true_eq, decide_eq_false_iff_not, nrm_lt, nrm_nlt, nrm_eq, nrm_neq, nrm_seq, nrm_sneq, nrm_sempty, nrm_snempty, nrm_ofNat, Bool.not_eq_true', Bool.not_eq_false'] at ht22)
 obtain ⟨n, r, u, R, hn1, hn2, hn3, hn4, hn5, hn6, hn7, hn8⟩ := near_facts hw hn ht18 ht22
 refine .skip (.blk (.seq (.seq (.region (.P ?_)))))
 refine .convFI rfl rfl rfl rfl underlying63 underlying2 rfl (hn1) ?_
 refine .P ?_
 refine .nil (.seq (.seq (.region (.P2 ?_))))
 refine .convIF rfl rfl rfl rfl underlying2 underlying63 rfl ?_
 refine .bin rfl rfl rfl rfl rfl rfl (binS_fsub hn2) ?_
 refine .P ?_
 refine .nil (.seq (.seq (.seq (.region (.P2 ?_)))))
 refine .as 33 (.bool (decide ((hU : Int) ≤ sg u R))) rfl (congrArg Value.bool (geq_half hn3)) ?_
 refine .nil (.seq (.cond rfl (fun ht33 => ?_) fun ht33 => ?_))
 ·(try simp only [decide_eq_true_eq, decide_eq_false_iff_not, nrm_lt, nrm_nlt, nrm_eq, nrm_neq, nrm_seq, nrm_sneq, nrm_sempty, nrm_snempty, nrm_ofNat, Bool.not_eq_true', Bool.not_eq_false'] at ht33)
  obtain ⟨hn6, hn6b⟩ := hn6 ht33
  refine .region (.P2 ?_)
  refine .as 35 (.int .i64 (n + 1)) rfl (congrArg (Value.int .i64) ((by rw [wr_in (show (-9223372036854775808 : Int) ≤ _ by omega) (show _ ≤ (9223372036854775807 : Int) by omega)]))) ?_
  refine .P ?_
  refine .nil (.seq (.seq (.seq (.region (.P2 ?_)))))
  refine .as 37 (.bool (decide (sg u R ≤ -(hU : Int)))) rfl (congrArg Value.bool (leq_half hn3)) ?_
  refine .nil (.seq (.cond rfl (fun ht37 => ?_) fun ht37 => ?_))
  ·(try simp only [decide_eq_true_eq, decide_eq_false_iff_not, nrm_lt, nrm_nlt, nrm_eq, nrm_neq, nrm_seq, nrm_sneq, nrm_sempty, nrm_snempty, nrm_ofNat, Bool.not_eq_true', Bool.not_eq_false'] at ht37)
   exfalso; omega
  (try simp only [decide_eq_true_eq, decide_eq_false_iff_not, nrm_lt, nrm_nlt, nrm_eq, nrm_neq, nrm_seq, nrm_sneq, nrm_sempty, nrm_snempty, nrm_ofNat, Bool.not_eq_true', Bool.not_eq_false'] at ht37)
  refine .skip (.seq (.seq (.region (.P3 ?_))))
  refine .min rfl rfl rfl rfl rfl rfl (.max rfl rfl rfl rfl rfl rfl (.P ?_))
  refine .nil (.seq (.ret ?_))
  exact .end_ rfl rfl (fun m hm => ⟨congrArg (Value.int .i64) (by rw [hn6]; exact clamp_min (by omega)), hm.ext⟩)
 (try simp only [decide_eq_true_eq, decide_eq_false_iff_not, nrm_lt, nrm_nlt, nrm_eq, nrm_neq, nrm_seq, nrm_sneq, nrm_sempty, nrm_snempty, nrm_ofNat, Bool.not_eq_true', Bool.not_eq_false'] at ht33)
 refine .skip (.seq (.seq (.seq (.region (.P2 ?_)))))
 refine .as 37 (.bool (decide (sg u R ≤ -(hU : Int)))) rfl (congrArg Value.bool (leq_half hn3)) ?_
 refine .nil (.seq (.cond rfl (fun ht37 => ?_) fun ht37 => ?_))
 ·(try simp only [decide_eq_true_eq, decide_eq_false_iff_not, nrm_lt, nrm_nlt, nrm_eq, nrm_neq, nrm_seq, nrm_sneq, nrm_sempty, nrm_snempty, nrm_ofNat, Bool.not_eq_true', Bool.not_eq_false'] at ht37)
  obtain ⟨hn7, hn7b⟩ := hn7 ht37
  refine .region (.P2 ?_)
  refine .as 39 (.int .i64 (n - 1)) rfl (congrArg (Value.int .i64) ((by rw [wr_in (show (-9223372036854775808 : Int) ≤ _ by omega) (show _ ≤ (9223372036854775807 : Int) by omega)]))) ?_
  refine .P ?_
  refine .nil (.seq (.seq (.region (.P3 ?_))))
  refine .min rfl rfl rfl rfl rfl rfl (.max rfl rfl rfl rfl rfl rfl (.P ?_))
  refine .nil (.seq (.ret ?_))
  exact .end_ rfl rfl (fun m hm => ⟨congrArg (Value.int .i64) (by rw [hn7]; exact clamp_min (by omega)), hm.ext⟩)
 (try simp only [decide_eq_true_eq, decide_eq_false_iff_not, nrm_lt, nrm_nlt, nrm_eq, nrm_neq, nrm_seq, nrm_sneq, nrm_sempty, nrm_snempty, nrm_ofNat, Bool.not_eq_true', Bool.not_eq_false'] at ht37)
 refine .skip (.seq (.seq (.region (.P3 ?_))))
 refine .min rfl rfl rfl rfl rfl rfl (.max rfl rfl rfl rfl rfl rfl (.P ?_))
 refine .nil (.seq (.ret ?_))
 exact .end_ rfl rfl (fun m hm => ⟨congrArg (Value.int .i64) (by rw [hn8 ht33 ht37]; exact clamp_min (by omega)), hm.ext⟩)
theorem rounded_3 {w : Nat} {m : AW} (hm : m.lo ≤ m.next) (hw : w < 18446744073709551616) : Fc prog 56 [.float .f64 w, .int .i64 (-9223372036854775808), .int .i64 9223372036854775807] m fun v m' => v = .int .i64 (convR (-9223372036854775808) 9223372036854775807 w) ∧ Ext m m' := by
 cases h : nanB w with
 | true => rw [convR_nan h]; exact rounded_nan hm hw h
 | false => rw [convR_num h]; exact rounded_num (hi2 := 9223372036854775808) hm hw h end64lo end64hi (by omega) (by omega) (by omega) (by omega)
theorem ends_3 {m : AW} (hm : m.lo ≤ m.next) : Fc prog 79 [.int .i64 3] m fun v m' => v = .tuple ⟨[.int .i64 (-9223372036854775808), .int .i64 9223372036854775807]⟩ ∧ Ext m m' := by
 refine Fc.body (c := _) func79 rfl rfl rfl rfl hm ?_
 refine .seq (.region (.P2 ?_))
 refine .nil (.seq (.seq (.seq (.region (.P2 ?_)))))
 refine .nil (.seq (.cond_false rfl (.skip (.seq (.seq (.region (.P2 ?_)))))))
 refine .nil (.seq (.ret ?_))
 exact .end_ rfl rfl (fun m hm => ⟨rfl, hm.ext⟩)
theorem near_nan_3 {w : Nat} {m : AW} (hm : m.lo ≤ m.next) (hn : nanB w = true) : Fc prog 57 [.int .i64 3, .float .f64 w] m fun v m' => v = .int .i64 0 ∧ Ext m m' := by
 refine Fc.body (c := _) func57 rfl rfl rfl rfl hm ?_
 refine .seq (.region (.P ?_))
 refine .nil (.seq (.seq (.region (.P ?_))))
 refine .call _ rfl rfl rfl rfl rfl rfl (fun m hm => ends_3 hm.lole) ?_
 iterate 5 refine .P ?_
 refine .nil (.seq (.seq (.block (.seq (.region ?_)))))
 iterate 4 refine .P ?_
 refine .nil (.seq ?_)
 refine .cond_true (by rw [order_self, hn]; rfl) ?_
 refine .seq (.region (.P ?_))
 refine .nil (.seq (.ret (.blk (.seq ?_))))
 exact .end_ rfl rfl (fun m hm => ⟨rfl, hm.ext⟩)
theorem near_num_3 {w : Nat} {m : AW} (hm : m.lo ≤ m.next) (hw : w < 18446744073709551616) (hn : nanB w = false) : Fc prog 57 [.int .i64 3, .float .f64 w] m fun v m' => v = .int .i64 (clampV (-9223372036854775808) 9223372036854775807 (valR w)) ∧ Ext m m' := by
 have hp := hU_pos
 refine Fc.body (c := _) func57 rfl rfl rfl rfl hm ?_
 refine .seq (.region (.P ?_))
 refine .nil (.seq (.seq (.region (.P ?_))))
 refine .call _ rfl rfl rfl rfl rfl rfl (fun m hm => ends_3 hm.lole) ?_
 iterate 5 refine .P ?_
 refine .nil (.seq (.seq (.block (.seq (.region ?_)))))
 iterate 4 refine .P ?_
 refine .nil (.seq ?_)
 refine .cond_false (by rw [order_self, hn]; rfl) ?_
 refine .seq (.region (.P2 ?_))
 refine .as 20 (.bool (decide (9223372036854775808 * ((2 * hU : Nat) : Int) ≤ sg (sgR w) (szR w)))) rfl (congrArg Value.bool (geq_ord (ord_read hn) endHi)) ?_
 refine .P ?_
 refine .nil (.seq (.cond rfl (fun ht18 => ?_) fun ht18 => ?_))
 ·(try simp only [decide_eq_true_eq, decide_eq_false_iff_not, nrm_lt, nrm_nlt, nrm_eq, nrm_neq, nrm_seq, nrm_sneq, nrm_sempty, nrm_snempty, nrm_ofNat, Bool.not_eq_true', Bool.not_eq_false'] at ht18)
  have hv := val_hi ht18
  refine .seq (.region (.P2 ?_))
  refine .nil (.seq (.ret (.blk (.seq ?_))))
  exact .end_ rfl rfl (fun m hm => ⟨congrArg (Value.int .i64) (by unfold clampV; rw [if_neg (by omega), if_pos (by omega)]), hm.ext⟩)
 (try simp only [decide_eq_true_eq, decide_eq_false_iff_not, nrm_lt, nrm_nlt, nrm_eq, nrm_neq, nrm_seq, nrm_sneq, nrm_sempty, nrm_snempty, nrm_ofNat, Bool.not_eq_true', Bool.not_eq_false'] at ht18)
 refine .seq (.region (.P2 ?_))
 refine .as 24 (.bool (decide (sg (sgR w) (szR w) ≤ -9223372036854775808 * ((2 * hU : Nat) : Int)))) rfl (congrArg Value.bool (leq_ord (ord_read hn) endLo)) ?_
 refine .P ?_
 refine .nil (.seq (.cond rfl (fun ht22 => ?_) fun ht22 => ?_))
 ·(try simp only [decide_eq_true_eq, decide_eq_false_iff_not, nrm_lt, nrm_nlt, nrm_eq, nrm_neq, nrm_seq, nrm_sneq, nrm_sempty, nrm_snempty, nrm_ofNat, Bool.not_eq_true', Bool.not_eq_false'] at ht22)
  have hv := val_lo ht22
  refine .seq (.region (.P2 ?_))
  refine .nil (.seq (.ret (.blk (.seq ?_))))
  exact .end_ rfl rfl (fun m hm => ⟨congrArg (Value.int .i64) (by unfold clampV; rw [if_pos (by omega)]), hm.ext⟩)
 (try simp only [decide_eq_true_eq, decide_eq_false_iff_not, nrm_lt, nrm_nlt, nrm_eq, nrm_neq, nrm_seq, nrm_sneq, nrm_sempty, nrm_snempty, nrm_ofNat, Bool.not_eq_true', Bool.not_eq_false'] at ht22)
 obtain ⟨n, r, u, R, hn1, hn2, hn3, hn4, hn5, hn6, hn7, hn8⟩ := near_facts hw hn ht18 ht22
 refine .skip (.blk (.seq (.seq (.region (.P ?_)))))
 refine .convFI rfl rfl rfl rfl underlying63 underlying2 rfl (hn1) ?_
 refine .P ?_
 refine .nil (.seq (.seq (.region (.P2 ?_))))
 refine .convIF rfl rfl rfl rfl underlying2 underlying63 rfl ?_
 refine .bin rfl rfl rfl rfl rfl rfl (binS_fsub hn2) ?_
 refine .P ?_
 refine .nil (.seq (.seq (.seq (.region (.P2 ?_)))))
 refine .as 33 (.bool (decide ((hU : Int) ≤ sg u R))) rfl (congrArg Value.bool (geq_half hn3)) ?_
 refine .nil (.seq (.cond rfl (fun ht33 => ?_) fun ht33 => ?_))
 ·(try simp only [decide_eq_true_eq, decide_eq_false_iff_not, nrm_lt, nrm_nlt, nrm_eq, nrm_neq, nrm_seq, nrm_sneq, nrm_sempty, nrm_snempty, nrm_ofNat, Bool.not_eq_true', Bool.not_eq_false'] at ht33)
  obtain ⟨hn6, hn6b⟩ := hn6 ht33
  refine .region (.P2 ?_)
  refine .as 35 (.int .i64 (n + 1)) rfl (congrArg (Value.int .i64) ((by rw [wr_in (show (-9223372036854775808 : Int) ≤ _ by omega) (show _ ≤ (9223372036854775807 : Int) by omega)]))) ?_
  refine .P ?_
  refine .nil (.seq (.seq (.seq (.region (.P2 ?_)))))
  refine .as 37 (.bool (decide (sg u R ≤ -(hU : Int)))) rfl (congrArg Value.bool (leq_half hn3)) ?_
  refine .nil (.seq (.cond rfl (fun ht37 => ?_) fun ht37 => ?_))
  ·(try simp only [decide_eq_true_eq, decide_eq_false_iff_not, nrm_lt, nrm_nlt, nrm_eq, nrm_neq, nrm_seq, nrm_sneq, nrm_sempty, nrm_snempty, nrm_ofNat, Bool.not_eq_true', Bool.not_eq_false'] at ht37)
   exfalso; omega
  (try simp only [decide_eq_true_eq, decide_eq_false_iff_not, nrm_lt, nrm_nlt, nrm_eq, nrm_neq, nrm_seq, nrm_sneq, nrm_sempty, nrm_snempty, nrm_ofNat, Bool.not_eq_true', Bool.not_eq_false'] at ht37)
  refine .skip (.seq (.seq (.region (.P3 ?_))))
  refine .min rfl rfl rfl rfl rfl rfl (.max rfl rfl rfl rfl rfl rfl (.P ?_))
  refine .nil (.seq (.ret ?_))
  exact .end_ rfl rfl (fun m hm => ⟨congrArg (Value.int .i64) (by rw [hn6]; exact clamp_min (by omega)), hm.ext⟩)
 (try simp only [decide_eq_true_eq, decide_eq_false_iff_not, nrm_lt, nrm_nlt, nrm_eq, nrm_neq, nrm_seq, nrm_sneq, nrm_sempty, nrm_snempty, nrm_ofNat, Bool.not_eq_true', Bool.not_eq_false'] at ht33)
 refine .skip (.seq (.seq (.seq (.region (.P2 ?_)))))
 refine .as 37 (.bool (decide (sg u R ≤ -(hU : Int)))) rfl (congrArg Value.bool (leq_half hn3)) ?_
 refine .nil (.seq (.cond rfl (fun ht37 => ?_) fun ht37 => ?_))
 ·(try simp only [decide_eq_true_eq, decide_eq_false_iff_not, nrm_lt, nrm_nlt, nrm_eq, nrm_neq, nrm_seq, nrm_sneq, nrm_sempty, nrm_snempty, nrm_ofNat, Bool.not_eq_true', Bool.not_eq_false'] at ht37)
  obtain ⟨hn7, hn7b⟩ := hn7 ht37
  refine .region (.P2 ?_)
  refine .as 39 (.int .i64 (n - 1)) rfl (congrArg (Value.int .i64) ((by rw [wr_in (show (-9223372036854775808 : Int) ≤ _ by omega) (show _ ≤ (9223372036854775807 : Int) by omega)]))) ?_
  refine .P ?_
  refine .nil (.seq (.seq (.region (.P3 ?_))))
  refine .min rfl rfl rfl rfl rfl rfl (.max rfl rfl rfl rfl rfl rfl (.P ?_))
  refine .nil (.seq (.ret ?_))
  exact .end_ rfl rfl (fun m hm => ⟨congrArg (Value.int .i64) (by rw [hn7]; exact clamp_min (by omega)), hm.ext⟩)
 (try simp only [decide_eq_true_eq, decide_eq_false_iff_not, nrm_lt, nrm_nlt, nrm_eq, nrm_neq, nrm_seq, nrm_sneq, nrm_sempty, nrm_snempty, nrm_ofNat, Bool.not_eq_true', Bool.not_eq_false'] at ht37)
 refine .skip (.seq (.seq (.region (.P3 ?_))))
 refine .min rfl rfl rfl rfl rfl rfl (.max rfl rfl rfl rfl rfl rfl (.P ?_))
 refine .nil (.seq (.ret ?_))
 exact .end_ rfl rfl (fun m hm => ⟨congrArg (Value.int .i64) (by rw [hn8 ht33 ht37]; exact clamp_min (by omega)), hm.ext⟩)
theorem near_2 {w : Nat} {m : AW} (hm : m.lo ≤ m.next) (hw : w < 18446744073709551616) : Fc prog 57 [.int .i64 2, .float .f64 w] m fun v m' => v = .int .i64 (convR (-2147483648) 2147483647 w) ∧ Ext m m' := by
 cases h : nanB w with
 | true => rw [convR_nan h]; exact near_nan_2 hm h
 | false => rw [convR_num h]; exact near_num_2 hm hw h
theorem near_3 {w : Nat} {m : AW} (hm : m.lo ≤ m.next) (hw : w < 18446744073709551616) : Fc prog 57 [.int .i64 3, .float .f64 w] m fun v m' => v = .int .i64 (convR (-9223372036854775808) 9223372036854775807 w) ∧ Ext m m' := by
 cases h : nanB w with
 | true => rw [convR_nan h]; exact near_nan_3 hm h
 | false => rw [convR_num h]; exact near_num_3 hm hw h
theorem w4_bits {b : Nat} (hb : b < 18446744073709551616) : w4 (wr .i64 (Int.ofNat b)) = bitsV b := by
 unfold w4 bitsV
 rw [flb_back b hb]
theorem RBits_ok {b : Nat} {m : AW} (hm : m.lo ≤ m.next) (hb : b < 18446744073709551616) : Fc prog 58 [.float .f64 b] m fun v m' => v = .int .i64 (bitsV b) ∧ Ext m m' := by
 refine Fc.body (c := _) func58 rfl rfl rfl rfl hm ?_
 refine .seq (.region (.P ?_))
 refine .nil (.seq (.seq (.region (.P ?_))))
 refine .call _ rfl rfl rfl rfl rfl rfl (fun m hm => tobits_ok) ?_
 refine .convInt rfl rfl rfl rfl underlying34 underlying2 rfl ?_
 refine .call _ rfl rfl rfl rfl rfl rfl (fun m hm => RWrap_real hm.lole (Fit.wr _ _)) ?_
 refine .P ?_
 refine .nil (.seq (.ret ?_))
 exact .end_ rfl rfl (fun m hm => ⟨congrArg (Value.int .i64) (w4_bits hb), hm.ext⟩)
theorem Convert_u8_u8 {n : Int} {m : AW} (hm : m.lo ≤ m.next) (h : Fit .i64 n) : Fc prog 32 [.int .i64 1, .int .i64 1, .int .i64 n] m fun v m' => v = .tuple ⟨[.int .i64 (wr .u8 (wr .u8 n)), .int .i64 0]⟩ ∧ Ext m m' := by
 refine Fc.body (c := _) func32 rfl rfl rfl rfl hm ?_
 refine .seq (.region (.P2 ?_))
 refine .nil (.seq (.seq (.region (.P ?_))))
 refine .calln _ _ _ rfl rfl rfl rfl rfl rfl (fun m hm => of_u8 hm.lole) (fun x hx => ?_)
 clear hx
 refine .P3 ?_
 refine .alloc rfl rfl rfl rfl zr59 (fun b8 hb8 => ?_)
 refine .S sz59 ?_
 refine .P ?_
 refine .nil (.seq (.seq (.seq (.region (.P2 ?_)))))
 refine .nil (.seq (.cond_false rfl (.skip (.seq (.seq (.region (.P ?_)))))))
 refine .calln _ _ _ rfl rfl rfl rfl rfl rfl (fun m hm => of_u8 hm.lole) (fun x hx => ?_)
 clear hx
 refine .P3 ?_
 refine .alloc rfl rfl rfl rfl zr59 (fun b10 hb10 => ?_)
 refine .S sz59 ?_
 refine .P ?_
 refine .nil (.seq (.seq (.seq (.region (.P2 ?_)))))
 refine .nil (.seq (.cond_false rfl (.skip (.seq (.seq (.region (.F fa59_0 ?_)))))))
 refine .L ag54 ?_
 refine .P ?_
 refine .call _ rfl rfl rfl rfl rfl rfl (fun m hm => cl_u8_1 hm.lole h) ?_
 refine .P ?_
 refine .nil (.seq (.seq (.block (.seq (.region ?_)))))
 iterate 7 refine .P ?_
 refine .nil (.seq (.cond_true rfl (.seq (.region (.F fa59_0 ?_)))))
 refine .L ag54 ?_
 refine .P ?_
 refine .call _ rfl rfl rfl rfl rfl rfl (fun m hm => cl_u8_1 hm.lole (Fit.wr .u8 n |>.le (by decide) (by decide))) ?_
 refine .P2 ?_
 refine .nil (.seq (.ret (.blk (.seq ?_))))
 exact .end_ rfl rfl (fun m hm => ⟨rfl, hm.ext⟩)
theorem RConvert_u8_u8 {n : Int} {m : AW} (hm : m.lo ≤ m.next) (h : Fit .i64 n) : Fc prog 33 [.int .i64 1, .int .i64 1, .int .i64 n] m fun v m' => v = .int .i64 (wr .u8 (wr .u8 n)) ∧ Ext m m' := by
 refine Fc.body (c := _) func33 rfl rfl rfl rfl hm ?_
 refine .seq (.region (.P ?_))
 refine .nil (.seq (.seq (.region (.P2 ?_))))
 refine .call _ rfl rfl rfl rfl rfl rfl (fun m hm => RWrap_u8 hm.lole h) ?_
 refine .P ?_
 refine .nil (.seq (.seq (.block (.seq (.region (.P3 ?_))))))
 iterate 2 refine .O ?_
 refine .P2 ?_
 refine .nil (.seq (.cond_false rfl (.seq (.region (.P3 ?_)))))
 iterate 2 refine .O ?_
 refine .P2 ?_
 refine .nil (.seq (.cond_false rfl (.seq (.region (.P3 ?_)))))
 refine .nil (.seq (.cond_false rfl (.seq (.region (.P3 ?_)))))
 refine .nil (.seq (.cond_false rfl (.skip (.blk (.seq (.seq (.region (.P2 ?_))))))))
 refine .call _ rfl rfl rfl rfl rfl rfl (fun m hm => RWrap_u8 hm.lole (Fit.wr .u8 n |>.le (by decide) (by decide))) ?_
 refine .P ?_
 refine .nil (.seq (.ret ?_))
 exact .end_ rfl rfl (fun m hm => ⟨rfl, hm.ext⟩)
theorem Convert_u8_i32 {n : Int} {m : AW} (hm : m.lo ≤ m.next) (h : Fit .i64 n) : Fc prog 32 [.int .i64 1, .int .i64 2, .int .i64 n] m fun v m' => v = .tuple ⟨[.int .i64 (wr .i32 (wr .u8 n)), .int .i64 0]⟩ ∧ Ext m m' := by
 refine Fc.body (c := _) func32 rfl rfl rfl rfl hm ?_
 refine .seq (.region (.P2 ?_))
 refine .nil (.seq (.seq (.region (.P ?_))))
 refine .calln _ _ _ rfl rfl rfl rfl rfl rfl (fun m hm => of_u8 hm.lole) (fun x hx => ?_)
 clear hx
 refine .P3 ?_
 refine .alloc rfl rfl rfl rfl zr59 (fun b8 hb8 => ?_)
 refine .S sz59 ?_
 refine .P ?_
 refine .nil (.seq (.seq (.seq (.region (.P2 ?_)))))
 refine .nil (.seq (.cond_false rfl (.skip (.seq (.seq (.region (.P ?_)))))))
 refine .calln _ _ _ rfl rfl rfl rfl rfl rfl (fun m hm => of_i32 hm.lole) (fun x hx => ?_)
 clear hx
 refine .P3 ?_
 refine .alloc rfl rfl rfl rfl zr59 (fun b10 hb10 => ?_)
 refine .S sz59 ?_
 refine .P ?_
 refine .nil (.seq (.seq (.seq (.region (.P2 ?_)))))
 refine .nil (.seq (.cond_false rfl (.skip (.seq (.seq (.region (.F fa59_0 ?_)))))))
 refine .L ag54 ?_
 refine .P ?_
 refine .call _ rfl rfl rfl rfl rfl rfl (fun m hm => cl_u8_1 hm.lole h) ?_
 refine .P ?_
 refine .nil (.seq (.seq (.block (.seq (.region ?_)))))
 iterate 7 refine .P ?_
 refine .nil (.seq (.cond_true rfl (.seq (.region (.F fa59_0 ?_)))))
 refine .L ag54 ?_
 refine .P ?_
 refine .call _ rfl rfl rfl rfl rfl rfl (fun m hm => cl_i32_1 hm.lole (Fit.wr .u8 n |>.le (by decide) (by decide))) ?_
 refine .P2 ?_
 refine .nil (.seq (.ret (.blk (.seq ?_))))
 exact .end_ rfl rfl (fun m hm => ⟨rfl, hm.ext⟩)
theorem RConvert_u8_i32 {n : Int} {m : AW} (hm : m.lo ≤ m.next) (h : Fit .i64 n) : Fc prog 33 [.int .i64 1, .int .i64 2, .int .i64 n] m fun v m' => v = .int .i64 (wr .i32 (wr .u8 n)) ∧ Ext m m' := by
 refine Fc.body (c := _) func33 rfl rfl rfl rfl hm ?_
 refine .seq (.region (.P ?_))
 refine .nil (.seq (.seq (.region (.P2 ?_))))
 refine .call _ rfl rfl rfl rfl rfl rfl (fun m hm => RWrap_u8 hm.lole h) ?_
 refine .P ?_
 refine .nil (.seq (.seq (.block (.seq (.region (.P3 ?_))))))
 iterate 2 refine .O ?_
 refine .P2 ?_
 refine .nil (.seq (.cond_false rfl (.seq (.region (.P3 ?_)))))
 iterate 2 refine .O ?_
 refine .P2 ?_
 refine .nil (.seq (.cond_false rfl (.seq (.region (.P3 ?_)))))
 refine .nil (.seq (.cond_false rfl (.seq (.region (.P3 ?_)))))
 refine .nil (.seq (.cond_false rfl (.skip (.blk (.seq (.seq (.region (.P2 ?_))))))))
 refine .call _ rfl rfl rfl rfl rfl rfl (fun m hm => RWrap_i32 hm.lole (Fit.wr .u8 n |>.le (by decide) (by decide))) ?_
 refine .P ?_
 refine .nil (.seq (.ret ?_))
 exact .end_ rfl rfl (fun m hm => ⟨rfl, hm.ext⟩)
theorem Convert_u8_i64 {n : Int} {m : AW} (hm : m.lo ≤ m.next) (h : Fit .i64 n) : Fc prog 32 [.int .i64 1, .int .i64 3, .int .i64 n] m fun v m' => v = .tuple ⟨[.int .i64 (wr .i64 (wr .u8 n)), .int .i64 0]⟩ ∧ Ext m m' := by
 refine Fc.body (c := _) func32 rfl rfl rfl rfl hm ?_
 refine .seq (.region (.P2 ?_))
 refine .nil (.seq (.seq (.region (.P ?_))))
 refine .calln _ _ _ rfl rfl rfl rfl rfl rfl (fun m hm => of_u8 hm.lole) (fun x hx => ?_)
 clear hx
 refine .P3 ?_
 refine .alloc rfl rfl rfl rfl zr59 (fun b8 hb8 => ?_)
 refine .S sz59 ?_
 refine .P ?_
 refine .nil (.seq (.seq (.seq (.region (.P2 ?_)))))
 refine .nil (.seq (.cond_false rfl (.skip (.seq (.seq (.region (.P ?_)))))))
 refine .calln _ _ _ rfl rfl rfl rfl rfl rfl (fun m hm => of_i64 hm.lole) (fun x hx => ?_)
 clear hx
 refine .P3 ?_
 refine .alloc rfl rfl rfl rfl zr59 (fun b10 hb10 => ?_)
 refine .S sz59 ?_
 refine .P ?_
 refine .nil (.seq (.seq (.seq (.region (.P2 ?_)))))
 refine .nil (.seq (.cond_false rfl (.skip (.seq (.seq (.region (.F fa59_0 ?_)))))))
 refine .L ag54 ?_
 refine .P ?_
 refine .call _ rfl rfl rfl rfl rfl rfl (fun m hm => cl_u8_1 hm.lole h) ?_
 refine .P ?_
 refine .nil (.seq (.seq (.block (.seq (.region ?_)))))
 iterate 7 refine .P ?_
 refine .nil (.seq (.cond_true rfl (.seq (.region (.F fa59_0 ?_)))))
 refine .L ag54 ?_
 refine .P ?_
 refine .call _ rfl rfl rfl rfl rfl rfl (fun m hm => cl_i64_1 hm.lole (Fit.wr .u8 n |>.le (by decide) (by decide))) ?_
 refine .P2 ?_
 refine .nil (.seq (.ret (.blk (.seq ?_))))
 exact .end_ rfl rfl (fun m hm => ⟨rfl, hm.ext⟩)
theorem RConvert_u8_i64 {n : Int} {m : AW} (hm : m.lo ≤ m.next) (h : Fit .i64 n) : Fc prog 33 [.int .i64 1, .int .i64 3, .int .i64 n] m fun v m' => v = .int .i64 (wr .i64 (wr .u8 n)) ∧ Ext m m' := by
 refine Fc.body (c := _) func33 rfl rfl rfl rfl hm ?_
 refine .seq (.region (.P ?_))
 refine .nil (.seq (.seq (.region (.P2 ?_))))
 refine .call _ rfl rfl rfl rfl rfl rfl (fun m hm => RWrap_u8 hm.lole h) ?_
 refine .P ?_
 refine .nil (.seq (.seq (.block (.seq (.region (.P3 ?_))))))
 iterate 2 refine .O ?_
 refine .P2 ?_
 refine .nil (.seq (.cond_false rfl (.seq (.region (.P3 ?_)))))
 iterate 2 refine .O ?_
 refine .P2 ?_
 refine .nil (.seq (.cond_false rfl (.seq (.region (.P3 ?_)))))
 refine .nil (.seq (.cond_false rfl (.seq (.region (.P3 ?_)))))
 refine .nil (.seq (.cond_false rfl (.skip (.blk (.seq (.seq (.region (.P2 ?_))))))))
 refine .call _ rfl rfl rfl rfl rfl rfl (fun m hm => RWrap_i64 hm.lole (Fit.wr .u8 n |>.le (by decide) (by decide))) ?_
 refine .P ?_
 refine .nil (.seq (.ret ?_))
 exact .end_ rfl rfl (fun m hm => ⟨rfl, hm.ext⟩)
theorem Convert_u8_real {n : Int} {m : AW} (hm : m.lo ≤ m.next) (h : Fit .i64 n) : Fc prog 32 [.int .i64 1, .int .i64 4, .int .i64 n] m fun v m' => v = .tuple ⟨[.int .i64 (bitsV (FloatKind.f64.nearest (wr .u8 n))), .int .i64 0]⟩ ∧ Ext m m' := by
 refine Fc.body (c := _) func32 rfl rfl rfl rfl hm ?_
 refine .seq (.region (.P2 ?_))
 refine .nil (.seq (.seq (.region (.P ?_))))
 refine .calln _ _ _ rfl rfl rfl rfl rfl rfl (fun m hm => of_u8 hm.lole) (fun x hx => ?_)
 clear hx
 refine .P3 ?_
 refine .alloc rfl rfl rfl rfl zr59 (fun b8 hb8 => ?_)
 refine .S sz59 ?_
 refine .P ?_
 refine .nil (.seq (.seq (.seq (.region (.P2 ?_)))))
 refine .nil (.seq (.cond_false rfl (.skip (.seq (.seq (.region (.P ?_)))))))
 refine .call _ rfl rfl rfl rfl rfl rfl (fun m hm => of_real hm.lole) ?_
 refine .P3 ?_
 refine .alloc rfl rfl rfl rfl zr59 (fun b10 hb10 => ?_)
 refine .S sz59 ?_
 refine .P ?_
 refine .nil (.seq (.seq (.seq (.region (.P2 ?_)))))
 refine .nil (.seq (.cond_false rfl (.skip (.seq (.seq (.region (.F fa59_0 ?_)))))))
 refine .L ag54 ?_
 refine .P ?_
 refine .call _ rfl rfl rfl rfl rfl rfl (fun m hm => cl_u8_1 hm.lole h) ?_
 refine .P ?_
 refine .nil (.seq (.seq (.block (.seq (.region ?_)))))
 iterate 7 refine .P ?_
 refine .nil (.seq (.cond_false rfl (.seq (.region (.P3 ?_)))))
 refine .nil (.seq (.cond_true rfl (.seq (.region (.P ?_)))))
 refine .convIF rfl rfl rfl rfl underlying2 underlying63 rfl ?_
 refine .call _ rfl rfl rfl rfl rfl rfl (fun m hm => bits_ok hm.lole) ?_
 refine .P2 ?_
 refine .nil (.seq (.ret (.blk (.seq ?_))))
 exact .end_ rfl rfl (fun m hm => ⟨rfl, hm.ext⟩)
theorem RConvert_u8_real {n : Int} {m : AW} (hm : m.lo ≤ m.next) (h : Fit .i64 n) : Fc prog 33 [.int .i64 1, .int .i64 4, .int .i64 n] m fun v m' => v = .int .i64 (bitsV (FloatKind.f64.nearest (wr .u8 n))) ∧ Ext m m' := by
 refine Fc.body (c := _) func33 rfl rfl rfl rfl hm ?_
 refine .seq (.region (.P ?_))
 refine .nil (.seq (.seq (.region (.P2 ?_))))
 refine .call _ rfl rfl rfl rfl rfl rfl (fun m hm => RWrap_u8 hm.lole h) ?_
 refine .P ?_
 refine .nil (.seq (.seq (.block (.seq (.region (.P3 ?_))))))
 iterate 2 refine .O ?_
 refine .P2 ?_
 refine .nil (.seq (.cond_false rfl (.seq (.region (.P3 ?_)))))
 iterate 2 refine .O ?_
 refine .P2 ?_
 refine .nil (.seq (.cond_false rfl (.seq (.region (.P3 ?_)))))
 refine .nil (.seq (.cond_false rfl (.seq (.region (.P3 ?_)))))
 refine .nil (.seq (.cond_true rfl (.seq (.region (.P ?_)))))
 refine .convIF rfl rfl rfl rfl underlying2 underlying63 rfl ?_
 refine .call _ rfl rfl rfl rfl rfl rfl (fun m hm => RBits_ok hm.lole (near_lt _)) ?_
 refine .P ?_
 refine .nil (.seq (.ret (.blk (.seq ?_))))
 exact .end_ rfl rfl (fun m hm => ⟨rfl, hm.ext⟩)
theorem Convert_i32_u8 {n : Int} {m : AW} (hm : m.lo ≤ m.next) (h : Fit .i64 n) : Fc prog 32 [.int .i64 2, .int .i64 1, .int .i64 n] m fun v m' => v = .tuple ⟨[.int .i64 (wr .u8 (wr .i32 n)), .int .i64 0]⟩ ∧ Ext m m' := by
 refine Fc.body (c := _) func32 rfl rfl rfl rfl hm ?_
 refine .seq (.region (.P2 ?_))
 refine .nil (.seq (.seq (.region (.P ?_))))
 refine .calln _ _ _ rfl rfl rfl rfl rfl rfl (fun m hm => of_i32 hm.lole) (fun x hx => ?_)
 clear hx
 refine .P3 ?_
 refine .alloc rfl rfl rfl rfl zr59 (fun b8 hb8 => ?_)
 refine .S sz59 ?_
 refine .P ?_
 refine .nil (.seq (.seq (.seq (.region (.P2 ?_)))))
 refine .nil (.seq (.cond_false rfl (.skip (.seq (.seq (.region (.P ?_)))))))
 refine .calln _ _ _ rfl rfl rfl rfl rfl rfl (fun m hm => of_u8 hm.lole) (fun x hx => ?_)
 clear hx
 refine .P3 ?_
 refine .alloc rfl rfl rfl rfl zr59 (fun b10 hb10 => ?_)
 refine .S sz59 ?_
 refine .P ?_
 refine .nil (.seq (.seq (.seq (.region (.P2 ?_)))))
 refine .nil (.seq (.cond_false rfl (.skip (.seq (.seq (.region (.F fa59_0 ?_)))))))
 refine .L ag54 ?_
 refine .P ?_
 refine .call _ rfl rfl rfl rfl rfl rfl (fun m hm => cl_i32_1 hm.lole h) ?_
 refine .P ?_
 refine .nil (.seq (.seq (.block (.seq (.region ?_)))))
 iterate 7 refine .P ?_
 refine .nil (.seq (.cond_true rfl (.seq (.region (.F fa59_0 ?_)))))
 refine .L ag54 ?_
 refine .P ?_
 refine .call _ rfl rfl rfl rfl rfl rfl (fun m hm => cl_u8_1 hm.lole (Fit.wr .i32 n |>.le (by decide) (by decide))) ?_
 refine .P2 ?_
 refine .nil (.seq (.ret (.blk (.seq ?_))))
 exact .end_ rfl rfl (fun m hm => ⟨rfl, hm.ext⟩)
theorem RConvert_i32_u8 {n : Int} {m : AW} (hm : m.lo ≤ m.next) (h : Fit .i64 n) : Fc prog 33 [.int .i64 2, .int .i64 1, .int .i64 n] m fun v m' => v = .int .i64 (wr .u8 (wr .i32 n)) ∧ Ext m m' := by
 refine Fc.body (c := _) func33 rfl rfl rfl rfl hm ?_
 refine .seq (.region (.P ?_))
 refine .nil (.seq (.seq (.region (.P2 ?_))))
 refine .call _ rfl rfl rfl rfl rfl rfl (fun m hm => RWrap_i32 hm.lole h) ?_
 refine .P ?_
 refine .nil (.seq (.seq (.block (.seq (.region (.P3 ?_))))))
 iterate 2 refine .O ?_
 refine .P2 ?_
 refine .nil (.seq (.cond_false rfl (.seq (.region (.P3 ?_)))))
 iterate 2 refine .O ?_
 refine .P2 ?_
 refine .nil (.seq (.cond_false rfl (.seq (.region (.P3 ?_)))))
 refine .nil (.seq (.cond_false rfl (.seq (.region (.P3 ?_)))))
 refine .nil (.seq (.cond_false rfl (.skip (.blk (.seq (.seq (.region (.P2 ?_))))))))
 refine .call _ rfl rfl rfl rfl rfl rfl (fun m hm => RWrap_u8 hm.lole (Fit.wr .i32 n |>.le (by decide) (by decide))) ?_
 refine .P ?_
 refine .nil (.seq (.ret ?_))
 exact .end_ rfl rfl (fun m hm => ⟨rfl, hm.ext⟩)
theorem Convert_i32_i32 {n : Int} {m : AW} (hm : m.lo ≤ m.next) (h : Fit .i64 n) : Fc prog 32 [.int .i64 2, .int .i64 2, .int .i64 n] m fun v m' => v = .tuple ⟨[.int .i64 (wr .i32 (wr .i32 n)), .int .i64 0]⟩ ∧ Ext m m' := by
 refine Fc.body (c := _) func32 rfl rfl rfl rfl hm ?_
 refine .seq (.region (.P2 ?_))
 refine .nil (.seq (.seq (.region (.P ?_))))
 refine .calln _ _ _ rfl rfl rfl rfl rfl rfl (fun m hm => of_i32 hm.lole) (fun x hx => ?_)
 clear hx
 refine .P3 ?_
 refine .alloc rfl rfl rfl rfl zr59 (fun b8 hb8 => ?_)
 refine .S sz59 ?_
 refine .P ?_
 refine .nil (.seq (.seq (.seq (.region (.P2 ?_)))))
 refine .nil (.seq (.cond_false rfl (.skip (.seq (.seq (.region (.P ?_)))))))
 refine .calln _ _ _ rfl rfl rfl rfl rfl rfl (fun m hm => of_i32 hm.lole) (fun x hx => ?_)
 clear hx
 refine .P3 ?_
 refine .alloc rfl rfl rfl rfl zr59 (fun b10 hb10 => ?_)
 refine .S sz59 ?_
 refine .P ?_
 refine .nil (.seq (.seq (.seq (.region (.P2 ?_)))))
 refine .nil (.seq (.cond_false rfl (.skip (.seq (.seq (.region (.F fa59_0 ?_)))))))
 refine .L ag54 ?_
 refine .P ?_
 refine .call _ rfl rfl rfl rfl rfl rfl (fun m hm => cl_i32_1 hm.lole h) ?_
 refine .P ?_
 refine .nil (.seq (.seq (.block (.seq (.region ?_)))))
 iterate 7 refine .P ?_
 refine .nil (.seq (.cond_true rfl (.seq (.region (.F fa59_0 ?_)))))
 refine .L ag54 ?_
 refine .P ?_
 refine .call _ rfl rfl rfl rfl rfl rfl (fun m hm => cl_i32_1 hm.lole (Fit.wr .i32 n |>.le (by decide) (by decide))) ?_
 refine .P2 ?_
 refine .nil (.seq (.ret (.blk (.seq ?_))))
 exact .end_ rfl rfl (fun m hm => ⟨rfl, hm.ext⟩)
theorem RConvert_i32_i32 {n : Int} {m : AW} (hm : m.lo ≤ m.next) (h : Fit .i64 n) : Fc prog 33 [.int .i64 2, .int .i64 2, .int .i64 n] m fun v m' => v = .int .i64 (wr .i32 (wr .i32 n)) ∧ Ext m m' := by
 refine Fc.body (c := _) func33 rfl rfl rfl rfl hm ?_
 refine .seq (.region (.P ?_))
 refine .nil (.seq (.seq (.region (.P2 ?_))))
 refine .call _ rfl rfl rfl rfl rfl rfl (fun m hm => RWrap_i32 hm.lole h) ?_
 refine .P ?_
 refine .nil (.seq (.seq (.block (.seq (.region (.P3 ?_))))))
 iterate 2 refine .O ?_
 refine .P2 ?_
 refine .nil (.seq (.cond_false rfl (.seq (.region (.P3 ?_)))))
 iterate 2 refine .O ?_
 refine .P2 ?_
 refine .nil (.seq (.cond_false rfl (.seq (.region (.P3 ?_)))))
 refine .nil (.seq (.cond_false rfl (.seq (.region (.P3 ?_)))))
 refine .nil (.seq (.cond_false rfl (.skip (.blk (.seq (.seq (.region (.P2 ?_))))))))
 refine .call _ rfl rfl rfl rfl rfl rfl (fun m hm => RWrap_i32 hm.lole (Fit.wr .i32 n |>.le (by decide) (by decide))) ?_
 refine .P ?_
 refine .nil (.seq (.ret ?_))
 exact .end_ rfl rfl (fun m hm => ⟨rfl, hm.ext⟩)
theorem Convert_i32_i64 {n : Int} {m : AW} (hm : m.lo ≤ m.next) (h : Fit .i64 n) : Fc prog 32 [.int .i64 2, .int .i64 3, .int .i64 n] m fun v m' => v = .tuple ⟨[.int .i64 (wr .i64 (wr .i32 n)), .int .i64 0]⟩ ∧ Ext m m' := by
 refine Fc.body (c := _) func32 rfl rfl rfl rfl hm ?_
 refine .seq (.region (.P2 ?_))
 refine .nil (.seq (.seq (.region (.P ?_))))
 refine .calln _ _ _ rfl rfl rfl rfl rfl rfl (fun m hm => of_i32 hm.lole) (fun x hx => ?_)
 clear hx
 refine .P3 ?_
 refine .alloc rfl rfl rfl rfl zr59 (fun b8 hb8 => ?_)
 refine .S sz59 ?_
 refine .P ?_
 refine .nil (.seq (.seq (.seq (.region (.P2 ?_)))))
 refine .nil (.seq (.cond_false rfl (.skip (.seq (.seq (.region (.P ?_)))))))
 refine .calln _ _ _ rfl rfl rfl rfl rfl rfl (fun m hm => of_i64 hm.lole) (fun x hx => ?_)
 clear hx
 refine .P3 ?_
 refine .alloc rfl rfl rfl rfl zr59 (fun b10 hb10 => ?_)
 refine .S sz59 ?_
 refine .P ?_
 refine .nil (.seq (.seq (.seq (.region (.P2 ?_)))))
 refine .nil (.seq (.cond_false rfl (.skip (.seq (.seq (.region (.F fa59_0 ?_)))))))
 refine .L ag54 ?_
 refine .P ?_
 refine .call _ rfl rfl rfl rfl rfl rfl (fun m hm => cl_i32_1 hm.lole h) ?_
 refine .P ?_
 refine .nil (.seq (.seq (.block (.seq (.region ?_)))))
 iterate 7 refine .P ?_
 refine .nil (.seq (.cond_true rfl (.seq (.region (.F fa59_0 ?_)))))
 refine .L ag54 ?_
 refine .P ?_
 refine .call _ rfl rfl rfl rfl rfl rfl (fun m hm => cl_i64_1 hm.lole (Fit.wr .i32 n |>.le (by decide) (by decide))) ?_
 refine .P2 ?_
 refine .nil (.seq (.ret (.blk (.seq ?_))))
 exact .end_ rfl rfl (fun m hm => ⟨rfl, hm.ext⟩)
theorem RConvert_i32_i64 {n : Int} {m : AW} (hm : m.lo ≤ m.next) (h : Fit .i64 n) : Fc prog 33 [.int .i64 2, .int .i64 3, .int .i64 n] m fun v m' => v = .int .i64 (wr .i64 (wr .i32 n)) ∧ Ext m m' := by
 refine Fc.body (c := _) func33 rfl rfl rfl rfl hm ?_
 refine .seq (.region (.P ?_))
 refine .nil (.seq (.seq (.region (.P2 ?_))))
 refine .call _ rfl rfl rfl rfl rfl rfl (fun m hm => RWrap_i32 hm.lole h) ?_
 refine .P ?_
 refine .nil (.seq (.seq (.block (.seq (.region (.P3 ?_))))))
 iterate 2 refine .O ?_
 refine .P2 ?_
 refine .nil (.seq (.cond_false rfl (.seq (.region (.P3 ?_)))))
 iterate 2 refine .O ?_
 refine .P2 ?_
 refine .nil (.seq (.cond_false rfl (.seq (.region (.P3 ?_)))))
 refine .nil (.seq (.cond_false rfl (.seq (.region (.P3 ?_)))))
 refine .nil (.seq (.cond_false rfl (.skip (.blk (.seq (.seq (.region (.P2 ?_))))))))
 refine .call _ rfl rfl rfl rfl rfl rfl (fun m hm => RWrap_i64 hm.lole (Fit.wr .i32 n |>.le (by decide) (by decide))) ?_
 refine .P ?_
 refine .nil (.seq (.ret ?_))
 exact .end_ rfl rfl (fun m hm => ⟨rfl, hm.ext⟩)
theorem Convert_i32_real {n : Int} {m : AW} (hm : m.lo ≤ m.next) (h : Fit .i64 n) : Fc prog 32 [.int .i64 2, .int .i64 4, .int .i64 n] m fun v m' => v = .tuple ⟨[.int .i64 (bitsV (FloatKind.f64.nearest (wr .i32 n))), .int .i64 0]⟩ ∧ Ext m m' := by
 refine Fc.body (c := _) func32 rfl rfl rfl rfl hm ?_
 refine .seq (.region (.P2 ?_))
 refine .nil (.seq (.seq (.region (.P ?_))))
 refine .calln _ _ _ rfl rfl rfl rfl rfl rfl (fun m hm => of_i32 hm.lole) (fun x hx => ?_)
 clear hx
 refine .P3 ?_
 refine .alloc rfl rfl rfl rfl zr59 (fun b8 hb8 => ?_)
 refine .S sz59 ?_
 refine .P ?_
 refine .nil (.seq (.seq (.seq (.region (.P2 ?_)))))
 refine .nil (.seq (.cond_false rfl (.skip (.seq (.seq (.region (.P ?_)))))))
 refine .call _ rfl rfl rfl rfl rfl rfl (fun m hm => of_real hm.lole) ?_
 refine .P3 ?_
 refine .alloc rfl rfl rfl rfl zr59 (fun b10 hb10 => ?_)
 refine .S sz59 ?_
 refine .P ?_
 refine .nil (.seq (.seq (.seq (.region (.P2 ?_)))))
 refine .nil (.seq (.cond_false rfl (.skip (.seq (.seq (.region (.F fa59_0 ?_)))))))
 refine .L ag54 ?_
 refine .P ?_
 refine .call _ rfl rfl rfl rfl rfl rfl (fun m hm => cl_i32_1 hm.lole h) ?_
 refine .P ?_
 refine .nil (.seq (.seq (.block (.seq (.region ?_)))))
 iterate 7 refine .P ?_
 refine .nil (.seq (.cond_false rfl (.seq (.region (.P3 ?_)))))
 refine .nil (.seq (.cond_true rfl (.seq (.region (.P ?_)))))
 refine .convIF rfl rfl rfl rfl underlying2 underlying63 rfl ?_
 refine .call _ rfl rfl rfl rfl rfl rfl (fun m hm => bits_ok hm.lole) ?_
 refine .P2 ?_
 refine .nil (.seq (.ret (.blk (.seq ?_))))
 exact .end_ rfl rfl (fun m hm => ⟨rfl, hm.ext⟩)
theorem RConvert_i32_real {n : Int} {m : AW} (hm : m.lo ≤ m.next) (h : Fit .i64 n) : Fc prog 33 [.int .i64 2, .int .i64 4, .int .i64 n] m fun v m' => v = .int .i64 (bitsV (FloatKind.f64.nearest (wr .i32 n))) ∧ Ext m m' := by
 refine Fc.body (c := _) func33 rfl rfl rfl rfl hm ?_
 refine .seq (.region (.P ?_))
 refine .nil (.seq (.seq (.region (.P2 ?_))))
 refine .call _ rfl rfl rfl rfl rfl rfl (fun m hm => RWrap_i32 hm.lole h) ?_
 refine .P ?_
 refine .nil (.seq (.seq (.block (.seq (.region (.P3 ?_))))))
 iterate 2 refine .O ?_
 refine .P2 ?_
 refine .nil (.seq (.cond_false rfl (.seq (.region (.P3 ?_)))))
 iterate 2 refine .O ?_
 refine .P2 ?_
 refine .nil (.seq (.cond_false rfl (.seq (.region (.P3 ?_)))))
 refine .nil (.seq (.cond_false rfl (.seq (.region (.P3 ?_)))))
 refine .nil (.seq (.cond_true rfl (.seq (.region (.P ?_)))))
 refine .convIF rfl rfl rfl rfl underlying2 underlying63 rfl ?_
 refine .call _ rfl rfl rfl rfl rfl rfl (fun m hm => RBits_ok hm.lole (near_lt _)) ?_
 refine .P ?_
 refine .nil (.seq (.ret (.blk (.seq ?_))))
 exact .end_ rfl rfl (fun m hm => ⟨rfl, hm.ext⟩)
theorem Convert_i64_u8 {n : Int} {m : AW} (hm : m.lo ≤ m.next) (h : Fit .i64 n) : Fc prog 32 [.int .i64 3, .int .i64 1, .int .i64 n] m fun v m' => v = .tuple ⟨[.int .i64 (wr .u8 (wr .i64 n)), .int .i64 0]⟩ ∧ Ext m m' := by
 refine Fc.body (c := _) func32 rfl rfl rfl rfl hm ?_
 refine .seq (.region (.P2 ?_))
 refine .nil (.seq (.seq (.region (.P ?_))))
 refine .calln _ _ _ rfl rfl rfl rfl rfl rfl (fun m hm => of_i64 hm.lole) (fun x hx => ?_)
 clear hx
 refine .P3 ?_
 refine .alloc rfl rfl rfl rfl zr59 (fun b8 hb8 => ?_)
 refine .S sz59 ?_
 refine .P ?_
 refine .nil (.seq (.seq (.seq (.region (.P2 ?_)))))
 refine .nil (.seq (.cond_false rfl (.skip (.seq (.seq (.region (.P ?_)))))))
 refine .calln _ _ _ rfl rfl rfl rfl rfl rfl (fun m hm => of_u8 hm.lole) (fun x hx => ?_)
 clear hx
 refine .P3 ?_
 refine .alloc rfl rfl rfl rfl zr59 (fun b10 hb10 => ?_)
 refine .S sz59 ?_
 refine .P ?_
 refine .nil (.seq (.seq (.seq (.region (.P2 ?_)))))
 refine .nil (.seq (.cond_false rfl (.skip (.seq (.seq (.region (.F fa59_0 ?_)))))))
 refine .L ag54 ?_
 refine .P ?_
 refine .call _ rfl rfl rfl rfl rfl rfl (fun m hm => cl_i64_1 hm.lole h) ?_
 refine .P ?_
 refine .nil (.seq (.seq (.block (.seq (.region ?_)))))
 iterate 7 refine .P ?_
 refine .nil (.seq (.cond_true rfl (.seq (.region (.F fa59_0 ?_)))))
 refine .L ag54 ?_
 refine .P ?_
 refine .call _ rfl rfl rfl rfl rfl rfl (fun m hm => cl_u8_1 hm.lole (Fit.wr .i64 n |>.le (by decide) (by decide))) ?_
 refine .P2 ?_
 refine .nil (.seq (.ret (.blk (.seq ?_))))
 exact .end_ rfl rfl (fun m hm => ⟨rfl, hm.ext⟩)
theorem RConvert_i64_u8 {n : Int} {m : AW} (hm : m.lo ≤ m.next) (h : Fit .i64 n) : Fc prog 33 [.int .i64 3, .int .i64 1, .int .i64 n] m fun v m' => v = .int .i64 (wr .u8 (wr .i64 n)) ∧ Ext m m' := by
 refine Fc.body (c := _) func33 rfl rfl rfl rfl hm ?_
 refine .seq (.region (.P ?_))
 refine .nil (.seq (.seq (.region (.P2 ?_))))
 refine .call _ rfl rfl rfl rfl rfl rfl (fun m hm => RWrap_i64 hm.lole h) ?_
 refine .P ?_
 refine .nil (.seq (.seq (.block (.seq (.region (.P3 ?_))))))
 iterate 2 refine .O ?_
 refine .P2 ?_
 refine .nil (.seq (.cond_false rfl (.seq (.region (.P3 ?_)))))
 iterate 2 refine .O ?_
 refine .P2 ?_
 refine .nil (.seq (.cond_false rfl (.seq (.region (.P3 ?_)))))
 refine .nil (.seq (.cond_false rfl (.seq (.region (.P3 ?_)))))
 refine .nil (.seq (.cond_false rfl (.skip (.blk (.seq (.seq (.region (.P2 ?_))))))))
 refine .call _ rfl rfl rfl rfl rfl rfl (fun m hm => RWrap_u8 hm.lole (Fit.wr .i64 n |>.le (by decide) (by decide))) ?_
 refine .P ?_
 refine .nil (.seq (.ret ?_))
 exact .end_ rfl rfl (fun m hm => ⟨rfl, hm.ext⟩)
theorem Convert_i64_i32 {n : Int} {m : AW} (hm : m.lo ≤ m.next) (h : Fit .i64 n) : Fc prog 32 [.int .i64 3, .int .i64 2, .int .i64 n] m fun v m' => v = .tuple ⟨[.int .i64 (wr .i32 (wr .i64 n)), .int .i64 0]⟩ ∧ Ext m m' := by
 refine Fc.body (c := _) func32 rfl rfl rfl rfl hm ?_
 refine .seq (.region (.P2 ?_))
 refine .nil (.seq (.seq (.region (.P ?_))))
 refine .calln _ _ _ rfl rfl rfl rfl rfl rfl (fun m hm => of_i64 hm.lole) (fun x hx => ?_)
 clear hx
 refine .P3 ?_
 refine .alloc rfl rfl rfl rfl zr59 (fun b8 hb8 => ?_)
 refine .S sz59 ?_
 refine .P ?_
 refine .nil (.seq (.seq (.seq (.region (.P2 ?_)))))
 refine .nil (.seq (.cond_false rfl (.skip (.seq (.seq (.region (.P ?_)))))))
 refine .calln _ _ _ rfl rfl rfl rfl rfl rfl (fun m hm => of_i32 hm.lole) (fun x hx => ?_)
 clear hx
 refine .P3 ?_
 refine .alloc rfl rfl rfl rfl zr59 (fun b10 hb10 => ?_)
 refine .S sz59 ?_
 refine .P ?_
 refine .nil (.seq (.seq (.seq (.region (.P2 ?_)))))
 refine .nil (.seq (.cond_false rfl (.skip (.seq (.seq (.region (.F fa59_0 ?_)))))))
 refine .L ag54 ?_
 refine .P ?_
 refine .call _ rfl rfl rfl rfl rfl rfl (fun m hm => cl_i64_1 hm.lole h) ?_
 refine .P ?_
 refine .nil (.seq (.seq (.block (.seq (.region ?_)))))
 iterate 7 refine .P ?_
 refine .nil (.seq (.cond_true rfl (.seq (.region (.F fa59_0 ?_)))))
 refine .L ag54 ?_
 refine .P ?_
 refine .call _ rfl rfl rfl rfl rfl rfl (fun m hm => cl_i32_1 hm.lole (Fit.wr .i64 n |>.le (by decide) (by decide))) ?_
 refine .P2 ?_
 refine .nil (.seq (.ret (.blk (.seq ?_))))
 exact .end_ rfl rfl (fun m hm => ⟨rfl, hm.ext⟩)
theorem RConvert_i64_i32 {n : Int} {m : AW} (hm : m.lo ≤ m.next) (h : Fit .i64 n) : Fc prog 33 [.int .i64 3, .int .i64 2, .int .i64 n] m fun v m' => v = .int .i64 (wr .i32 (wr .i64 n)) ∧ Ext m m' := by
 refine Fc.body (c := _) func33 rfl rfl rfl rfl hm ?_
 refine .seq (.region (.P ?_))
 refine .nil (.seq (.seq (.region (.P2 ?_))))
 refine .call _ rfl rfl rfl rfl rfl rfl (fun m hm => RWrap_i64 hm.lole h) ?_
 refine .P ?_
 refine .nil (.seq (.seq (.block (.seq (.region (.P3 ?_))))))
 iterate 2 refine .O ?_
 refine .P2 ?_
 refine .nil (.seq (.cond_false rfl (.seq (.region (.P3 ?_)))))
 iterate 2 refine .O ?_
 refine .P2 ?_
 refine .nil (.seq (.cond_false rfl (.seq (.region (.P3 ?_)))))
 refine .nil (.seq (.cond_false rfl (.seq (.region (.P3 ?_)))))
 refine .nil (.seq (.cond_false rfl (.skip (.blk (.seq (.seq (.region (.P2 ?_))))))))
 refine .call _ rfl rfl rfl rfl rfl rfl (fun m hm => RWrap_i32 hm.lole (Fit.wr .i64 n |>.le (by decide) (by decide))) ?_
 refine .P ?_
 refine .nil (.seq (.ret ?_))
 exact .end_ rfl rfl (fun m hm => ⟨rfl, hm.ext⟩)
theorem Convert_i64_i64 {n : Int} {m : AW} (hm : m.lo ≤ m.next) (h : Fit .i64 n) : Fc prog 32 [.int .i64 3, .int .i64 3, .int .i64 n] m fun v m' => v = .tuple ⟨[.int .i64 (wr .i64 (wr .i64 n)), .int .i64 0]⟩ ∧ Ext m m' := by
 refine Fc.body (c := _) func32 rfl rfl rfl rfl hm ?_
 refine .seq (.region (.P2 ?_))
 refine .nil (.seq (.seq (.region (.P ?_))))
 refine .calln _ _ _ rfl rfl rfl rfl rfl rfl (fun m hm => of_i64 hm.lole) (fun x hx => ?_)
 clear hx
 refine .P3 ?_
 refine .alloc rfl rfl rfl rfl zr59 (fun b8 hb8 => ?_)
 refine .S sz59 ?_
 refine .P ?_
 refine .nil (.seq (.seq (.seq (.region (.P2 ?_)))))
 refine .nil (.seq (.cond_false rfl (.skip (.seq (.seq (.region (.P ?_)))))))
 refine .calln _ _ _ rfl rfl rfl rfl rfl rfl (fun m hm => of_i64 hm.lole) (fun x hx => ?_)
 clear hx
 refine .P3 ?_
 refine .alloc rfl rfl rfl rfl zr59 (fun b10 hb10 => ?_)
 refine .S sz59 ?_
 refine .P ?_
 refine .nil (.seq (.seq (.seq (.region (.P2 ?_)))))
 refine .nil (.seq (.cond_false rfl (.skip (.seq (.seq (.region (.F fa59_0 ?_)))))))
 refine .L ag54 ?_
 refine .P ?_
 refine .call _ rfl rfl rfl rfl rfl rfl (fun m hm => cl_i64_1 hm.lole h) ?_
 refine .P ?_
 refine .nil (.seq (.seq (.block (.seq (.region ?_)))))
 iterate 7 refine .P ?_
 refine .nil (.seq (.cond_true rfl (.seq (.region (.F fa59_0 ?_)))))
 refine .L ag54 ?_
 refine .P ?_
 refine .call _ rfl rfl rfl rfl rfl rfl (fun m hm => cl_i64_1 hm.lole (Fit.wr .i64 n |>.le (by decide) (by decide))) ?_
 refine .P2 ?_
 refine .nil (.seq (.ret (.blk (.seq ?_))))
 exact .end_ rfl rfl (fun m hm => ⟨rfl, hm.ext⟩)
theorem RConvert_i64_i64 {n : Int} {m : AW} (hm : m.lo ≤ m.next) (h : Fit .i64 n) : Fc prog 33 [.int .i64 3, .int .i64 3, .int .i64 n] m fun v m' => v = .int .i64 (wr .i64 (wr .i64 n)) ∧ Ext m m' := by
 refine Fc.body (c := _) func33 rfl rfl rfl rfl hm ?_
 refine .seq (.region (.P ?_))
 refine .nil (.seq (.seq (.region (.P2 ?_))))
 refine .call _ rfl rfl rfl rfl rfl rfl (fun m hm => RWrap_i64 hm.lole h) ?_
 refine .P ?_
 refine .nil (.seq (.seq (.block (.seq (.region (.P3 ?_))))))
 iterate 2 refine .O ?_
 refine .P2 ?_
 refine .nil (.seq (.cond_false rfl (.seq (.region (.P3 ?_)))))
 iterate 2 refine .O ?_
 refine .P2 ?_
 refine .nil (.seq (.cond_false rfl (.seq (.region (.P3 ?_)))))
 refine .nil (.seq (.cond_false rfl (.seq (.region (.P3 ?_)))))
 refine .nil (.seq (.cond_false rfl (.skip (.blk (.seq (.seq (.region (.P2 ?_))))))))
 refine .call _ rfl rfl rfl rfl rfl rfl (fun m hm => RWrap_i64 hm.lole (Fit.wr .i64 n |>.le (by decide) (by decide))) ?_
 refine .P ?_
 refine .nil (.seq (.ret ?_))
 exact .end_ rfl rfl (fun m hm => ⟨rfl, hm.ext⟩)
theorem Convert_i64_real {n : Int} {m : AW} (hm : m.lo ≤ m.next) (h : Fit .i64 n) : Fc prog 32 [.int .i64 3, .int .i64 4, .int .i64 n] m fun v m' => v = .tuple ⟨[.int .i64 (bitsV (FloatKind.f64.nearest (wr .i64 n))), .int .i64 0]⟩ ∧ Ext m m' := by
 refine Fc.body (c := _) func32 rfl rfl rfl rfl hm ?_
 refine .seq (.region (.P2 ?_))
 refine .nil (.seq (.seq (.region (.P ?_))))
 refine .calln _ _ _ rfl rfl rfl rfl rfl rfl (fun m hm => of_i64 hm.lole) (fun x hx => ?_)
 clear hx
 refine .P3 ?_
 refine .alloc rfl rfl rfl rfl zr59 (fun b8 hb8 => ?_)
 refine .S sz59 ?_
 refine .P ?_
 refine .nil (.seq (.seq (.seq (.region (.P2 ?_)))))
 refine .nil (.seq (.cond_false rfl (.skip (.seq (.seq (.region (.P ?_)))))))
 refine .call _ rfl rfl rfl rfl rfl rfl (fun m hm => of_real hm.lole) ?_
 refine .P3 ?_
 refine .alloc rfl rfl rfl rfl zr59 (fun b10 hb10 => ?_)
 refine .S sz59 ?_
 refine .P ?_
 refine .nil (.seq (.seq (.seq (.region (.P2 ?_)))))
 refine .nil (.seq (.cond_false rfl (.skip (.seq (.seq (.region (.F fa59_0 ?_)))))))
 refine .L ag54 ?_
 refine .P ?_
 refine .call _ rfl rfl rfl rfl rfl rfl (fun m hm => cl_i64_1 hm.lole h) ?_
 refine .P ?_
 refine .nil (.seq (.seq (.block (.seq (.region ?_)))))
 iterate 7 refine .P ?_
 refine .nil (.seq (.cond_false rfl (.seq (.region (.P3 ?_)))))
 refine .nil (.seq (.cond_true rfl (.seq (.region (.P ?_)))))
 refine .convIF rfl rfl rfl rfl underlying2 underlying63 rfl ?_
 refine .call _ rfl rfl rfl rfl rfl rfl (fun m hm => bits_ok hm.lole) ?_
 refine .P2 ?_
 refine .nil (.seq (.ret (.blk (.seq ?_))))
 exact .end_ rfl rfl (fun m hm => ⟨rfl, hm.ext⟩)
theorem RConvert_i64_real {n : Int} {m : AW} (hm : m.lo ≤ m.next) (h : Fit .i64 n) : Fc prog 33 [.int .i64 3, .int .i64 4, .int .i64 n] m fun v m' => v = .int .i64 (bitsV (FloatKind.f64.nearest (wr .i64 n))) ∧ Ext m m' := by
 refine Fc.body (c := _) func33 rfl rfl rfl rfl hm ?_
 refine .seq (.region (.P ?_))
 refine .nil (.seq (.seq (.region (.P2 ?_))))
 refine .call _ rfl rfl rfl rfl rfl rfl (fun m hm => RWrap_i64 hm.lole h) ?_
 refine .P ?_
 refine .nil (.seq (.seq (.block (.seq (.region (.P3 ?_))))))
 iterate 2 refine .O ?_
 refine .P2 ?_
 refine .nil (.seq (.cond_false rfl (.seq (.region (.P3 ?_)))))
 iterate 2 refine .O ?_
 refine .P2 ?_
 refine .nil (.seq (.cond_false rfl (.seq (.region (.P3 ?_)))))
 refine .nil (.seq (.cond_false rfl (.seq (.region (.P3 ?_)))))
 refine .nil (.seq (.cond_true rfl (.seq (.region (.P ?_)))))
 refine .convIF rfl rfl rfl rfl underlying2 underlying63 rfl ?_
 refine .call _ rfl rfl rfl rfl rfl rfl (fun m hm => RBits_ok hm.lole (near_lt _)) ?_
 refine .P ?_
 refine .nil (.seq (.ret (.blk (.seq ?_))))
 exact .end_ rfl rfl (fun m hm => ⟨rfl, hm.ext⟩)
theorem Convert_real_u8 {n : Int} {m : AW} (hm : m.lo ≤ m.next) (h : Fit .i64 n) : Fc prog 32 [.int .i64 4, .int .i64 1, .int .i64 n] m fun v m' => v = .tuple ⟨[.int .i64 (wr .u8 (convR (-2147483648) 2147483647 (flb (w4 n)))), .int .i64 0]⟩ ∧ Ext m m' := by
 refine Fc.body (c := _) func32 rfl rfl rfl rfl hm ?_
 refine .seq (.region (.P2 ?_))
 refine .nil (.seq (.seq (.region (.P ?_))))
 refine .call _ rfl rfl rfl rfl rfl rfl (fun m hm => of_real hm.lole) ?_
 refine .P3 ?_
 refine .alloc rfl rfl rfl rfl zr59 (fun b8 hb8 => ?_)
 refine .S sz59 ?_
 refine .P ?_
 refine .nil (.seq (.seq (.seq (.region (.P2 ?_)))))
 refine .nil (.seq (.cond_false rfl (.skip (.seq (.seq (.region (.P ?_)))))))
 refine .calln _ _ _ rfl rfl rfl rfl rfl rfl (fun m hm => of_u8 hm.lole) (fun x hx => ?_)
 clear hx
 refine .P3 ?_
 refine .alloc rfl rfl rfl rfl zr59 (fun b10 hb10 => ?_)
 refine .S sz59 ?_
 refine .P ?_
 refine .nil (.seq (.seq (.seq (.region (.P2 ?_)))))
 refine .nil (.seq (.cond_false rfl (.skip (.seq (.seq (.region (.F fa59_0 ?_)))))))
 refine .L ag54 ?_
 refine .P ?_
 refine .call _ rfl rfl rfl rfl rfl rfl (fun m hm => clr_1 hm.lole h) ?_
 refine .P ?_
 refine .nil (.seq (.seq (.block (.seq (.region (.P3 ?_))))))
 iterate 2 refine .O ?_
 refine .P2 ?_
 refine .nil (.seq (.cond_false rfl (.seq (.region (.P3 ?_)))))
 refine .nil (.seq (.cond_false rfl (.seq (.region (.P3 ?_)))))
 refine .nil (.seq (.cond_false rfl (.seq (.region (.P3 ?_)))))
 refine .nil (.seq (.cond_false rfl (.skip (.blk (.seq (.seq ?_))))))
 refine .D [(13, 0), (1, 1), (15, 0), (7, 4), (7, 12), (7, 31), (15, 63), (15, 127)] (by kernel_rfl) (by kernel_rfl) (fun base hbase hB => ?_)
 refine .F fa59_0 ?_
 refine .R ag54 hB ?_
 refine .P ?_
 refine .call _ rfl rfl rfl rfl rfl rfl rfl rfl rfl (fun m hm => float_ok hm.lole) ?_
 refine .call _ rfl rfl rfl rfl rfl rfl rfl rfl rfl (fun m hm => rounded_2 hm.lole (flb_lt _)) ?_
 refine .call _ rfl rfl rfl rfl rfl rfl rfl rfl rfl (fun m hm => cl_u8_1 hm.lole (wr_in (show (-9223372036854775808 : Int) ≤ _ from Int.le_trans (by omega) (conv_fit (lo := -2147483648) (hi := 2147483647) (by omega) (by omega)).1) (show _ ≤ (9223372036854775807 : Int) from Int.le_trans (conv_fit (lo := -2147483648) (hi := 2147483647) (by omega) (by omega)).2 (by omega)))) ?_
 iterate 2 refine .P ?_
 refine .nil (.seq (.ret ?_))
 exact .end_ rfl rfl (fun m hm => ⟨rfl, hm.ext⟩)
theorem RConvert_real_u8 {n : Int} {m : AW} (hm : m.lo ≤ m.next) (h : Fit .i64 n) : Fc prog 33 [.int .i64 4, .int .i64 1, .int .i64 n] m fun v m' => v = .int .i64 (wr .u8 (convR (-2147483648) 2147483647 (flb (w4 n)))) ∧ Ext m m' := by
 refine Fc.body (c := _) func33 rfl rfl rfl rfl hm ?_
 refine .seq (.region (.P ?_))
 refine .nil (.seq (.seq (.region (.P2 ?_))))
 refine .call _ rfl rfl rfl rfl rfl rfl (fun m hm => RWrap_real hm.lole h) ?_
 refine .P ?_
 refine .nil (.seq (.seq (.block (.seq (.region ?_)))))
 iterate 7 refine .P ?_
 refine .nil (.seq (.cond_false rfl (.seq (.region ?_))))
 iterate 7 refine .P ?_
 refine .nil (.seq (.cond_true rfl (.seq (.region (.P2 ?_)))))
 refine .call _ rfl rfl rfl rfl rfl rfl (fun m hm => value_ok hm.lole) ?_
 refine .call _ rfl rfl rfl rfl rfl rfl (fun m hm => near_2 hm.lole (flb_lt _)) ?_
 refine .call _ rfl rfl rfl rfl rfl rfl (fun m hm => RWrap_u8 hm.lole (wr_in (show (-9223372036854775808 : Int) ≤ _ from Int.le_trans (by omega) (conv_fit (lo := -2147483648) (hi := 2147483647) (by omega) (by omega)).1) (show _ ≤ (9223372036854775807 : Int) from Int.le_trans (conv_fit (lo := -2147483648) (hi := 2147483647) (by omega) (by omega)).2 (by omega)))) ?_
 refine .P ?_
 refine .nil (.seq (.ret (.blk (.seq ?_))))
 exact .end_ rfl rfl (fun m hm => ⟨rfl, hm.ext⟩)
theorem Convert_real_i32 {n : Int} {m : AW} (hm : m.lo ≤ m.next) (h : Fit .i64 n) : Fc prog 32 [.int .i64 4, .int .i64 2, .int .i64 n] m fun v m' => v = .tuple ⟨[.int .i64 (wr .i32 (convR (-2147483648) 2147483647 (flb (w4 n)))), .int .i64 0]⟩ ∧ Ext m m' := by
 refine Fc.body (c := _) func32 rfl rfl rfl rfl hm ?_
 refine .seq (.region (.P2 ?_))
 refine .nil (.seq (.seq (.region (.P ?_))))
 refine .call _ rfl rfl rfl rfl rfl rfl (fun m hm => of_real hm.lole) ?_
 refine .P3 ?_
 refine .alloc rfl rfl rfl rfl zr59 (fun b8 hb8 => ?_)
 refine .S sz59 ?_
 refine .P ?_
 refine .nil (.seq (.seq (.seq (.region (.P2 ?_)))))
 refine .nil (.seq (.cond_false rfl (.skip (.seq (.seq (.region (.P ?_)))))))
 refine .calln _ _ _ rfl rfl rfl rfl rfl rfl (fun m hm => of_i32 hm.lole) (fun x hx => ?_)
 clear hx
 refine .P3 ?_
 refine .alloc rfl rfl rfl rfl zr59 (fun b10 hb10 => ?_)
 refine .S sz59 ?_
 refine .P ?_
 refine .nil (.seq (.seq (.seq (.region (.P2 ?_)))))
 refine .nil (.seq (.cond_false rfl (.skip (.seq (.seq (.region (.F fa59_0 ?_)))))))
 refine .L ag54 ?_
 refine .P ?_
 refine .call _ rfl rfl rfl rfl rfl rfl (fun m hm => clr_1 hm.lole h) ?_
 refine .P ?_
 refine .nil (.seq (.seq (.block (.seq (.region (.P3 ?_))))))
 iterate 2 refine .O ?_
 refine .P2 ?_
 refine .nil (.seq (.cond_false rfl (.seq (.region (.P3 ?_)))))
 refine .nil (.seq (.cond_false rfl (.seq (.region (.P3 ?_)))))
 refine .nil (.seq (.cond_false rfl (.seq (.region (.P3 ?_)))))
 refine .nil (.seq (.cond_false rfl (.skip (.blk (.seq (.seq ?_))))))
 refine .D [(13, 0), (1, 1), (15, 0), (7, 4), (7, 12), (7, 31), (15, 63), (15, 127)] (by kernel_rfl) (by kernel_rfl) (fun base hbase hB => ?_)
 refine .F fa59_0 ?_
 refine .R ag54 hB ?_
 refine .P ?_
 refine .call _ rfl rfl rfl rfl rfl rfl rfl rfl rfl (fun m hm => float_ok hm.lole) ?_
 refine .call _ rfl rfl rfl rfl rfl rfl rfl rfl rfl (fun m hm => rounded_2 hm.lole (flb_lt _)) ?_
 refine .call _ rfl rfl rfl rfl rfl rfl rfl rfl rfl (fun m hm => cl_i32_1 hm.lole (wr_in (show (-9223372036854775808 : Int) ≤ _ from Int.le_trans (by omega) (conv_fit (lo := -2147483648) (hi := 2147483647) (by omega) (by omega)).1) (show _ ≤ (9223372036854775807 : Int) from Int.le_trans (conv_fit (lo := -2147483648) (hi := 2147483647) (by omega) (by omega)).2 (by omega)))) ?_
 iterate 2 refine .P ?_
 refine .nil (.seq (.ret ?_))
 exact .end_ rfl rfl (fun m hm => ⟨rfl, hm.ext⟩)
theorem RConvert_real_i32 {n : Int} {m : AW} (hm : m.lo ≤ m.next) (h : Fit .i64 n) : Fc prog 33 [.int .i64 4, .int .i64 2, .int .i64 n] m fun v m' => v = .int .i64 (wr .i32 (convR (-2147483648) 2147483647 (flb (w4 n)))) ∧ Ext m m' := by
 refine Fc.body (c := _) func33 rfl rfl rfl rfl hm ?_
 refine .seq (.region (.P ?_))
 refine .nil (.seq (.seq (.region (.P2 ?_))))
 refine .call _ rfl rfl rfl rfl rfl rfl (fun m hm => RWrap_real hm.lole h) ?_
 refine .P ?_
 refine .nil (.seq (.seq (.block (.seq (.region ?_)))))
 iterate 7 refine .P ?_
 refine .nil (.seq (.cond_false rfl (.seq (.region ?_))))
 iterate 7 refine .P ?_
 refine .nil (.seq (.cond_false rfl (.seq (.region (.P3 ?_)))))
 refine .nil (.seq (.cond_true rfl (.seq (.region (.P2 ?_)))))
 refine .call _ rfl rfl rfl rfl rfl rfl (fun m hm => value_ok hm.lole) ?_
 refine .call _ rfl rfl rfl rfl rfl rfl (fun m hm => near_2 hm.lole (flb_lt _)) ?_
 refine .P ?_
 refine .nil (.seq (.ret (.blk (.seq ?_))))
 exact .end_ rfl rfl (fun m hm => ⟨congrArg (Value.int .i64) ((wr_in (show (-2147483648 : Int) ≤ _ from (conv_fit (by omega) (by omega)).1) (show _ ≤ (2147483647 : Int) from (conv_fit (by omega) (by omega)).2)).symm), hm.ext⟩)
theorem Convert_real_i64 {n : Int} {m : AW} (hm : m.lo ≤ m.next) (h : Fit .i64 n) : Fc prog 32 [.int .i64 4, .int .i64 3, .int .i64 n] m fun v m' => v = .tuple ⟨[.int .i64 (convR (-9223372036854775808) 9223372036854775807 (flb (w4 n))), .int .i64 0]⟩ ∧ Ext m m' := by
 refine Fc.body (c := _) func32 rfl rfl rfl rfl hm ?_
 refine .seq (.region (.P2 ?_))
 refine .nil (.seq (.seq (.region (.P ?_))))
 refine .call _ rfl rfl rfl rfl rfl rfl (fun m hm => of_real hm.lole) ?_
 refine .P3 ?_
 refine .alloc rfl rfl rfl rfl zr59 (fun b8 hb8 => ?_)
 refine .S sz59 ?_
 refine .P ?_
 refine .nil (.seq (.seq (.seq (.region (.P2 ?_)))))
 refine .nil (.seq (.cond_false rfl (.skip (.seq (.seq (.region (.P ?_)))))))
 refine .calln _ _ _ rfl rfl rfl rfl rfl rfl (fun m hm => of_i64 hm.lole) (fun x hx => ?_)
 clear hx
 refine .P3 ?_
 refine .alloc rfl rfl rfl rfl zr59 (fun b10 hb10 => ?_)
 refine .S sz59 ?_
 refine .P ?_
 refine .nil (.seq (.seq (.seq (.region (.P2 ?_)))))
 refine .nil (.seq (.cond_false rfl (.skip (.seq (.seq (.region (.F fa59_0 ?_)))))))
 refine .L ag54 ?_
 refine .P ?_
 refine .call _ rfl rfl rfl rfl rfl rfl (fun m hm => clr_1 hm.lole h) ?_
 refine .P ?_
 refine .nil (.seq (.seq (.block (.seq (.region (.P3 ?_))))))
 iterate 2 refine .O ?_
 refine .P2 ?_
 refine .nil (.seq (.cond_false rfl (.seq (.region (.P3 ?_)))))
 refine .nil (.seq (.cond_false rfl (.seq (.region (.P3 ?_)))))
 refine .nil (.seq (.cond_false rfl (.seq (.region (.P3 ?_)))))
 refine .nil (.seq (.cond_true rfl (.seq (.region (.P ?_)))))
 refine .call _ rfl rfl rfl rfl rfl rfl (fun m hm => float_ok hm.lole) ?_
 refine .call _ rfl rfl rfl rfl rfl rfl (fun m hm => rounded_3 hm.lole (flb_lt _)) ?_
 refine .P2 ?_
 refine .nil (.seq (.ret (.blk (.seq ?_))))
 exact .end_ rfl rfl (fun m hm => ⟨rfl, hm.ext⟩)
theorem RConvert_real_i64 {n : Int} {m : AW} (hm : m.lo ≤ m.next) (h : Fit .i64 n) : Fc prog 33 [.int .i64 4, .int .i64 3, .int .i64 n] m fun v m' => v = .int .i64 (convR (-9223372036854775808) 9223372036854775807 (flb (w4 n))) ∧ Ext m m' := by
 refine Fc.body (c := _) func33 rfl rfl rfl rfl hm ?_
 refine .seq (.region (.P ?_))
 refine .nil (.seq (.seq (.region (.P2 ?_))))
 refine .call _ rfl rfl rfl rfl rfl rfl (fun m hm => RWrap_real hm.lole h) ?_
 refine .P ?_
 refine .nil (.seq (.seq (.block (.seq (.region ?_)))))
 iterate 7 refine .P ?_
 refine .nil (.seq (.cond_false rfl (.seq (.region ?_))))
 iterate 7 refine .P ?_
 refine .nil (.seq (.cond_false rfl (.seq (.region (.P3 ?_)))))
 refine .nil (.seq (.cond_true rfl (.seq (.region (.P2 ?_)))))
 refine .call _ rfl rfl rfl rfl rfl rfl (fun m hm => value_ok hm.lole) ?_
 refine .call _ rfl rfl rfl rfl rfl rfl (fun m hm => near_3 hm.lole (flb_lt _)) ?_
 refine .P ?_
 refine .nil (.seq (.ret (.blk (.seq ?_))))
 exact .end_ rfl rfl (fun m hm => ⟨rfl, hm.ext⟩)
theorem Convert_real_real {n : Int} {m : AW} (hm : m.lo ≤ m.next) (h : Fit .i64 n) : Fc prog 32 [.int .i64 4, .int .i64 4, .int .i64 n] m fun v m' => v = .tuple ⟨[.int .i64 (w4 n), .int .i64 0]⟩ ∧ Ext m m' := by
 refine Fc.body (c := _) func32 rfl rfl rfl rfl hm ?_
 refine .seq (.region (.P2 ?_))
 refine .nil (.seq (.seq (.region (.P ?_))))
 refine .call _ rfl rfl rfl rfl rfl rfl (fun m hm => of_real hm.lole) ?_
 refine .P3 ?_
 refine .alloc rfl rfl rfl rfl zr59 (fun b8 hb8 => ?_)
 refine .S sz59 ?_
 refine .P ?_
 refine .nil (.seq (.seq (.seq (.region (.P2 ?_)))))
 refine .nil (.seq (.cond_false rfl (.skip (.seq (.seq (.region (.P ?_)))))))
 refine .call _ rfl rfl rfl rfl rfl rfl (fun m hm => of_real hm.lole) ?_
 refine .P3 ?_
 refine .alloc rfl rfl rfl rfl zr59 (fun b10 hb10 => ?_)
 refine .S sz59 ?_
 refine .P ?_
 refine .nil (.seq (.seq (.seq (.region (.P2 ?_)))))
 refine .nil (.seq (.cond_false rfl (.skip (.seq (.seq (.region (.F fa59_0 ?_)))))))
 refine .L ag54 ?_
 refine .P ?_
 refine .call _ rfl rfl rfl rfl rfl rfl (fun m hm => clr_1 hm.lole h) ?_
 refine .P ?_
 refine .nil (.seq (.seq (.block (.seq (.region (.P3 ?_))))))
 iterate 2 refine .O ?_
 refine .P2 ?_
 refine .nil (.seq (.cond_false rfl (.seq (.region (.P3 ?_)))))
 refine .nil (.seq (.cond_false rfl (.seq (.region (.P3 ?_)))))
 refine .nil (.seq (.cond_true rfl (.seq (.region (.P3 ?_)))))
 refine .nil (.seq (.ret (.blk (.seq ?_))))
 exact .end_ rfl rfl (fun m hm => ⟨rfl, hm.ext⟩)
theorem RConvert_real_real {n : Int} {m : AW} (hm : m.lo ≤ m.next) (h : Fit .i64 n) : Fc prog 33 [.int .i64 4, .int .i64 4, .int .i64 n] m fun v m' => v = .int .i64 (w4 n) ∧ Ext m m' := by
 refine Fc.body (c := _) func33 rfl rfl rfl rfl hm ?_
 refine .seq (.region (.P ?_))
 refine .nil (.seq (.seq (.region (.P2 ?_))))
 refine .call _ rfl rfl rfl rfl rfl rfl (fun m hm => RWrap_real hm.lole h) ?_
 refine .P ?_
 refine .nil (.seq (.seq (.block (.seq (.region ?_)))))
 iterate 7 refine .P ?_
 refine .nil (.seq (.cond_true rfl (.seq (.region (.P2 ?_)))))
 refine .nil (.seq (.ret (.blk (.seq ?_))))
 exact .end_ rfl rfl (fun m hm => ⟨rfl, hm.ext⟩)
theorem Convert_none {kind tt n : Int} {m : AW} (hm : m.lo ≤ m.next) (h1 : kind ≠ 1) (h2 : kind ≠ 2) (h3 : kind ≠ 3) (h4 : kind ≠ 4) : Fc prog 32 [.int .i64 kind, .int .i64 tt, .int .i64 n] m fun v m' => v = .tuple ⟨[.int .i64 0, .int .i64 13]⟩ ∧ Ext m m' := by
 refine Fc.body (c := _) func32 rfl rfl rfl rfl hm ?_
 refine .seq (.region (.P2 ?_))
 refine .nil (.seq (.seq (.region (.P ?_))))
 refine .call _ rfl rfl rfl rfl rfl rfl (fun m hm => of_none hm.lole h1 h2 h3 h4) ?_
 refine .P3 ?_
 refine .alloc rfl rfl rfl rfl zr59 (fun b8 hb8 => ?_)
 refine .S sz59 ?_
 refine .P ?_
 refine .nil (.seq (.seq (.seq (.region (.P2 ?_)))))
 refine .nil (.seq (.cond_true rfl (.seq (.region (.P3 ?_)))))
 refine .nil (.seq (.ret (.seq ?_)))
 exact .end_ rfl rfl (fun m hm => ⟨rfl, hm.ext⟩)
theorem Convert_u8_none {tt n : Int} {m : AW} (hm : m.lo ≤ m.next) (h1 : tt ≠ 1) (h2 : tt ≠ 2) (h3 : tt ≠ 3) (h4 : tt ≠ 4) : Fc prog 32 [.int .i64 1, .int .i64 tt, .int .i64 n] m fun v m' => v = .tuple ⟨[.int .i64 0, .int .i64 13]⟩ ∧ Ext m m' := by
 refine Fc.body (c := _) func32 rfl rfl rfl rfl hm ?_
 refine .seq (.region (.P2 ?_))
 refine .nil (.seq (.seq (.region (.P ?_))))
 refine .calln _ _ _ rfl rfl rfl rfl rfl rfl (fun m hm => of_u8 hm.lole) (fun x hx => ?_)
 clear hx
 refine .P3 ?_
 refine .alloc rfl rfl rfl rfl zr59 (fun b8 hb8 => ?_)
 refine .S sz59 ?_
 refine .P ?_
 refine .nil (.seq (.seq (.seq (.region (.P2 ?_)))))
 refine .nil (.seq (.cond_false rfl (.skip (.seq (.seq (.region (.P ?_)))))))
 refine .call _ rfl rfl rfl rfl rfl rfl (fun m hm => of_none hm.lole h1 h2 h3 h4) ?_
 refine .P3 ?_
 refine .alloc rfl rfl rfl rfl zr59 (fun b10 hb10 => ?_)
 refine .S sz59 ?_
 refine .P ?_
 refine .nil (.seq (.seq (.seq (.region (.P2 ?_)))))
 refine .nil (.seq (.cond_true rfl (.seq (.region (.P3 ?_)))))
 refine .nil (.seq (.ret (.seq ?_)))
 exact .end_ rfl rfl (fun m hm => ⟨rfl, hm.ext⟩)
theorem Convert_i32_none {tt n : Int} {m : AW} (hm : m.lo ≤ m.next) (h1 : tt ≠ 1) (h2 : tt ≠ 2) (h3 : tt ≠ 3) (h4 : tt ≠ 4) : Fc prog 32 [.int .i64 2, .int .i64 tt, .int .i64 n] m fun v m' => v = .tuple ⟨[.int .i64 0, .int .i64 13]⟩ ∧ Ext m m' := by
 refine Fc.body (c := _) func32 rfl rfl rfl rfl hm ?_
 refine .seq (.region (.P2 ?_))
 refine .nil (.seq (.seq (.region (.P ?_))))
 refine .calln _ _ _ rfl rfl rfl rfl rfl rfl (fun m hm => of_i32 hm.lole) (fun x hx => ?_)
 clear hx
 refine .P3 ?_
 refine .alloc rfl rfl rfl rfl zr59 (fun b8 hb8 => ?_)
 refine .S sz59 ?_
 refine .P ?_
 refine .nil (.seq (.seq (.seq (.region (.P2 ?_)))))
 refine .nil (.seq (.cond_false rfl (.skip (.seq (.seq (.region (.P ?_)))))))
 refine .call _ rfl rfl rfl rfl rfl rfl (fun m hm => of_none hm.lole h1 h2 h3 h4) ?_
 refine .P3 ?_
 refine .alloc rfl rfl rfl rfl zr59 (fun b10 hb10 => ?_)
 refine .S sz59 ?_
 refine .P ?_
 refine .nil (.seq (.seq (.seq (.region (.P2 ?_)))))
 refine .nil (.seq (.cond_true rfl (.seq (.region (.P3 ?_)))))
 refine .nil (.seq (.ret (.seq ?_)))
 exact .end_ rfl rfl (fun m hm => ⟨rfl, hm.ext⟩)
theorem Convert_i64_none {tt n : Int} {m : AW} (hm : m.lo ≤ m.next) (h1 : tt ≠ 1) (h2 : tt ≠ 2) (h3 : tt ≠ 3) (h4 : tt ≠ 4) : Fc prog 32 [.int .i64 3, .int .i64 tt, .int .i64 n] m fun v m' => v = .tuple ⟨[.int .i64 0, .int .i64 13]⟩ ∧ Ext m m' := by
 refine Fc.body (c := _) func32 rfl rfl rfl rfl hm ?_
 refine .seq (.region (.P2 ?_))
 refine .nil (.seq (.seq (.region (.P ?_))))
 refine .calln _ _ _ rfl rfl rfl rfl rfl rfl (fun m hm => of_i64 hm.lole) (fun x hx => ?_)
 clear hx
 refine .P3 ?_
 refine .alloc rfl rfl rfl rfl zr59 (fun b8 hb8 => ?_)
 refine .S sz59 ?_
 refine .P ?_
 refine .nil (.seq (.seq (.seq (.region (.P2 ?_)))))
 refine .nil (.seq (.cond_false rfl (.skip (.seq (.seq (.region (.P ?_)))))))
 refine .call _ rfl rfl rfl rfl rfl rfl (fun m hm => of_none hm.lole h1 h2 h3 h4) ?_
 refine .P3 ?_
 refine .alloc rfl rfl rfl rfl zr59 (fun b10 hb10 => ?_)
 refine .S sz59 ?_
 refine .P ?_
 refine .nil (.seq (.seq (.seq (.region (.P2 ?_)))))
 refine .nil (.seq (.cond_true rfl (.seq (.region (.P3 ?_)))))
 refine .nil (.seq (.ret (.seq ?_)))
 exact .end_ rfl rfl (fun m hm => ⟨rfl, hm.ext⟩)
theorem Convert_real_none {tt n : Int} {m : AW} (hm : m.lo ≤ m.next) (h1 : tt ≠ 1) (h2 : tt ≠ 2) (h3 : tt ≠ 3) (h4 : tt ≠ 4) : Fc prog 32 [.int .i64 4, .int .i64 tt, .int .i64 n] m fun v m' => v = .tuple ⟨[.int .i64 0, .int .i64 13]⟩ ∧ Ext m m' := by
 refine Fc.body (c := _) func32 rfl rfl rfl rfl hm ?_
 refine .seq (.region (.P2 ?_))
 refine .nil (.seq (.seq (.region (.P ?_))))
 refine .call _ rfl rfl rfl rfl rfl rfl (fun m hm => of_real hm.lole) ?_
 refine .P3 ?_
 refine .alloc rfl rfl rfl rfl zr59 (fun b8 hb8 => ?_)
 refine .S sz59 ?_
 refine .P ?_
 refine .nil (.seq (.seq (.seq (.region (.P2 ?_)))))
 refine .nil (.seq (.cond_false rfl (.skip (.seq (.seq (.region (.P ?_)))))))
 refine .call _ rfl rfl rfl rfl rfl rfl (fun m hm => of_none hm.lole h1 h2 h3 h4) ?_
 refine .P3 ?_
 refine .alloc rfl rfl rfl rfl zr59 (fun b10 hb10 => ?_)
 refine .S sz59 ?_
 refine .P ?_
 refine .nil (.seq (.seq (.seq (.region (.P2 ?_)))))
 refine .nil (.seq (.cond_true rfl (.seq (.region (.P3 ?_)))))
 refine .nil (.seq (.ret (.seq ?_)))
 exact .end_ rfl rfl (fun m hm => ⟨rfl, hm.ext⟩)
theorem converts_law {kf kt n y : Int} {m : AW} (hm : m.lo ≤ m.next) (hlay : LaidAt lays m) (hC : ∀ {m : AW}, m.lo ≤ m.next → Fc prog 32 [.int .i64 kf, .int .i64 kt, .int .i64 n] m fun v m' => v = .tuple ⟨[.int .i64 y, .int .i64 0]⟩ ∧ Ext m m') (hkkf : ∀ {m : AW}, m.lo ≤ m.next → Fc prog 14 [.int .i64 kf] m fun v m' => v = .bool true ∧ Ext m m') (hkkt : ∀ {m : AW}, m.lo ≤ m.next → Fc prog 14 [.int .i64 kt] m fun v m' => v = .bool true ∧ Ext m m') (hR : ∀ {m : AW}, m.lo ≤ m.next → Fc prog 33 [.int .i64 kf, .int .i64 kt, .int .i64 n] m fun v m' => v = .int .i64 y ∧ Ext m m') : Fc prog 11 [.int .i64 kf, .int .i64 kt, .int .i64 n] m fun v m' => v = .bool true ∧ Ext m m' := by
 refine Fc.body (c := _) func11 rfl rfl rfl rfl hm ?_
 refine .seq (.region (.P ?_))
 refine .nil (.seq (.seq (.region (.P3 ?_))))
 refine .call _ rfl rfl rfl rfl rfl rfl (fun m hm => hC hm.lole) ?_
 iterate 5 refine .P ?_
 refine .nil (.seq (.seq (.seq (.region (.P ?_)))))
 refine .call _ rfl rfl rfl rfl rfl rfl (fun m hm => hkkf hm.lole) ?_
 refine .P3 ?_
 refine .call _ rfl rfl rfl rfl rfl rfl (fun m hm => hkkt hm.lole) ?_
 refine .P2 ?_
 refine .nil (.seq (.cond_false rfl (.skip (.seq (.seq (.region ?_))))))
 refine .call _ rfl rfl rfl rfl rfl rfl (fun m hm => awake_ok (hlay.kr hm)) ?_
 iterate 9 refine .P ?_
 refine .call _ rfl rfl rfl rfl rfl rfl (fun m hm => hR hm.lole) ?_
 refine .bin (v := .bool true) rfl rfl rfl rfl rfl rfl (binS_eql rfl) ?_
 refine .P2 ?_
 refine .nil (.seq (.ret ?_))
 exact .end_ rfl rfl (fun m hm => ⟨rfl, hm.ext⟩)
theorem converts_f {kf kt n : Int} {m : AW} (hm : m.lo ≤ m.next) (hlay : LaidAt lays m) (hC : ∀ {m : AW}, m.lo ≤ m.next → Fc prog 32 [.int .i64 kf, .int .i64 kt, .int .i64 n] m fun v m' => v = .tuple ⟨[.int .i64 0, .int .i64 13]⟩ ∧ Ext m m') (hkkf : ∀ {m : AW}, m.lo ≤ m.next → Fc prog 14 [.int .i64 kf] m fun v m' => v = .bool false ∧ Ext m m') : Fc prog 11 [.int .i64 kf, .int .i64 kt, .int .i64 n] m fun v m' => v = .bool true ∧ Ext m m' := by
 refine Fc.body (c := _) func11 rfl rfl rfl rfl hm ?_
 refine .seq (.region (.P ?_))
 refine .nil (.seq (.seq (.region (.P3 ?_))))
 refine .call _ rfl rfl rfl rfl rfl rfl (fun m hm => hC hm.lole) ?_
 iterate 5 refine .P ?_
 refine .nil (.seq (.seq (.seq (.region (.P ?_)))))
 refine .call _ rfl rfl rfl rfl rfl rfl (fun m hm => hkkf hm.lole) ?_
 refine .P2 ?_
 iterate 3 refine .O ?_
 refine .P ?_
 refine .nil (.seq (.cond_true rfl (.seq (.region ?_))))
 refine .call _ rfl rfl rfl rfl rfl rfl (fun m hm => awake_ok (hlay.kr hm)) ?_
 iterate 9 refine .P ?_
 refine .nil (.seq (.ret (.seq ?_)))
 exact .end_ rfl rfl (fun m hm => ⟨rfl, hm.ext⟩)
theorem converts_t {kf kt n : Int} {m : AW} (hm : m.lo ≤ m.next) (hlay : LaidAt lays m) (hC : ∀ {m : AW}, m.lo ≤ m.next → Fc prog 32 [.int .i64 kf, .int .i64 kt, .int .i64 n] m fun v m' => v = .tuple ⟨[.int .i64 0, .int .i64 13]⟩ ∧ Ext m m') (hkkf : ∀ {m : AW}, m.lo ≤ m.next → Fc prog 14 [.int .i64 kf] m fun v m' => v = .bool true ∧ Ext m m') (hkkt : ∀ {m : AW}, m.lo ≤ m.next → Fc prog 14 [.int .i64 kt] m fun v m' => v = .bool false ∧ Ext m m') : Fc prog 11 [.int .i64 kf, .int .i64 kt, .int .i64 n] m fun v m' => v = .bool true ∧ Ext m m' := by
 refine Fc.body (c := _) func11 rfl rfl rfl rfl hm ?_
 refine .seq (.region (.P ?_))
 refine .nil (.seq (.seq (.region (.P3 ?_))))
 refine .call _ rfl rfl rfl rfl rfl rfl (fun m hm => hC hm.lole) ?_
 iterate 5 refine .P ?_
 refine .nil (.seq (.seq (.seq (.region (.P ?_)))))
 refine .call _ rfl rfl rfl rfl rfl rfl (fun m hm => hkkf hm.lole) ?_
 refine .P3 ?_
 refine .call _ rfl rfl rfl rfl rfl rfl (fun m hm => hkkt hm.lole) ?_
 refine .P2 ?_
 refine .nil (.seq (.cond_true rfl (.seq (.region ?_))))
 refine .call _ rfl rfl rfl rfl rfl rfl (fun m hm => awake_ok (hlay.kr hm)) ?_
 iterate 9 refine .P ?_
 refine .nil (.seq (.ret (.seq ?_)))
 exact .end_ rfl rfl (fun m hm => ⟨rfl, hm.ext⟩)
end Go.Proofs.YtmcjihhfgmfcpaaGreatDoor
