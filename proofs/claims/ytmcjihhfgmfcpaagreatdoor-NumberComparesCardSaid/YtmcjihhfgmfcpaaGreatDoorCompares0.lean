/-
  NumberCompares: the functions that it calls, followed, 0. Conditions: none.
-/
import Derived.Test.YtmcjihhfgmfcpaaGreatDoorAwk
import Derived.Test.YtmcjihhfgmfcpaaGreatDoorPla
namespace Go.Proofs.YtmcjihhfgmfcpaaGreatDoor
open Go Go.Ab
theorem ag2 : aggT Tryz.prog 2 = some false := by kernel_rfl
theorem ag3 : aggT Tryz.prog 3 = some false := by kernel_rfl
theorem ag54 : aggT Tryz.prog 54 = some false := by kernel_rfl
theorem ag57 : aggT Tryz.prog 57 = some false := by kernel_rfl
theorem ag59 : aggT Tryz.prog 59 = some true := by kernel_rfl
theorem fa43_0 : ∀ b off, fieldAddrA Tryz.prog 43 (.pointer (some ⟨b, off, none⟩)) 0 = some (.pointer (some ⟨b, off + 0, none⟩)) := fun _ _ => by kernel_rfl
theorem fa43_1 : ∀ b off, fieldAddrA Tryz.prog 43 (.pointer (some ⟨b, off, none⟩)) 1 = some (.pointer (some ⟨b, off + 1, none⟩)) := fun _ _ => by kernel_rfl
theorem fa43_2 : ∀ b off, fieldAddrA Tryz.prog 43 (.pointer (some ⟨b, off, none⟩)) 2 = some (.pointer (some ⟨b, off + 2, none⟩)) := fun _ _ => by kernel_rfl
theorem fa43_3 : ∀ b off, fieldAddrA Tryz.prog 43 (.pointer (some ⟨b, off, none⟩)) 3 = some (.pointer (some ⟨b, off + 3, none⟩)) := fun _ _ => by kernel_rfl
theorem fa59_0 : ∀ b off, fieldAddrA Tryz.prog 59 (.pointer (some ⟨b, off, none⟩)) 0 = some (.pointer (some ⟨b, off + 0, none⟩)) := fun _ _ => by kernel_rfl
theorem fa59_6 : ∀ b off, fieldAddrA Tryz.prog 59 (.pointer (some ⟨b, off, none⟩)) 6 = some (.pointer (some ⟨b, off + 13, none⟩)) := fun _ _ => by kernel_rfl
theorem fa59_7 : ∀ b off, fieldAddrA Tryz.prog 59 (.pointer (some ⟨b, off, none⟩)) 7 = some (.pointer (some ⟨b, off + 14, none⟩)) := fun _ _ => by kernel_rfl
theorem sz59 : sizeT Tryz.prog 59 = some 16 := by kernel_rfl
theorem zr59 : zeroT Tryz.prog 59 = some (.agg ⟨[.nilFunc, .nilFunc, .nilFunc, .nilFunc, .nilFunc, .nilFunc, .nilFunc, .nilFunc, .nilFunc, .nilFunc, .nilFunc, .nilFunc, .nilFunc, .nilFunc, .nilFunc, .int .i64 0]⟩) := by kernel_rfl
theorem cl_u8_1 {n : Int} {m : AW} (hm : m.lo ≤ m.next) (h : Fit .i64 n) : Fc Tryz.prog 82 [.int .i64 n] m fun v m' => v = .int .i64 (wr .u8 n) ∧ Ext m m' := by
  refine Fc.body (c := _) Tryz.func82 rfl rfl rfl rfl hm ?_
  refine Ce.seq ?_
  refine Ce.region ?_
  refine Ie.p rfl rfl rfl rfl ?_
  refine Ie.nil ?_
  refine Ne.seq ?_
  refine Ce.seq ?_
  refine Ce.region ?_
  refine Ie.p rfl rfl rfl rfl ?_
  refine Ie.convInt rfl rfl rfl rfl Tryz.underlying2 Tryz.underlying5 rfl ?_
  refine Ie.convInt rfl rfl rfl rfl Tryz.underlying5 Tryz.underlying2 rfl ?_
  refine Ie.p rfl rfl rfl rfl ?_
  refine Ie.nil ?_
  refine Ne.seq ?_
  refine Ce.ret ?_
  exact Re.end_ rfl rfl (fun m hm => ⟨congrArg (Value.int .i64) (wr64 _ _ (by decide) (by decide)), hm.ext⟩)

theorem cl_i32_1 {n : Int} {m : AW} (hm : m.lo ≤ m.next) (h : Fit .i64 n) : Fc Tryz.prog 97 [.int .i64 n] m fun v m' => v = .int .i64 (wr .i32 n) ∧ Ext m m' := by
  refine Fc.body (c := _) Tryz.func97 rfl rfl rfl rfl hm ?_
  refine Ce.seq ?_
  refine Ce.region ?_
  refine Ie.p rfl rfl rfl rfl ?_
  refine Ie.nil ?_
  refine Ne.seq ?_
  refine Ce.seq ?_
  refine Ce.region ?_
  refine Ie.p rfl rfl rfl rfl ?_
  refine Ie.convInt rfl rfl rfl rfl Tryz.underlying2 Tryz.underlying21 rfl ?_
  refine Ie.convInt rfl rfl rfl rfl Tryz.underlying21 Tryz.underlying2 rfl ?_
  refine Ie.p rfl rfl rfl rfl ?_
  refine Ie.nil ?_
  refine Ne.seq ?_
  refine Ce.ret ?_
  exact Re.end_ rfl rfl (fun m hm => ⟨congrArg (Value.int .i64) (wr64 _ _ (by decide) (by decide)), hm.ext⟩)

theorem cl_i64_1 {n : Int} {m : AW} (hm : m.lo ≤ m.next) (h : Fit .i64 n) : Fc Tryz.prog 112 [.int .i64 n] m fun v m' => v = .int .i64 (wr .i64 n) ∧ Ext m m' := by
  refine Fc.body (c := _) Tryz.func112 rfl rfl rfl rfl hm ?_
  refine Ce.seq ?_
  refine Ce.region ?_
  refine Ie.p rfl rfl rfl rfl ?_
  refine Ie.nil ?_
  refine Ne.seq ?_
  refine Ce.seq ?_
  refine Ce.region ?_
  refine Ie.p rfl rfl rfl rfl ?_
  refine Ie.p rfl rfl rfl rfl ?_
  refine Ie.nil ?_
  refine Ne.seq ?_
  refine Ce.ret ?_
  exact Re.end_ rfl rfl (fun m hm => ⟨congrArg (Value.int .i64) (h.symm), hm.ext⟩)

def tabR : List Value := [.func (.func 127) ⟨[]⟩ ⟨[]⟩, .func (.func 128) ⟨[]⟩ ⟨[]⟩, .func (.func 129) ⟨[]⟩ ⟨[]⟩, .func (.func 130) ⟨[]⟩ ⟨[]⟩, .func (.func 131) ⟨[]⟩ ⟨[]⟩, .nilFunc, .nilFunc, .nilFunc, .nilFunc, .nilFunc, .nilFunc, .func (.func 132) ⟨[]⟩ ⟨[]⟩, .nilFunc, .func (.func 133) ⟨[]⟩ ⟨[]⟩, .func (.func 134) ⟨[]⟩ ⟨[]⟩, .int .i64 4607182418800017408]
def tab_u8 (b : Nat) : List Value := [.func (.func 82) ⟨[]⟩ ⟨[]⟩, .func (.func 83) ⟨[]⟩ ⟨[]⟩, .func (.func 84) ⟨[]⟩ ⟨[]⟩, .func (.func 85) ⟨[]⟩ ⟨[]⟩, .func (.func 86) ⟨[]⟩ ⟨[]⟩, .func (.func 87) ⟨[]⟩ ⟨[]⟩, .func (.func 88) ⟨[]⟩ ⟨[]⟩, .func (.func 89) ⟨[]⟩ ⟨[]⟩, .func (.func 90) ⟨[]⟩ ⟨[]⟩, .func (.func 91) ⟨[]⟩ ⟨[.pointer (some ⟨b, 0, none⟩)]⟩, .func (.func 92) ⟨[]⟩ ⟨[.pointer (some ⟨b, 0, none⟩)]⟩, .func (.func 93) ⟨[]⟩ ⟨[]⟩, .func (.func 94) ⟨[]⟩ ⟨[]⟩, .func (.func 95) ⟨[]⟩ ⟨[]⟩, .func (.func 96) ⟨[]⟩ ⟨[]⟩, .int .i64 1]
theorem ints_u8 {m : AW} (hm : m.lo ≤ m.next) : Fc Tryz.prog 59 [.int .i64 8] m fun v m' => ∃ b, True ∧ v = .agg ⟨tab_u8 b⟩ ∧ Ext m m' ∧ News m m' [(b, .cells [.int .i64 8] 2 false .plain none)] := by
  refine Fc.body (c := _) Tryz.func59 rfl rfl rfl rfl hm ?_
  refine Ce.seq ?_
  refine Ce.region ?_
  refine Ie.box rfl rfl rfl rfl rfl (fun b1 hb1 => ?_)
  refine Ie.alloc rfl rfl rfl rfl zr59 (fun b2 hb2 => ?_)
  refine Ie.nil ?_
  refine Ne.seq ?_
  refine Ce.seq ?_
  refine Ce.region ?_
  refine Ie.p (v := .agg ⟨[.func (.func 83) ⟨[]⟩ ⟨[]⟩, .func (.func 84) ⟨[]⟩ ⟨[]⟩, .func (.func 85) ⟨[]⟩ ⟨[]⟩, .func (.func 86) ⟨[]⟩ ⟨[]⟩, .func (.func 87) ⟨[]⟩ ⟨[]⟩, .func (.func 88) ⟨[]⟩ ⟨[]⟩, .func (.func 89) ⟨[]⟩ ⟨[]⟩, .func (.func 90) ⟨[]⟩ ⟨[]⟩]⟩) rfl rfl rfl (by kernel_rfl) ?_
  refine Ie.p rfl rfl rfl rfl ?_
  refine Ie.p rfl rfl rfl rfl ?_
  refine Ie.p (v := .agg ⟨tab_u8 b1⟩) rfl rfl rfl (by kernel_rfl) ?_
  refine Ie.store rfl rfl rfl rfl rfl sz59 rfl (by first | exact .head | exact .tail .head | exact .tail (.tail .head) | exact .tail (.tail (.tail .head))) rfl ?_
  refine Ie.nil ?_
  refine Ne.seq ?_
  refine Ce.ret ?_
  refine Re.endH rfl (.agg rfl ag59 sz59 (by first | exact .head | exact .tail .head | exact .tail (.tail .head) | exact .tail (.tail (.tail .head)) | exact .base ‹_› ‹_› (by simp)) (Nat.le_of_ble_eq_true rfl) rfl .nil) ?_
  exact fun m hm => ⟨b1, trivial, rfl, hm.ext, hm.news (.cons _ (.refl _))⟩

theorem of_u8 {m : AW} (hm : m.lo ≤ m.next) : Fc Tryz.prog 34 [.int .i64 1] m fun v m' => ∃ b, True ∧ v = .tuple ⟨[.agg ⟨tab_u8 b⟩, .int .i64 0]⟩ ∧ Ext m m' ∧ News m m' [(b, .cells [.int .i64 8] 2 false .plain none)] := by
  refine Fc.body (c := _) Tryz.func34 rfl rfl rfl rfl hm ?_
  refine Ce.seq ?_
  refine Ce.region ?_
  refine Ie.alloc rfl rfl rfl rfl zr59 (fun b2 hb2 => ?_)
  refine Ie.p rfl rfl rfl rfl ?_
  refine Ie.nil ?_
  refine Ne.seq ?_
  refine Ce.seq ?_
  refine Ce.seq ?_
  refine Ce.region ?_
  refine Ie.p rfl rfl rfl rfl ?_
  refine Ie.nil ?_
  refine Ne.seq ?_
  refine Ce.block ?_
  refine Ce.seq ?_
  refine Ce.region ?_
  refine Ie.p rfl rfl rfl rfl ?_
  refine Ie.p rfl rfl rfl rfl ?_
  refine Ie.nil ?_
  refine Ne.seq ?_
  refine Ce.cond_true rfl ?_
  refine Ce.seq ?_
  refine Ce.region ?_
  refine Ie.calln _ _ _ rfl rfl rfl rfl rfl rfl (fun m hm => ints_u8 hm.lole) (fun x hx => ?_)
  clear hx
  refine Ie.store rfl rfl rfl rfl rfl sz59 rfl (by first | exact .head | exact .tail .head | exact .tail (.tail .head) | exact .tail (.tail (.tail .head))) rfl ?_
  refine Ie.p rfl rfl rfl rfl ?_
  refine Ie.nil ?_
  refine Ne.seq ?_
  refine Ce.ret ?_
  refine Re.blk ?_
  refine Re.seq ?_
  refine Re.endH rfl (.agg rfl ag59 sz59 (by first | exact .head | exact .tail .head | exact .tail (.tail .head) | exact .tail (.tail (.tail .head)) | exact .base ‹_› ‹_› (by simp)) (Nat.le_of_ble_eq_true rfl) rfl (.tmp rfl .nil)) ?_
  exact fun m hm => ⟨x, trivial, rfl, hm.ext, hm.news (by first | exact .cons_cons _ (List.nil_sublist _) | exact .cons _ (.cons_cons _ (List.nil_sublist _)))⟩

def tab_i32 (b : Nat) : List Value := [.func (.func 97) ⟨[]⟩ ⟨[]⟩, .func (.func 98) ⟨[]⟩ ⟨[]⟩, .func (.func 99) ⟨[]⟩ ⟨[]⟩, .func (.func 100) ⟨[]⟩ ⟨[]⟩, .func (.func 101) ⟨[]⟩ ⟨[]⟩, .func (.func 102) ⟨[]⟩ ⟨[]⟩, .func (.func 103) ⟨[]⟩ ⟨[]⟩, .func (.func 104) ⟨[]⟩ ⟨[]⟩, .func (.func 105) ⟨[]⟩ ⟨[]⟩, .func (.func 106) ⟨[]⟩ ⟨[.pointer (some ⟨b, 0, none⟩)]⟩, .func (.func 107) ⟨[]⟩ ⟨[.pointer (some ⟨b, 0, none⟩)]⟩, .func (.func 108) ⟨[]⟩ ⟨[]⟩, .func (.func 109) ⟨[]⟩ ⟨[]⟩, .func (.func 110) ⟨[]⟩ ⟨[]⟩, .func (.func 111) ⟨[]⟩ ⟨[]⟩, .int .i64 1]
theorem ints_i32 {m : AW} (hm : m.lo ≤ m.next) : Fc Tryz.prog 60 [.int .i64 32] m fun v m' => ∃ b, True ∧ v = .agg ⟨tab_i32 b⟩ ∧ Ext m m' ∧ News m m' [(b, .cells [.int .i64 32] 2 false .plain none)] := by
  refine Fc.body (c := _) Tryz.func60 rfl rfl rfl rfl hm ?_
  refine Ce.seq ?_
  refine Ce.region ?_
  refine Ie.box rfl rfl rfl rfl rfl (fun b1 hb1 => ?_)
  refine Ie.alloc rfl rfl rfl rfl zr59 (fun b2 hb2 => ?_)
  refine Ie.nil ?_
  refine Ne.seq ?_
  refine Ce.seq ?_
  refine Ce.region ?_
  refine Ie.p (v := .agg ⟨[.func (.func 98) ⟨[]⟩ ⟨[]⟩, .func (.func 99) ⟨[]⟩ ⟨[]⟩, .func (.func 100) ⟨[]⟩ ⟨[]⟩, .func (.func 101) ⟨[]⟩ ⟨[]⟩, .func (.func 102) ⟨[]⟩ ⟨[]⟩, .func (.func 103) ⟨[]⟩ ⟨[]⟩, .func (.func 104) ⟨[]⟩ ⟨[]⟩, .func (.func 105) ⟨[]⟩ ⟨[]⟩]⟩) rfl rfl rfl (by kernel_rfl) ?_
  refine Ie.p rfl rfl rfl rfl ?_
  refine Ie.p rfl rfl rfl rfl ?_
  refine Ie.p (v := .agg ⟨tab_i32 b1⟩) rfl rfl rfl (by kernel_rfl) ?_
  refine Ie.store rfl rfl rfl rfl rfl sz59 rfl (by first | exact .head | exact .tail .head | exact .tail (.tail .head) | exact .tail (.tail (.tail .head))) rfl ?_
  refine Ie.nil ?_
  refine Ne.seq ?_
  refine Ce.ret ?_
  refine Re.endH rfl (.agg rfl ag59 sz59 (by first | exact .head | exact .tail .head | exact .tail (.tail .head) | exact .tail (.tail (.tail .head)) | exact .base ‹_› ‹_› (by simp)) (Nat.le_of_ble_eq_true rfl) rfl .nil) ?_
  exact fun m hm => ⟨b1, trivial, rfl, hm.ext, hm.news (.cons _ (.refl _))⟩

theorem of_i32 {m : AW} (hm : m.lo ≤ m.next) : Fc Tryz.prog 34 [.int .i64 2] m fun v m' => ∃ b, True ∧ v = .tuple ⟨[.agg ⟨tab_i32 b⟩, .int .i64 0]⟩ ∧ Ext m m' ∧ News m m' [(b, .cells [.int .i64 32] 2 false .plain none)] := by
  refine Fc.body (c := _) Tryz.func34 rfl rfl rfl rfl hm ?_
  refine Ce.seq ?_
  refine Ce.region ?_
  refine Ie.alloc rfl rfl rfl rfl zr59 (fun b2 hb2 => ?_)
  refine Ie.p rfl rfl rfl rfl ?_
  refine Ie.nil ?_
  refine Ne.seq ?_
  refine Ce.seq ?_
  refine Ce.seq ?_
  refine Ce.region ?_
  refine Ie.p rfl rfl rfl rfl ?_
  refine Ie.nil ?_
  refine Ne.seq ?_
  refine Ce.block ?_
  refine Ce.seq ?_
  refine Ce.region ?_
  refine Ie.p rfl rfl rfl rfl ?_
  refine Ie.p rfl rfl rfl rfl ?_
  refine Ie.nil ?_
  refine Ne.seq ?_
  refine Ce.cond_false rfl ?_
  refine Ce.seq ?_
  refine Ce.region ?_
  refine Ie.p rfl rfl rfl rfl ?_
  refine Ie.p rfl rfl rfl rfl ?_
  refine Ie.nil ?_
  refine Ne.seq ?_
  refine Ce.cond_true rfl ?_
  refine Ce.seq ?_
  refine Ce.region ?_
  refine Ie.calln _ _ _ rfl rfl rfl rfl rfl rfl (fun m hm => ints_i32 hm.lole) (fun x hx => ?_)
  clear hx
  refine Ie.store rfl rfl rfl rfl rfl sz59 rfl (by first | exact .head | exact .tail .head | exact .tail (.tail .head) | exact .tail (.tail (.tail .head))) rfl ?_
  refine Ie.p rfl rfl rfl rfl ?_
  refine Ie.nil ?_
  refine Ne.seq ?_
  refine Ce.ret ?_
  refine Re.blk ?_
  refine Re.seq ?_
  refine Re.endH rfl (.agg rfl ag59 sz59 (by first | exact .head | exact .tail .head | exact .tail (.tail .head) | exact .tail (.tail (.tail .head)) | exact .base ‹_› ‹_› (by simp)) (Nat.le_of_ble_eq_true rfl) rfl (.tmp rfl .nil)) ?_
  exact fun m hm => ⟨x, trivial, rfl, hm.ext, hm.news (by first | exact .cons_cons _ (List.nil_sublist _) | exact .cons _ (.cons_cons _ (List.nil_sublist _)))⟩

def tab_i64 (b : Nat) : List Value := [.func (.func 112) ⟨[]⟩ ⟨[]⟩, .func (.func 113) ⟨[]⟩ ⟨[]⟩, .func (.func 114) ⟨[]⟩ ⟨[]⟩, .func (.func 115) ⟨[]⟩ ⟨[]⟩, .func (.func 116) ⟨[]⟩ ⟨[]⟩, .func (.func 117) ⟨[]⟩ ⟨[]⟩, .func (.func 118) ⟨[]⟩ ⟨[]⟩, .func (.func 119) ⟨[]⟩ ⟨[]⟩, .func (.func 120) ⟨[]⟩ ⟨[]⟩, .func (.func 121) ⟨[]⟩ ⟨[.pointer (some ⟨b, 0, none⟩)]⟩, .func (.func 122) ⟨[]⟩ ⟨[.pointer (some ⟨b, 0, none⟩)]⟩, .func (.func 123) ⟨[]⟩ ⟨[]⟩, .func (.func 124) ⟨[]⟩ ⟨[]⟩, .func (.func 125) ⟨[]⟩ ⟨[]⟩, .func (.func 126) ⟨[]⟩ ⟨[]⟩, .int .i64 1]
theorem ints_i64 {m : AW} (hm : m.lo ≤ m.next) : Fc Tryz.prog 61 [.int .i64 64] m fun v m' => ∃ b, True ∧ v = .agg ⟨tab_i64 b⟩ ∧ Ext m m' ∧ News m m' [(b, .cells [.int .i64 64] 2 false .plain none)] := by
  refine Fc.body (c := _) Tryz.func61 rfl rfl rfl rfl hm ?_
  refine Ce.seq ?_
  refine Ce.region ?_
  refine Ie.box rfl rfl rfl rfl rfl (fun b1 hb1 => ?_)
  refine Ie.alloc rfl rfl rfl rfl zr59 (fun b2 hb2 => ?_)
  refine Ie.nil ?_
  refine Ne.seq ?_
  refine Ce.seq ?_
  refine Ce.region ?_
  refine Ie.p (v := .agg ⟨[.func (.func 113) ⟨[]⟩ ⟨[]⟩, .func (.func 114) ⟨[]⟩ ⟨[]⟩, .func (.func 115) ⟨[]⟩ ⟨[]⟩, .func (.func 116) ⟨[]⟩ ⟨[]⟩, .func (.func 117) ⟨[]⟩ ⟨[]⟩, .func (.func 118) ⟨[]⟩ ⟨[]⟩, .func (.func 119) ⟨[]⟩ ⟨[]⟩, .func (.func 120) ⟨[]⟩ ⟨[]⟩]⟩) rfl rfl rfl (by kernel_rfl) ?_
  refine Ie.p rfl rfl rfl rfl ?_
  refine Ie.p rfl rfl rfl rfl ?_
  refine Ie.p (v := .agg ⟨tab_i64 b1⟩) rfl rfl rfl (by kernel_rfl) ?_
  refine Ie.store rfl rfl rfl rfl rfl sz59 rfl (by first | exact .head | exact .tail .head | exact .tail (.tail .head) | exact .tail (.tail (.tail .head))) rfl ?_
  refine Ie.nil ?_
  refine Ne.seq ?_
  refine Ce.ret ?_
  refine Re.endH rfl (.agg rfl ag59 sz59 (by first | exact .head | exact .tail .head | exact .tail (.tail .head) | exact .tail (.tail (.tail .head)) | exact .base ‹_› ‹_› (by simp)) (Nat.le_of_ble_eq_true rfl) rfl .nil) ?_
  exact fun m hm => ⟨b1, trivial, rfl, hm.ext, hm.news (.cons _ (.refl _))⟩

theorem of_i64 {m : AW} (hm : m.lo ≤ m.next) : Fc Tryz.prog 34 [.int .i64 3] m fun v m' => ∃ b, True ∧ v = .tuple ⟨[.agg ⟨tab_i64 b⟩, .int .i64 0]⟩ ∧ Ext m m' ∧ News m m' [(b, .cells [.int .i64 64] 2 false .plain none)] := by
  refine Fc.body (c := _) Tryz.func34 rfl rfl rfl rfl hm ?_
  refine Ce.seq ?_
  refine Ce.region ?_
  refine Ie.alloc rfl rfl rfl rfl zr59 (fun b2 hb2 => ?_)
  refine Ie.p rfl rfl rfl rfl ?_
  refine Ie.nil ?_
  refine Ne.seq ?_
  refine Ce.seq ?_
  refine Ce.seq ?_
  refine Ce.region ?_
  refine Ie.p rfl rfl rfl rfl ?_
  refine Ie.nil ?_
  refine Ne.seq ?_
  refine Ce.block ?_
  refine Ce.seq ?_
  refine Ce.region ?_
  refine Ie.p rfl rfl rfl rfl ?_
  refine Ie.p rfl rfl rfl rfl ?_
  refine Ie.nil ?_
  refine Ne.seq ?_
  refine Ce.cond_false rfl ?_
  refine Ce.seq ?_
  refine Ce.region ?_
  refine Ie.p rfl rfl rfl rfl ?_
  refine Ie.p rfl rfl rfl rfl ?_
  refine Ie.nil ?_
  refine Ne.seq ?_
  refine Ce.cond_false rfl ?_
  refine Ce.seq ?_
  refine Ce.region ?_
  refine Ie.p rfl rfl rfl rfl ?_
  refine Ie.p rfl rfl rfl rfl ?_
  refine Ie.nil ?_
  refine Ne.seq ?_
  refine Ce.cond_true rfl ?_
  refine Ce.seq ?_
  refine Ce.region ?_
  refine Ie.calln _ _ _ rfl rfl rfl rfl rfl rfl (fun m hm => ints_i64 hm.lole) (fun x hx => ?_)
  clear hx
  refine Ie.store rfl rfl rfl rfl rfl sz59 rfl (by first | exact .head | exact .tail .head | exact .tail (.tail .head) | exact .tail (.tail (.tail .head))) rfl ?_
  refine Ie.p rfl rfl rfl rfl ?_
  refine Ie.nil ?_
  refine Ne.seq ?_
  refine Ce.ret ?_
  refine Re.blk ?_
  refine Re.seq ?_
  refine Re.endH rfl (.agg rfl ag59 sz59 (by first | exact .head | exact .tail .head | exact .tail (.tail .head) | exact .tail (.tail (.tail .head)) | exact .base ‹_› ‹_› (by simp)) (Nat.le_of_ble_eq_true rfl) rfl (.tmp rfl .nil)) ?_
  exact fun m hm => ⟨x, trivial, rfl, hm.ext, hm.news (by first | exact .cons_cons _ (List.nil_sublist _) | exact .cons _ (.cons_cons _ (List.nil_sublist _)))⟩

theorem reals_ok {m : AW} (hm : m.lo ≤ m.next) : Fc Tryz.prog 62 [] m fun v m' => v = .agg ⟨tabR⟩ ∧ Ext m m' := by
  refine Fc.body (c := _) Tryz.func62 rfl rfl rfl rfl hm ?_
  refine Ce.seq ?_
  refine Ce.region ?_
  refine Ie.alloc rfl rfl rfl rfl zr59 (fun b0 hb0 => ?_)
  refine Ie.nil ?_
  refine Ne.seq ?_
  refine Ce.seq ?_
  refine Ce.region ?_
  refine Ie.p (v := .agg ⟨[.func (.func 128) ⟨[]⟩ ⟨[]⟩, .func (.func 129) ⟨[]⟩ ⟨[]⟩, .func (.func 130) ⟨[]⟩ ⟨[]⟩, .func (.func 131) ⟨[]⟩ ⟨[]⟩, .nilFunc, .nilFunc, .nilFunc, .nilFunc]⟩) rfl rfl rfl (by kernel_rfl) ?_
  refine Ie.p (v := .agg ⟨tabR⟩) rfl rfl rfl (by kernel_rfl) ?_
  refine Ie.store rfl rfl rfl rfl rfl sz59 rfl (by first | exact .head | exact .tail .head | exact .tail (.tail .head) | exact .tail (.tail (.tail .head))) rfl ?_
  refine Ie.nil ?_
  refine Ne.seq ?_
  refine Ce.ret ?_
  refine Re.endH rfl (.agg rfl ag59 sz59 (by first | exact .head | exact .tail .head | exact .tail (.tail .head) | exact .tail (.tail (.tail .head)) | exact .base ‹_› ‹_› (by simp)) (Nat.le_of_ble_eq_true rfl) rfl .nil) ?_
  exact fun m hm => ⟨rfl, hm.ext⟩

theorem of_real {m : AW} (hm : m.lo ≤ m.next) : Fc Tryz.prog 34 [.int .i64 4] m fun v m' => v = .tuple ⟨[.agg ⟨tabR⟩, .int .i64 0]⟩ ∧ Ext m m' := by
  refine Fc.body (c := _) Tryz.func34 rfl rfl rfl rfl hm ?_
  refine Ce.seq ?_
  refine Ce.region ?_
  refine Ie.alloc rfl rfl rfl rfl zr59 (fun b2 hb2 => ?_)
  refine Ie.p rfl rfl rfl rfl ?_
  refine Ie.nil ?_
  refine Ne.seq ?_
  refine Ce.seq ?_
  refine Ce.seq ?_
  refine Ce.region ?_
  refine Ie.p rfl rfl rfl rfl ?_
  refine Ie.nil ?_
  refine Ne.seq ?_
  refine Ce.block ?_
  refine Ce.seq ?_
  refine Ce.region ?_
  refine Ie.p rfl rfl rfl rfl ?_
  refine Ie.p rfl rfl rfl rfl ?_
  refine Ie.nil ?_
  refine Ne.seq ?_
  refine Ce.cond_false rfl ?_
  refine Ce.seq ?_
  refine Ce.region ?_
  refine Ie.p rfl rfl rfl rfl ?_
  refine Ie.p rfl rfl rfl rfl ?_
  refine Ie.nil ?_
  refine Ne.seq ?_
  refine Ce.cond_false rfl ?_
  refine Ce.seq ?_
  refine Ce.region ?_
  refine Ie.p rfl rfl rfl rfl ?_
  refine Ie.p rfl rfl rfl rfl ?_
  refine Ie.nil ?_
  refine Ne.seq ?_
  refine Ce.cond_false rfl ?_
  refine Ce.seq ?_
  refine Ce.region ?_
  refine Ie.p rfl rfl rfl rfl ?_
  refine Ie.p rfl rfl rfl rfl ?_
  refine Ie.nil ?_
  refine Ne.seq ?_
  refine Ce.cond_true rfl ?_
  refine Ce.seq ?_
  refine Ce.region ?_
  refine Ie.call _ rfl rfl rfl rfl rfl rfl (fun m hm => reals_ok hm.lole) ?_
  refine Ie.store rfl rfl rfl rfl rfl sz59 rfl (by first | exact .head | exact .tail .head | exact .tail (.tail .head) | exact .tail (.tail (.tail .head))) rfl ?_
  refine Ie.p rfl rfl rfl rfl ?_
  refine Ie.nil ?_
  refine Ne.seq ?_
  refine Ce.ret ?_
  refine Re.blk ?_
  refine Re.seq ?_
  refine Re.endH rfl (.agg rfl ag59 sz59 (by first | exact .head | exact .tail .head | exact .tail (.tail .head) | exact .tail (.tail (.tail .head)) | exact .base ‹_› ‹_› (by simp)) (Nat.le_of_ble_eq_true rfl) rfl (.tmp rfl .nil)) ?_
  exact fun m hm => ⟨rfl, hm.ext⟩

def tab0 : List Value := [.nilFunc, .nilFunc, .nilFunc, .nilFunc, .nilFunc, .nilFunc, .nilFunc, .nilFunc, .nilFunc, .nilFunc, .nilFunc, .nilFunc, .nilFunc, .nilFunc, .nilFunc, .int .i64 0]
theorem of_none {kind : Int} {m : AW} (hm : m.lo ≤ m.next) (h1 : kind ≠ 1) (h2 : kind ≠ 2) (h3 : kind ≠ 3) (h4 : kind ≠ 4) : Fc Tryz.prog 34 [.int .i64 kind] m fun v m' => v = .tuple ⟨[.agg ⟨tab0⟩, .int .i64 13]⟩ ∧ Ext m m' := by
  refine Fc.body (c := _) Tryz.func34 rfl rfl rfl rfl hm ?_
  refine Ce.seq ?_
  refine Ce.region ?_
  refine Ie.alloc rfl rfl rfl rfl zr59 (fun b2 hb2 => ?_)
  refine Ie.p rfl rfl rfl rfl ?_
  refine Ie.nil ?_
  refine Ne.seq ?_
  refine Ce.seq ?_
  refine Ce.seq ?_
  refine Ce.region ?_
  refine Ie.p rfl rfl rfl rfl ?_
  refine Ie.nil ?_
  refine Ne.seq ?_
  refine Ce.block ?_
  refine Ce.seq ?_
  refine Ce.region ?_
  refine Ie.p rfl rfl rfl rfl ?_
  refine Ie.p rfl rfl rfl rfl ?_
  refine Ie.nil ?_
  refine Ne.seq ?_
  refine Ce.cond_false (by rw [eqI_eq]; simp only [h1, decide_false]; rfl) ?_
  refine Ce.seq ?_
  refine Ce.region ?_
  refine Ie.p rfl rfl rfl rfl ?_
  refine Ie.p rfl rfl rfl rfl ?_
  refine Ie.nil ?_
  refine Ne.seq ?_
  refine Ce.cond_false (by rw [eqI_eq]; simp only [h2, decide_false]; rfl) ?_
  refine Ce.seq ?_
  refine Ce.region ?_
  refine Ie.p rfl rfl rfl rfl ?_
  refine Ie.p rfl rfl rfl rfl ?_
  refine Ie.nil ?_
  refine Ne.seq ?_
  refine Ce.cond_false (by rw [eqI_eq]; simp only [h3, decide_false]; rfl) ?_
  refine Ce.seq ?_
  refine Ce.region ?_
  refine Ie.p rfl rfl rfl rfl ?_
  refine Ie.p rfl rfl rfl rfl ?_
  refine Ie.nil ?_
  refine Ne.seq ?_
  refine Ce.cond_false (by rw [eqI_eq]; simp only [h4, decide_false]; rfl) ?_
  refine Ce.skip ?_
  refine Ne.blk ?_
  refine Ne.seq ?_
  refine Ce.seq ?_
  refine Ce.region ?_
  refine Ie.p (v := .agg ⟨tab0⟩) rfl rfl rfl (by kernel_rfl) ?_
  refine Ie.store rfl rfl rfl rfl rfl sz59 rfl (by first | exact .head | exact .tail .head | exact .tail (.tail .head) | exact .tail (.tail (.tail .head))) rfl ?_
  refine Ie.p rfl rfl rfl rfl ?_
  refine Ie.nil ?_
  refine Ne.seq ?_
  refine Ce.ret ?_
  refine Re.endH rfl (.agg rfl ag59 sz59 (by first | exact .head | exact .tail .head | exact .tail (.tail .head) | exact .tail (.tail (.tail .head)) | exact .base ‹_› ‹_› (by simp)) (Nat.le_of_ble_eq_true rfl) rfl (.tmp rfl .nil)) ?_
  exact fun m hm => ⟨rfl, hm.ext⟩

def bitsV (b : Nat) : Int := if nanB b then 9221120237041090561 else wr .i64 (Int.ofNat b)
def w4 (n : Int) : Int := if nanB (flb n) then 9221120237041090561 else n
theorem frombits_ok {n : Int} {m : AW} : Fc Tryz.prog 64 [.int .u64 n] m fun v m' => v = .float .f64 n.toNat ∧ Ext m m' :=
  Fc.extern Tryz.func64 rfl (by kernel_rfl)

theorem tobits_ok {b : Nat} {m : AW} : Fc Tryz.prog 66 [.float .f64 b] m fun v m' => v = .int .u64 b ∧ Ext m m' :=
  Fc.extern Tryz.func66 rfl (by kernel_rfl)

theorem float_ok {n : Int} {m : AW} (hm : m.lo ≤ m.next) : Fc Tryz.prog 36 [.int .i64 n] m fun v m' => v = .float .f64 (flb n) ∧ Ext m m' := by
  refine Fc.body (c := _) Tryz.func36 rfl rfl rfl rfl hm ?_
  refine Ce.seq ?_
  refine Ce.region ?_
  refine Ie.p rfl rfl rfl rfl ?_
  refine Ie.nil ?_
  refine Ne.seq ?_
  refine Ce.seq ?_
  refine Ce.region ?_
  refine Ie.p rfl rfl rfl rfl ?_
  refine Ie.convInt rfl rfl rfl rfl Tryz.underlying2 Tryz.underlying34 rfl ?_
  refine Ie.call _ rfl rfl rfl rfl rfl rfl (fun m hm => frombits_ok) ?_
  refine Ie.p rfl rfl rfl rfl ?_
  refine Ie.nil ?_
  refine Ne.seq ?_
  refine Ce.ret ?_
  exact Re.end_ rfl rfl (fun m hm => ⟨rfl, hm.ext⟩)

theorem value_ok {n : Int} {m : AW} (hm : m.lo ≤ m.next) : Fc Tryz.prog 43 [.int .i64 n] m fun v m' => v = .float .f64 (flb n) ∧ Ext m m' := by
  refine Fc.body (c := _) Tryz.func43 rfl rfl rfl rfl hm ?_
  refine Ce.seq ?_
  refine Ce.region ?_
  refine Ie.p rfl rfl rfl rfl ?_
  refine Ie.nil ?_
  refine Ne.seq ?_
  refine Ce.seq ?_
  refine Ce.region ?_
  refine Ie.p rfl rfl rfl rfl ?_
  refine Ie.convInt rfl rfl rfl rfl Tryz.underlying2 Tryz.underlying34 rfl ?_
  refine Ie.call _ rfl rfl rfl rfl rfl rfl (fun m hm => frombits_ok) ?_
  refine Ie.p rfl rfl rfl rfl ?_
  refine Ie.nil ?_
  refine Ne.seq ?_
  refine Ce.ret ?_
  exact Re.end_ rfl rfl (fun m hm => ⟨rfl, hm.ext⟩)

theorem bits_nan {b : Nat} {m : AW} (hm : m.lo ≤ m.next) (h : nanB b = true) : Fc Tryz.prog 55 [.float .f64 b] m fun v m' => v = .int .i64 9221120237041090561 ∧ Ext m m' := by
  refine Fc.body (c := _) Tryz.func55 rfl rfl rfl rfl hm ?_
  refine Ce.seq ?_
  refine Ce.region ?_
  refine Ie.p rfl rfl rfl rfl ?_
  refine Ie.nil ?_
  refine Ne.seq ?_
  refine Ce.seq ?_
  refine Ce.seq ?_
  refine Ce.region ?_
  refine Ie.p rfl rfl rfl rfl ?_
  refine Ie.p rfl rfl rfl rfl ?_
  refine Ie.p rfl rfl rfl rfl ?_
  refine Ie.nil ?_
  refine Ne.seq ?_
  refine Ce.cond_true (by rw [order_self, h]; rfl) ?_
  refine Ce.seq ?_
  refine Ce.region ?_
  refine Ie.p rfl rfl rfl rfl ?_
  refine Ie.nil ?_
  refine Ne.seq ?_
  refine Ce.ret ?_
  refine Re.seq ?_
  exact Re.end_ rfl rfl (fun m hm => ⟨rfl, hm.ext⟩)

theorem bits_num {b : Nat} {m : AW} (hm : m.lo ≤ m.next) (h : nanB b = false) : Fc Tryz.prog 55 [.float .f64 b] m fun v m' => v = .int .i64 (wr .i64 (Int.ofNat b)) ∧ Ext m m' := by
  refine Fc.body (c := _) Tryz.func55 rfl rfl rfl rfl hm ?_
  refine Ce.seq ?_
  refine Ce.region ?_
  refine Ie.p rfl rfl rfl rfl ?_
  refine Ie.nil ?_
  refine Ne.seq ?_
  refine Ce.seq ?_
  refine Ce.seq ?_
  refine Ce.region ?_
  refine Ie.p rfl rfl rfl rfl ?_
  refine Ie.p rfl rfl rfl rfl ?_
  refine Ie.p rfl rfl rfl rfl ?_
  refine Ie.nil ?_
  refine Ne.seq ?_
  refine Ce.cond_false (by rw [order_self, h]; rfl) ?_
  refine Ce.skip ?_
  refine Ne.seq ?_
  refine Ce.seq ?_
  refine Ce.region ?_
  refine Ie.p rfl rfl rfl rfl ?_
  refine Ie.call _ rfl rfl rfl rfl rfl rfl (fun m hm => tobits_ok) ?_
  refine Ie.convInt rfl rfl rfl rfl Tryz.underlying34 Tryz.underlying2 rfl ?_
  refine Ie.p rfl rfl rfl rfl ?_
  refine Ie.nil ?_
  refine Ne.seq ?_
  refine Ce.ret ?_
  exact Re.end_ rfl rfl (fun m hm => ⟨rfl, hm.ext⟩)

theorem bits_ok {b : Nat} {m : AW} (hm : m.lo ≤ m.next) : Fc Tryz.prog 55 [.float .f64 b] m fun v m' => v = .int .i64 (bitsV b) ∧ Ext m m' := by
  unfold bitsV
  cases h : nanB b with
  | true => exact bits_nan hm h
  | false => exact bits_num hm h

theorem bitsV_flb {n : Int} (h : Fit .i64 n) : bitsV (flb n) = w4 n := by
  unfold bitsV w4
  rw [wr_flb h]

theorem clr_1 {n : Int} {m : AW} (hm : m.lo ≤ m.next) (h : Fit .i64 n) : Fc Tryz.prog 127 [.int .i64 n] m fun v m' => v = .int .i64 (w4 n) ∧ Ext m m' := by
  refine Fc.body (c := _) Tryz.func127 rfl rfl rfl rfl hm ?_
  refine Ce.seq ?_
  refine Ce.region ?_
  refine Ie.p rfl rfl rfl rfl ?_
  refine Ie.nil ?_
  refine Ne.seq ?_
  refine Ce.seq ?_
  refine Ce.region ?_
  refine Ie.p rfl rfl rfl rfl ?_
  refine Ie.call _ rfl rfl rfl rfl rfl rfl (fun m hm => float_ok hm.lole) ?_
  refine Ie.call _ rfl rfl rfl rfl rfl rfl (fun m hm => bits_ok hm.lole) ?_
  refine Ie.p rfl rfl rfl rfl ?_
  refine Ie.nil ?_
  refine Ne.seq ?_
  refine Ce.ret ?_
  exact Re.end_ rfl rfl (fun m hm => ⟨congrArg (Value.int .i64) (bitsV_flb h), hm.ext⟩)

theorem clr_less {a b : Int} {m : AW} (hm : m.lo ≤ m.next) : Fc Tryz.prog 133 [.int .i64 a, .int .i64 b] m fun v m' => v = .bool (FloatKind.f64.format.order (flb a) (flb b) == some .lt) ∧ Ext m m' := by
  refine Fc.body (c := _) Tryz.func133 rfl rfl rfl rfl hm ?_
  refine Ce.seq ?_
  refine Ce.region ?_
  refine Ie.p rfl rfl rfl rfl ?_
  refine Ie.nil ?_
  refine Ne.seq ?_
  refine Ce.seq ?_
  refine Ce.region ?_
  refine Ie.p rfl rfl rfl rfl ?_
  refine Ie.call _ rfl rfl rfl rfl rfl rfl (fun m hm => float_ok hm.lole) ?_
  refine Ie.p rfl rfl rfl rfl ?_
  refine Ie.call _ rfl rfl rfl rfl rfl rfl (fun m hm => float_ok hm.lole) ?_
  refine Ie.p rfl rfl rfl rfl ?_
  refine Ie.p rfl rfl rfl rfl ?_
  refine Ie.nil ?_
  refine Ne.seq ?_
  refine Ce.ret ?_
  exact Re.end_ rfl rfl (fun m hm => ⟨rfl, hm.ext⟩)

theorem clr_same {a b : Int} {m : AW} (hm : m.lo ≤ m.next) : Fc Tryz.prog 134 [.int .i64 a, .int .i64 b] m fun v m' => v = .bool (FloatKind.f64.format.order (flb a) (flb b) == some .eq) ∧ Ext m m' := by
  refine Fc.body (c := _) Tryz.func134 rfl rfl rfl rfl hm ?_
  refine Ce.seq ?_
  refine Ce.region ?_
  refine Ie.p rfl rfl rfl rfl ?_
  refine Ie.nil ?_
  refine Ne.seq ?_
  refine Ce.seq ?_
  refine Ce.region ?_
  refine Ie.p rfl rfl rfl rfl ?_
  refine Ie.call _ rfl rfl rfl rfl rfl rfl (fun m hm => float_ok hm.lole) ?_
  refine Ie.p rfl rfl rfl rfl ?_
  refine Ie.call _ rfl rfl rfl rfl rfl rfl (fun m hm => float_ok hm.lole) ?_
  refine Ie.p rfl rfl rfl rfl ?_
  refine Ie.p rfl rfl rfl rfl ?_
  refine Ie.nil ?_
  refine Ne.seq ?_
  refine Ce.ret ?_
  exact Re.end_ rfl rfl (fun m hm => ⟨rfl, hm.ext⟩)

theorem cl_u8_less {a b : Int} {m : AW} (hm : m.lo ≤ m.next) (ha : Fit .u8 a) (hb : Fit .u8 b) : Fc Tryz.prog 95 [.int .i64 a, .int .i64 b] m fun v m' => v = .bool (ltI a b) ∧ Ext m m' := by
  refine Fc.body (c := _) Tryz.func95 rfl rfl rfl rfl hm ?_
  refine Ce.seq ?_
  refine Ce.region ?_
  refine Ie.p rfl rfl rfl rfl ?_
  refine Ie.nil ?_
  refine Ne.seq ?_
  refine Ce.seq ?_
  refine Ce.region ?_
  refine Ie.p rfl rfl rfl rfl ?_
  refine Ie.convInt rfl rfl rfl rfl Tryz.underlying2 Tryz.underlying5 rfl ?_
  refine Ie.p rfl rfl rfl rfl ?_
  refine Ie.convInt rfl rfl rfl rfl Tryz.underlying2 Tryz.underlying5 rfl ?_
  refine Ie.p rfl rfl rfl rfl ?_
  refine Ie.p rfl rfl rfl rfl ?_
  refine Ie.nil ?_
  refine Ne.seq ?_
  refine Ce.ret ?_
  exact Re.end_ rfl rfl (fun m hm => ⟨by simp only [show wr .u8 a = a from ha, show wr .u8 b = b from hb]; rfl, hm.ext⟩)

theorem cl_u8_same {a b : Int} {m : AW} (hm : m.lo ≤ m.next) (ha : Fit .u8 a) (hb : Fit .u8 b) : Fc Tryz.prog 96 [.int .i64 a, .int .i64 b] m fun v m' => v = .bool (eqI a b) ∧ Ext m m' := by
  refine Fc.body (c := _) Tryz.func96 rfl rfl rfl rfl hm ?_
  refine Ce.seq ?_
  refine Ce.region ?_
  refine Ie.p rfl rfl rfl rfl ?_
  refine Ie.nil ?_
  refine Ne.seq ?_
  refine Ce.seq ?_
  refine Ce.region ?_
  refine Ie.p rfl rfl rfl rfl ?_
  refine Ie.convInt rfl rfl rfl rfl Tryz.underlying2 Tryz.underlying5 rfl ?_
  refine Ie.p rfl rfl rfl rfl ?_
  refine Ie.convInt rfl rfl rfl rfl Tryz.underlying2 Tryz.underlying5 rfl ?_
  refine Ie.p rfl rfl rfl rfl ?_
  refine Ie.p rfl rfl rfl rfl ?_
  refine Ie.nil ?_
  refine Ne.seq ?_
  refine Ce.ret ?_
  exact Re.end_ rfl rfl (fun m hm => ⟨by simp only [show wr .u8 a = a from ha, show wr .u8 b = b from hb]; rfl, hm.ext⟩)

theorem cl_i32_less {a b : Int} {m : AW} (hm : m.lo ≤ m.next) (ha : Fit .i32 a) (hb : Fit .i32 b) : Fc Tryz.prog 110 [.int .i64 a, .int .i64 b] m fun v m' => v = .bool (ltI a b) ∧ Ext m m' := by
  refine Fc.body (c := _) Tryz.func110 rfl rfl rfl rfl hm ?_
  refine Ce.seq ?_
  refine Ce.region ?_
  refine Ie.p rfl rfl rfl rfl ?_
  refine Ie.nil ?_
  refine Ne.seq ?_
  refine Ce.seq ?_
  refine Ce.region ?_
  refine Ie.p rfl rfl rfl rfl ?_
  refine Ie.convInt rfl rfl rfl rfl Tryz.underlying2 Tryz.underlying21 rfl ?_
  refine Ie.p rfl rfl rfl rfl ?_
  refine Ie.convInt rfl rfl rfl rfl Tryz.underlying2 Tryz.underlying21 rfl ?_
  refine Ie.p rfl rfl rfl rfl ?_
  refine Ie.p rfl rfl rfl rfl ?_
  refine Ie.nil ?_
  refine Ne.seq ?_
  refine Ce.ret ?_
  exact Re.end_ rfl rfl (fun m hm => ⟨by simp only [show wr .i32 a = a from ha, show wr .i32 b = b from hb]; rfl, hm.ext⟩)

theorem cl_i32_same {a b : Int} {m : AW} (hm : m.lo ≤ m.next) (ha : Fit .i32 a) (hb : Fit .i32 b) : Fc Tryz.prog 111 [.int .i64 a, .int .i64 b] m fun v m' => v = .bool (eqI a b) ∧ Ext m m' := by
  refine Fc.body (c := _) Tryz.func111 rfl rfl rfl rfl hm ?_
  refine Ce.seq ?_
  refine Ce.region ?_
  refine Ie.p rfl rfl rfl rfl ?_
  refine Ie.nil ?_
  refine Ne.seq ?_
  refine Ce.seq ?_
  refine Ce.region ?_
  refine Ie.p rfl rfl rfl rfl ?_
  refine Ie.convInt rfl rfl rfl rfl Tryz.underlying2 Tryz.underlying21 rfl ?_
  refine Ie.p rfl rfl rfl rfl ?_
  refine Ie.convInt rfl rfl rfl rfl Tryz.underlying2 Tryz.underlying21 rfl ?_
  refine Ie.p rfl rfl rfl rfl ?_
  refine Ie.p rfl rfl rfl rfl ?_
  refine Ie.nil ?_
  refine Ne.seq ?_
  refine Ce.ret ?_
  exact Re.end_ rfl rfl (fun m hm => ⟨by simp only [show wr .i32 a = a from ha, show wr .i32 b = b from hb]; rfl, hm.ext⟩)

theorem cl_i64_less {a b : Int} {m : AW} (hm : m.lo ≤ m.next) (ha : Fit .i64 a) (hb : Fit .i64 b) : Fc Tryz.prog 125 [.int .i64 a, .int .i64 b] m fun v m' => v = .bool (ltI a b) ∧ Ext m m' := by
  refine Fc.body (c := _) Tryz.func125 rfl rfl rfl rfl hm ?_
  refine Ce.seq ?_
  refine Ce.region ?_
  refine Ie.p rfl rfl rfl rfl ?_
  refine Ie.nil ?_
  refine Ne.seq ?_
  refine Ce.seq ?_
  refine Ce.region ?_
  refine Ie.p rfl rfl rfl rfl ?_
  refine Ie.p rfl rfl rfl rfl ?_
  refine Ie.p rfl rfl rfl rfl ?_
  refine Ie.p rfl rfl rfl rfl ?_
  refine Ie.nil ?_
  refine Ne.seq ?_
  refine Ce.ret ?_
  exact Re.end_ rfl rfl (fun m hm => ⟨rfl, hm.ext⟩)

theorem cl_i64_same {a b : Int} {m : AW} (hm : m.lo ≤ m.next) (ha : Fit .i64 a) (hb : Fit .i64 b) : Fc Tryz.prog 126 [.int .i64 a, .int .i64 b] m fun v m' => v = .bool (eqI a b) ∧ Ext m m' := by
  refine Fc.body (c := _) Tryz.func126 rfl rfl rfl rfl hm ?_
  refine Ce.seq ?_
  refine Ce.region ?_
  refine Ie.p rfl rfl rfl rfl ?_
  refine Ie.nil ?_
  refine Ne.seq ?_
  refine Ce.seq ?_
  refine Ce.region ?_
  refine Ie.p rfl rfl rfl rfl ?_
  refine Ie.p rfl rfl rfl rfl ?_
  refine Ie.p rfl rfl rfl rfl ?_
  refine Ie.p rfl rfl rfl rfl ?_
  refine Ie.nil ?_
  refine Ne.seq ?_
  refine Ce.ret ?_
  exact Re.end_ rfl rfl (fun m hm => ⟨rfl, hm.ext⟩)

theorem isNaN_ok {n : Int} {m : AW} (hm : m.lo ≤ m.next) : Fc Tryz.prog 52 [.int .i64 n] m fun v m' => v = .bool (nanB (flb n)) ∧ Ext m m' := by
  refine Fc.body (c := _) Tryz.func52 rfl rfl rfl rfl hm ?_
  refine Ce.seq ?_
  refine Ce.region ?_
  refine Ie.p rfl rfl rfl rfl ?_
  refine Ie.nil ?_
  refine Ne.seq ?_
  refine Ce.seq ?_
  refine Ce.region ?_
  refine Ie.p rfl rfl rfl rfl ?_
  refine Ie.convInt rfl rfl rfl rfl Tryz.underlying2 Tryz.underlying34 rfl ?_
  refine Ie.p rfl rfl rfl rfl ?_
  refine Ie.nil ?_
  refine Ne.seq ?_
  refine Ce.seq ?_
  refine Ce.region ?_
  refine Ie.p rfl rfl rfl rfl ?_
  refine Ie.p rfl rfl rfl rfl ?_
  refine Ie.p rfl rfl rfl rfl ?_
  refine Ie.p rfl rfl rfl rfl ?_
  refine Ie.p rfl rfl rfl rfl ?_
  refine Ie.splitB 10 rfl (fun hs0 => ?_) (fun hs0 => ?_)
  · refine Ie.p rfl rfl rfl rfl ?_
    refine Ie.p rfl rfl rfl rfl ?_
    refine Ie.p rfl rfl rfl rfl ?_
    refine Ie.p rfl rfl rfl rfl ?_
    refine Ie.p rfl rfl rfl rfl ?_
    refine Ie.nil ?_
    refine Ne.seq ?_
    refine Ce.ret ?_
    exact Re.end_ rfl rfl (fun m hm => ⟨congrArg Value.bool (nan_T hs0), hm.ext⟩)
  · refine Ie.off rfl rfl rfl ?_
    refine Ie.off rfl rfl rfl ?_
    refine Ie.off rfl rfl rfl ?_
    refine Ie.p rfl rfl rfl rfl ?_
    refine Ie.p rfl rfl rfl rfl ?_
    refine Ie.nil ?_
    refine Ne.seq ?_
    refine Ce.ret ?_
    exact Re.end_ rfl rfl (fun m hm => ⟨congrArg Value.bool (nan_F hs0), hm.ext⟩)

theorem Kind_u8 {m : AW} (hm : m.lo ≤ m.next) : Fc Tryz.prog 14 [.int .i64 1] m fun v m' => v = .bool true ∧ Ext m m' := by
  refine Fc.body (c := _) Tryz.func14 rfl rfl rfl rfl hm ?_
  refine Ce.seq ?_
  refine Ce.region ?_
  refine Ie.p rfl rfl rfl rfl ?_
  refine Ie.nil ?_
  refine Ne.seq ?_
  refine Ce.seq ?_
  refine Ce.region ?_
  refine Ie.p rfl rfl rfl rfl ?_
  refine Ie.p rfl rfl rfl rfl ?_
  refine Ie.p rfl rfl rfl rfl ?_
  refine Ie.off rfl rfl rfl ?_
  refine Ie.off rfl rfl rfl ?_
  refine Ie.p rfl rfl rfl rfl ?_
  refine Ie.p rfl rfl rfl rfl ?_
  refine Ie.off rfl rfl rfl ?_
  refine Ie.off rfl rfl rfl ?_
  refine Ie.p rfl rfl rfl rfl ?_
  refine Ie.p rfl rfl rfl rfl ?_
  refine Ie.off rfl rfl rfl ?_
  refine Ie.off rfl rfl rfl ?_
  refine Ie.p rfl rfl rfl rfl ?_
  refine Ie.p rfl rfl rfl rfl ?_
  refine Ie.nil ?_
  refine Ne.seq ?_
  refine Ce.ret ?_
  exact Re.end_ rfl rfl (fun m hm => ⟨rfl, hm.ext⟩)

theorem RWrap_u8 {n : Int} {m : AW} (hm : m.lo ≤ m.next) (h : Fit .i64 n) : Fc Tryz.prog 22 [.int .i64 1, .int .i64 n] m fun v m' => v = .int .i64 (wr .u8 n) ∧ Ext m m' := by
  refine Fc.body (c := _) Tryz.func22 rfl rfl rfl rfl hm ?_
  refine Ce.seq ?_
  refine Ce.region ?_
  refine Ie.p rfl rfl rfl rfl ?_
  refine Ie.nil ?_
  refine Ne.seq ?_
  refine Ce.seq ?_
  refine Ce.seq ?_
  refine Ce.region ?_
  refine Ie.p rfl rfl rfl rfl ?_
  refine Ie.nil ?_
  refine Ne.seq ?_
  refine Ce.block ?_
  refine Ce.seq ?_
  refine Ce.region ?_
  refine Ie.p rfl rfl rfl rfl ?_
  refine Ie.p rfl rfl rfl rfl ?_
  refine Ie.nil ?_
  refine Ne.seq ?_
  refine Ce.cond_true rfl ?_
  refine Ce.seq ?_
  refine Ce.region ?_
  refine Ie.p rfl rfl rfl rfl ?_
  refine Ie.p rfl rfl rfl rfl ?_
  refine Ie.p rfl rfl rfl rfl ?_
  refine Ie.nil ?_
  refine Ne.seq ?_
  refine Ce.ret ?_
  refine Re.blk ?_
  refine Re.seq ?_
  exact Re.end_ rfl rfl (fun m hm => ⟨congrArg (Value.int .i64) (and255 _), hm.ext⟩)

theorem Kind_i32 {m : AW} (hm : m.lo ≤ m.next) : Fc Tryz.prog 14 [.int .i64 2] m fun v m' => v = .bool true ∧ Ext m m' := by
  refine Fc.body (c := _) Tryz.func14 rfl rfl rfl rfl hm ?_
  refine Ce.seq ?_
  refine Ce.region ?_
  refine Ie.p rfl rfl rfl rfl ?_
  refine Ie.nil ?_
  refine Ne.seq ?_
  refine Ce.seq ?_
  refine Ce.region ?_
  refine Ie.p rfl rfl rfl rfl ?_
  refine Ie.p rfl rfl rfl rfl ?_
  refine Ie.p rfl rfl rfl rfl ?_
  refine Ie.p rfl rfl rfl rfl ?_
  refine Ie.p rfl rfl rfl rfl ?_
  refine Ie.p rfl rfl rfl rfl ?_
  refine Ie.p rfl rfl rfl rfl ?_
  refine Ie.off rfl rfl rfl ?_
  refine Ie.off rfl rfl rfl ?_
  refine Ie.p rfl rfl rfl rfl ?_
  refine Ie.p rfl rfl rfl rfl ?_
  refine Ie.off rfl rfl rfl ?_
  refine Ie.off rfl rfl rfl ?_
  refine Ie.p rfl rfl rfl rfl ?_
  refine Ie.p rfl rfl rfl rfl ?_
  refine Ie.nil ?_
  refine Ne.seq ?_
  refine Ce.ret ?_
  exact Re.end_ rfl rfl (fun m hm => ⟨rfl, hm.ext⟩)

theorem RWrap_i32 {n : Int} {m : AW} (hm : m.lo ≤ m.next) (h : Fit .i64 n) : Fc Tryz.prog 22 [.int .i64 2, .int .i64 n] m fun v m' => v = .int .i64 (wr .i32 n) ∧ Ext m m' := by
  refine Fc.body (c := _) Tryz.func22 rfl rfl rfl rfl hm ?_
  refine Ce.seq ?_
  refine Ce.region ?_
  refine Ie.p rfl rfl rfl rfl ?_
  refine Ie.nil ?_
  refine Ne.seq ?_
  refine Ce.seq ?_
  refine Ce.seq ?_
  refine Ce.region ?_
  refine Ie.p rfl rfl rfl rfl ?_
  refine Ie.nil ?_
  refine Ne.seq ?_
  refine Ce.block ?_
  refine Ce.seq ?_
  refine Ce.region ?_
  refine Ie.p rfl rfl rfl rfl ?_
  refine Ie.p rfl rfl rfl rfl ?_
  refine Ie.nil ?_
  refine Ne.seq ?_
  refine Ce.cond_false rfl ?_
  refine Ce.seq ?_
  refine Ce.region ?_
  refine Ie.p rfl rfl rfl rfl ?_
  refine Ie.p rfl rfl rfl rfl ?_
  refine Ie.nil ?_
  refine Ne.seq ?_
  refine Ce.cond_true rfl ?_
  refine Ce.seq ?_
  refine Ce.region ?_
  refine Ie.p rfl rfl rfl rfl ?_
  refine Ie.convInt rfl rfl rfl rfl Tryz.underlying2 Tryz.underlying34 rfl ?_
  refine Ie.convInt rfl rfl rfl rfl Tryz.underlying34 Tryz.underlying83 rfl ?_
  refine Ie.convInt rfl rfl rfl rfl Tryz.underlying83 Tryz.underlying21 rfl ?_
  refine Ie.convInt rfl rfl rfl rfl Tryz.underlying21 Tryz.underlying2 rfl ?_
  refine Ie.p rfl rfl rfl rfl ?_
  refine Ie.nil ?_
  refine Ne.seq ?_
  refine Ce.ret ?_
  refine Re.blk ?_
  refine Re.seq ?_
  exact Re.end_ rfl rfl (fun m hm => ⟨congrArg (Value.int .i64) ((by rw [wr64 _ _ (by decide) (by decide), wr_wr (k := .i32) (k' := .u32) (by decide), wr_wr (k := .i32) (k' := .u64) (by decide)])), hm.ext⟩)

theorem Kind_i64 {m : AW} (hm : m.lo ≤ m.next) : Fc Tryz.prog 14 [.int .i64 3] m fun v m' => v = .bool true ∧ Ext m m' := by
  refine Fc.body (c := _) Tryz.func14 rfl rfl rfl rfl hm ?_
  refine Ce.seq ?_
  refine Ce.region ?_
  refine Ie.p rfl rfl rfl rfl ?_
  refine Ie.nil ?_
  refine Ne.seq ?_
  refine Ce.seq ?_
  refine Ce.region ?_
  refine Ie.p rfl rfl rfl rfl ?_
  refine Ie.p rfl rfl rfl rfl ?_
  refine Ie.p rfl rfl rfl rfl ?_
  refine Ie.p rfl rfl rfl rfl ?_
  refine Ie.p rfl rfl rfl rfl ?_
  refine Ie.p rfl rfl rfl rfl ?_
  refine Ie.p rfl rfl rfl rfl ?_
  refine Ie.p rfl rfl rfl rfl ?_
  refine Ie.p rfl rfl rfl rfl ?_
  refine Ie.p rfl rfl rfl rfl ?_
  refine Ie.p rfl rfl rfl rfl ?_
  refine Ie.off rfl rfl rfl ?_
  refine Ie.off rfl rfl rfl ?_
  refine Ie.p rfl rfl rfl rfl ?_
  refine Ie.p rfl rfl rfl rfl ?_
  refine Ie.nil ?_
  refine Ne.seq ?_
  refine Ce.ret ?_
  exact Re.end_ rfl rfl (fun m hm => ⟨rfl, hm.ext⟩)

theorem RWrap_i64 {n : Int} {m : AW} (hm : m.lo ≤ m.next) (h : Fit .i64 n) : Fc Tryz.prog 22 [.int .i64 3, .int .i64 n] m fun v m' => v = .int .i64 (wr .i64 n) ∧ Ext m m' := by
  refine Fc.body (c := _) Tryz.func22 rfl rfl rfl rfl hm ?_
  refine Ce.seq ?_
  refine Ce.region ?_
  refine Ie.p rfl rfl rfl rfl ?_
  refine Ie.nil ?_
  refine Ne.seq ?_
  refine Ce.seq ?_
  refine Ce.seq ?_
  refine Ce.region ?_
  refine Ie.p rfl rfl rfl rfl ?_
  refine Ie.nil ?_
  refine Ne.seq ?_
  refine Ce.block ?_
  refine Ce.seq ?_
  refine Ce.region ?_
  refine Ie.p rfl rfl rfl rfl ?_
  refine Ie.p rfl rfl rfl rfl ?_
  refine Ie.nil ?_
  refine Ne.seq ?_
  refine Ce.cond_false rfl ?_
  refine Ce.seq ?_
  refine Ce.region ?_
  refine Ie.p rfl rfl rfl rfl ?_
  refine Ie.p rfl rfl rfl rfl ?_
  refine Ie.nil ?_
  refine Ne.seq ?_
  refine Ce.cond_false rfl ?_
  refine Ce.seq ?_
  refine Ce.region ?_
  refine Ie.p rfl rfl rfl rfl ?_
  refine Ie.p rfl rfl rfl rfl ?_
  refine Ie.nil ?_
  refine Ne.seq ?_
  refine Ce.cond_false rfl ?_
  refine Ce.skip ?_
  refine Ne.blk ?_
  refine Ne.seq ?_
  refine Ce.seq ?_
  refine Ce.region ?_
  refine Ie.p rfl rfl rfl rfl ?_
  refine Ie.p rfl rfl rfl rfl ?_
  refine Ie.nil ?_
  refine Ne.seq ?_
  refine Ce.ret ?_
  exact Re.end_ rfl rfl (fun m hm => ⟨congrArg (Value.int .i64) (h.symm), hm.ext⟩)

theorem Kind_real {m : AW} (hm : m.lo ≤ m.next) : Fc Tryz.prog 14 [.int .i64 4] m fun v m' => v = .bool true ∧ Ext m m' := by
  refine Fc.body (c := _) Tryz.func14 rfl rfl rfl rfl hm ?_
  refine Ce.seq ?_
  refine Ce.region ?_
  refine Ie.p rfl rfl rfl rfl ?_
  refine Ie.nil ?_
  refine Ne.seq ?_
  refine Ce.seq ?_
  refine Ce.region ?_
  refine Ie.p rfl rfl rfl rfl ?_
  refine Ie.p rfl rfl rfl rfl ?_
  refine Ie.p rfl rfl rfl rfl ?_
  refine Ie.p rfl rfl rfl rfl ?_
  refine Ie.p rfl rfl rfl rfl ?_
  refine Ie.p rfl rfl rfl rfl ?_
  refine Ie.p rfl rfl rfl rfl ?_
  refine Ie.p rfl rfl rfl rfl ?_
  refine Ie.p rfl rfl rfl rfl ?_
  refine Ie.p rfl rfl rfl rfl ?_
  refine Ie.p rfl rfl rfl rfl ?_
  refine Ie.p rfl rfl rfl rfl ?_
  refine Ie.p rfl rfl rfl rfl ?_
  refine Ie.p rfl rfl rfl rfl ?_
  refine Ie.p rfl rfl rfl rfl ?_
  refine Ie.nil ?_
  refine Ne.seq ?_
  refine Ce.ret ?_
  exact Re.end_ rfl rfl (fun m hm => ⟨rfl, hm.ext⟩)

theorem RWrap_nan {n : Int} {m : AW} (hm : m.lo ≤ m.next) (h : nanB (flb n) = true) : Fc Tryz.prog 22 [.int .i64 4, .int .i64 n] m fun v m' => v = .int .i64 9221120237041090561 ∧ Ext m m' := by
  refine Fc.body (c := _) Tryz.func22 rfl rfl rfl rfl hm ?_
  refine Ce.seq ?_
  refine Ce.region ?_
  refine Ie.p rfl rfl rfl rfl ?_
  refine Ie.nil ?_
  refine Ne.seq ?_
  refine Ce.seq ?_
  refine Ce.seq ?_
  refine Ce.region ?_
  refine Ie.p rfl rfl rfl rfl ?_
  refine Ie.nil ?_
  refine Ne.seq ?_
  refine Ce.block ?_
  refine Ce.seq ?_
  refine Ce.region ?_
  refine Ie.p rfl rfl rfl rfl ?_
  refine Ie.p rfl rfl rfl rfl ?_
  refine Ie.nil ?_
  refine Ne.seq ?_
  refine Ce.cond_false rfl ?_
  refine Ce.seq ?_
  refine Ce.region ?_
  refine Ie.p rfl rfl rfl rfl ?_
  refine Ie.p rfl rfl rfl rfl ?_
  refine Ie.nil ?_
  refine Ne.seq ?_
  refine Ce.cond_false rfl ?_
  refine Ce.seq ?_
  refine Ce.region ?_
  refine Ie.p rfl rfl rfl rfl ?_
  refine Ie.p rfl rfl rfl rfl ?_
  refine Ie.nil ?_
  refine Ne.seq ?_
  refine Ce.cond_true rfl ?_
  refine Ce.seq ?_
  refine Ce.region ?_
  refine Ie.p rfl rfl rfl rfl ?_
  refine Ie.call _ rfl rfl rfl rfl rfl rfl (fun m hm => isNaN_ok hm.lole) ?_
  refine Ie.nil ?_
  refine Ne.seq ?_
  refine Ce.cond_true (by rw [h]; rfl) ?_
  refine Ce.seq ?_
  refine Ce.region ?_
  refine Ie.p rfl rfl rfl rfl ?_
  refine Ie.nil ?_
  refine Ne.seq ?_
  refine Ce.ret ?_
  refine Re.blk ?_
  refine Re.seq ?_
  exact Re.end_ rfl rfl (fun m hm => ⟨rfl, hm.ext⟩)

theorem RWrap_num {n : Int} {m : AW} (hm : m.lo ≤ m.next) (h : nanB (flb n) = false) : Fc Tryz.prog 22 [.int .i64 4, .int .i64 n] m fun v m' => v = .int .i64 n ∧ Ext m m' := by
  refine Fc.body (c := _) Tryz.func22 rfl rfl rfl rfl hm ?_
  refine Ce.seq ?_
  refine Ce.region ?_
  refine Ie.p rfl rfl rfl rfl ?_
  refine Ie.nil ?_
  refine Ne.seq ?_
  refine Ce.seq ?_
  refine Ce.seq ?_
  refine Ce.region ?_
  refine Ie.p rfl rfl rfl rfl ?_
  refine Ie.nil ?_
  refine Ne.seq ?_
  refine Ce.block ?_
  refine Ce.seq ?_
  refine Ce.region ?_
  refine Ie.p rfl rfl rfl rfl ?_
  refine Ie.p rfl rfl rfl rfl ?_
  refine Ie.nil ?_
  refine Ne.seq ?_
  refine Ce.cond_false rfl ?_
  refine Ce.seq ?_
  refine Ce.region ?_
  refine Ie.p rfl rfl rfl rfl ?_
  refine Ie.p rfl rfl rfl rfl ?_
  refine Ie.nil ?_
  refine Ne.seq ?_
  refine Ce.cond_false rfl ?_
  refine Ce.seq ?_
  refine Ce.region ?_
  refine Ie.p rfl rfl rfl rfl ?_
  refine Ie.p rfl rfl rfl rfl ?_
  refine Ie.nil ?_
  refine Ne.seq ?_
  refine Ce.cond_true rfl ?_
  refine Ce.seq ?_
  refine Ce.region ?_
  refine Ie.p rfl rfl rfl rfl ?_
  refine Ie.call _ rfl rfl rfl rfl rfl rfl (fun m hm => isNaN_ok hm.lole) ?_
  refine Ie.nil ?_
  refine Ne.seq ?_
  refine Ce.cond_false (by rw [h]; rfl) ?_
  refine Ce.skip ?_
  refine Ne.blk ?_
  refine Ne.seq ?_
  refine Ce.seq ?_
  refine Ce.region ?_
  refine Ie.p rfl rfl rfl rfl ?_
  refine Ie.p rfl rfl rfl rfl ?_
  refine Ie.nil ?_
  refine Ne.seq ?_
  refine Ce.ret ?_
  exact Re.end_ rfl rfl (fun m hm => ⟨rfl, hm.ext⟩)

theorem RWrap_real {n : Int} {m : AW} (hm : m.lo ≤ m.next) (_ : Fit .i64 n) : Fc Tryz.prog 22 [.int .i64 4, .int .i64 n] m fun v m' => v = .int .i64 (w4 n) ∧ Ext m m' := by
  unfold w4
  cases h : nanB (flb n) with
  | true => exact RWrap_nan hm h
  | false => exact RWrap_num hm h

theorem Kind_none {kind : Int} {m : AW} (hm : m.lo ≤ m.next) (h1 : kind ≠ 1) (h2 : kind ≠ 2) (h3 : kind ≠ 3) (h4 : kind ≠ 4) : Fc Tryz.prog 14 [.int .i64 kind] m fun v m' => v = .bool false ∧ Ext m m' := by
  refine Fc.body (c := _) Tryz.func14 rfl rfl rfl rfl hm ?_
  refine Ce.seq ?_
  refine Ce.region ?_
  refine Ie.p rfl rfl rfl rfl ?_
  refine Ie.nil ?_
  refine Ne.seq ?_
  refine Ce.seq ?_
  refine Ce.region ?_
  refine Ie.p rfl rfl rfl rfl ?_
  refine Ie.bin (v := .bool false) rfl rfl rfl rfl rfl rfl (binS_neql h1) ?_
  refine Ie.p rfl rfl rfl rfl ?_
  refine Ie.p rfl rfl rfl rfl ?_
  refine Ie.bin (v := .bool false) rfl rfl rfl rfl rfl rfl (binS_neql h2) ?_
  refine Ie.p rfl rfl rfl rfl ?_
  refine Ie.p rfl rfl rfl rfl ?_
  refine Ie.p rfl rfl rfl rfl ?_
  refine Ie.bin (v := .bool false) rfl rfl rfl rfl rfl rfl (binS_neql h3) ?_
  refine Ie.p rfl rfl rfl rfl ?_
  refine Ie.p rfl rfl rfl rfl ?_
  refine Ie.p rfl rfl rfl rfl ?_
  refine Ie.bin (v := .bool false) rfl rfl rfl rfl rfl rfl (binS_neql h4) ?_
  refine Ie.p rfl rfl rfl rfl ?_
  refine Ie.p rfl rfl rfl rfl ?_
  refine Ie.nil ?_
  refine Ne.seq ?_
  refine Ce.ret ?_
  exact Re.end_ rfl rfl (fun m hm => ⟨rfl, hm.ext⟩)

theorem Compare_u8_10 {a b : Int} {m : AW} (hm : m.lo ≤ m.next) (ha : Fit .i64 a) (hb : Fit .i64 b) : Fc Tryz.prog 29 [.int .i64 1, .int .i64 10, .int .i64 a, .int .i64 b] m fun v m' => v = .tuple ⟨[.bool (eqI (wr .u8 a) (wr .u8 b)), .int .i64 0]⟩ ∧ Ext m m' := by
  refine Fc.body (c := _) Tryz.func29 rfl rfl rfl rfl hm ?_
  refine Ce.seq ?_
  refine Ce.region ?_
  refine Ie.p rfl rfl rfl rfl ?_
  refine Ie.p rfl rfl rfl rfl ?_
  refine Ie.nil ?_
  refine Ne.seq ?_
  refine Ce.seq ?_
  refine Ce.region ?_
  refine Ie.p rfl rfl rfl rfl ?_
  refine Ie.calln _ _ _ rfl rfl rfl rfl rfl rfl (fun m hm => of_u8 hm.lole) (fun x hx => ?_)
  clear hx
  refine Ie.p rfl rfl rfl rfl ?_
  refine Ie.p rfl rfl rfl rfl ?_
  refine Ie.p rfl rfl rfl rfl ?_
  refine Ie.alloc rfl rfl rfl rfl zr59 (fun b10 hb10 => ?_)
  refine Ie.store rfl rfl rfl rfl rfl sz59 rfl (by first | exact .head | exact .tail .head | exact .tail (.tail .head) | exact .tail (.tail (.tail .head))) rfl ?_
  refine Ie.p rfl rfl rfl rfl ?_
  refine Ie.nil ?_
  refine Ne.seq ?_
  refine Ce.seq ?_
  refine Ce.seq ?_
  refine Ce.region ?_
  refine Ie.p rfl rfl rfl rfl ?_
  refine Ie.p rfl rfl rfl rfl ?_
  refine Ie.nil ?_
  refine Ne.seq ?_
  refine Ce.cond_false rfl ?_
  refine Ce.skip ?_
  refine Ne.seq ?_
  refine Ce.seq ?_
  refine Ce.draw [⟨0, .p, true, true, 0⟩, ⟨1, .l, true, true, 1⟩, ⟨2, .p, true, true, 0⟩, ⟨3, .h, true, true, 7⟩, ⟨4, .p, false, false, 0⟩, ⟨5, .l, false, false, 16⟩, ⟨6, .p, false, false, 0⟩, ⟨7, .h, true, true, 127⟩, ⟨8, .p, true, true, 255⟩, ⟨9, .p, true, true, 511⟩] (by kernel_rfl) (by kernel_rfl) (fun base hbase hB => ?_)
  refine De.fieldAddr rfl rfl rfl rfl rfl rfl fa59_0 ?_
  refine De.load rfl rfl rfl rfl rfl rfl rfl rfl ag54 (by first | exact .head | exact .tail .head | exact .tail (.tail .head) | exact .tail (.tail (.tail .head)) | exact .base ‹_› ‹_› (by simp)) rfl ?_
  refine De.p rfl rfl rfl rfl rfl ?_
  refine De.call _ rfl rfl rfl rfl rfl rfl rfl rfl rfl (fun m hm => cl_u8_1 hm.lole ha) ?_
  refine De.fieldAddr rfl rfl rfl rfl rfl rfl fa59_0 ?_
  refine De.loadOld rfl rfl rfl rfl rfl rfl ag54 (by first | exact .head | exact .tail .head | exact .tail (.tail .head) | exact .tail (.tail (.tail .head)) | exact .base ‹_› ‹_› (by simp)) rfl (by first | exact hB _ _ (.head _) | exact hB _ _ (.tail _ (.head _)) | exact hB _ _ (.tail _ (.tail _ (.head _))) | exact hB _ _ (.tail _ (.tail _ (.tail _ (.head _)))) | exact Nat.lt_of_lt_of_le ‹_› hbase) (fun _ => ?_)
  refine De.p rfl rfl rfl rfl rfl ?_
  refine De.call _ rfl rfl rfl rfl rfl rfl rfl rfl rfl (fun m hm => cl_u8_1 hm.lole hb) ?_
  refine De.p rfl rfl rfl rfl rfl ?_
  refine De.p rfl rfl rfl rfl rfl ?_
  refine De.nil ?_
  refine Ne.seq ?_
  refine Ce.seq ?_
  refine Ce.seq ?_
  refine Ce.region ?_
  refine Ie.p rfl rfl rfl rfl ?_
  refine Ie.nil ?_
  refine Ne.seq ?_
  refine Ce.block ?_
  refine Ce.seq ?_
  refine Ce.region ?_
  refine Ie.p rfl rfl rfl rfl ?_
  refine Ie.p rfl rfl rfl rfl ?_
  refine Ie.nil ?_
  refine Ne.seq ?_
  refine Ce.cond_true rfl ?_
  refine Ce.seq ?_
  refine Ce.region ?_
  refine Ie.fieldAddr rfl rfl rfl rfl rfl fa59_7 ?_
  refine Ie.load rfl rfl rfl rfl rfl ag57 (by first | exact .head | exact .tail .head | exact .tail (.tail .head) | exact .tail (.tail (.tail .head)) | exact .base ‹_› ‹_› (by simp)) rfl ?_
  refine Ie.p rfl rfl rfl rfl ?_
  refine Ie.p rfl rfl rfl rfl ?_
  refine Ie.call _ rfl rfl rfl rfl rfl rfl (fun m hm => cl_u8_same hm.lole (Fit.wr _ _) (Fit.wr _ _)) ?_
  refine Ie.p rfl rfl rfl rfl ?_
  refine Ie.p rfl rfl rfl rfl ?_
  refine Ie.nil ?_
  refine Ne.seq ?_
  refine Ce.ret ?_
  refine Re.blk ?_
  refine Re.seq ?_
  exact Re.end_ rfl rfl (fun m hm => ⟨rfl, hm.ext⟩)

theorem RCompare_u8_10 {a b : Int} {m : AW} (hm : m.lo ≤ m.next) (ha : Fit .i64 a) (hb : Fit .i64 b) : Fc Tryz.prog 31 [.int .i64 1, .int .i64 10, .int .i64 a, .int .i64 b] m fun v m' => v = .bool ((!ltI (wr .u8 a) (wr .u8 b) && !ltI (wr .u8 b) (wr .u8 a))) ∧ Ext m m' := by
  refine Fc.body (c := _) Tryz.func31 rfl rfl rfl rfl hm ?_
  refine Ce.seq ?_
  refine Ce.region ?_
  refine Ie.p rfl rfl rfl rfl ?_
  refine Ie.nil ?_
  refine Ne.seq ?_
  refine Ce.seq ?_
  refine Ce.region ?_
  refine Ie.p rfl rfl rfl rfl ?_
  refine Ie.p rfl rfl rfl rfl ?_
  refine Ie.call _ rfl rfl rfl rfl rfl rfl (fun m hm => RWrap_u8 hm.lole ha) ?_
  refine Ie.p rfl rfl rfl rfl ?_
  refine Ie.p rfl rfl rfl rfl ?_
  refine Ie.call _ rfl rfl rfl rfl rfl rfl (fun m hm => RWrap_u8 hm.lole hb) ?_
  refine Ie.p rfl rfl rfl rfl ?_
  refine Ie.p rfl rfl rfl rfl ?_
  refine Ie.nil ?_
  refine Ne.seq ?_
  refine Ce.seq ?_
  refine Ce.region ?_
  refine Ie.p rfl rfl rfl rfl ?_
  refine Ie.p rfl rfl rfl rfl ?_
  refine Ie.p rfl rfl rfl rfl ?_
  refine Ie.p rfl rfl rfl rfl ?_
  refine Ie.p rfl rfl rfl rfl ?_
  refine Ie.p rfl rfl rfl rfl ?_
  refine Ie.p rfl rfl rfl rfl ?_
  refine Ie.p rfl rfl rfl rfl ?_
  refine Ie.nil ?_
  refine Ne.seq ?_
  refine Ce.seq ?_
  refine Ce.seq ?_
  refine Ce.region ?_
  refine Ie.p rfl rfl rfl rfl ?_
  refine Ie.p rfl rfl rfl rfl ?_
  refine Ie.nil ?_
  refine Ne.seq ?_
  refine Ce.cond_false rfl ?_
  refine Ce.skip ?_
  refine Ne.seq ?_
  refine Ce.seq ?_
  refine Ce.seq ?_
  refine Ce.region ?_
  refine Ie.p rfl rfl rfl rfl ?_
  refine Ie.nil ?_
  refine Ne.seq ?_
  refine Ce.block ?_
  refine Ce.seq ?_
  refine Ce.region ?_
  refine Ie.p rfl rfl rfl rfl ?_
  refine Ie.p rfl rfl rfl rfl ?_
  refine Ie.nil ?_
  refine Ne.seq ?_
  refine Ce.cond_true rfl ?_
  refine Ce.seq ?_
  refine Ce.region ?_
  refine Ie.p rfl rfl rfl rfl ?_
  refine Ie.p rfl rfl rfl rfl ?_
  refine Ie.p rfl rfl rfl rfl ?_
  refine Ie.splitB 48 rfl (fun hs0 => ?_) (fun hs0 => ?_)
  · refine Ie.p rfl rfl rfl rfl ?_
    refine Ie.p rfl rfl rfl rfl ?_
    refine Ie.p rfl rfl rfl rfl ?_
    refine Ie.p rfl rfl rfl rfl ?_
    refine Ie.nil ?_
    refine Ne.seq ?_
    refine Ce.ret ?_
    refine Re.blk ?_
    refine Re.seq ?_
    exact Re.end_ rfl rfl (fun m hm => ⟨by first | rfl | (rw [hs0]; rfl), hm.ext⟩)
  · refine Ie.off rfl rfl rfl ?_
    refine Ie.off rfl rfl rfl ?_
    refine Ie.p rfl rfl rfl rfl ?_
    refine Ie.p rfl rfl rfl rfl ?_
    refine Ie.nil ?_
    refine Ne.seq ?_
    refine Ce.ret ?_
    refine Re.blk ?_
    refine Re.seq ?_
    exact Re.end_ rfl rfl (fun m hm => ⟨by first | rfl | (rw [hs0]; rfl), hm.ext⟩)

theorem Compare_u8_11 {a b : Int} {m : AW} (hm : m.lo ≤ m.next) (ha : Fit .i64 a) (hb : Fit .i64 b) : Fc Tryz.prog 29 [.int .i64 1, .int .i64 11, .int .i64 a, .int .i64 b] m fun v m' => v = .tuple ⟨[.bool ((!eqI (wr .u8 a) (wr .u8 b))), .int .i64 0]⟩ ∧ Ext m m' := by
  refine Fc.body (c := _) Tryz.func29 rfl rfl rfl rfl hm ?_
  refine Ce.seq ?_
  refine Ce.region ?_
  refine Ie.p rfl rfl rfl rfl ?_
  refine Ie.p rfl rfl rfl rfl ?_
  refine Ie.nil ?_
  refine Ne.seq ?_
  refine Ce.seq ?_
  refine Ce.region ?_
  refine Ie.p rfl rfl rfl rfl ?_
  refine Ie.calln _ _ _ rfl rfl rfl rfl rfl rfl (fun m hm => of_u8 hm.lole) (fun x hx => ?_)
  clear hx
  refine Ie.p rfl rfl rfl rfl ?_
  refine Ie.p rfl rfl rfl rfl ?_
  refine Ie.p rfl rfl rfl rfl ?_
  refine Ie.alloc rfl rfl rfl rfl zr59 (fun b10 hb10 => ?_)
  refine Ie.store rfl rfl rfl rfl rfl sz59 rfl (by first | exact .head | exact .tail .head | exact .tail (.tail .head) | exact .tail (.tail (.tail .head))) rfl ?_
  refine Ie.p rfl rfl rfl rfl ?_
  refine Ie.nil ?_
  refine Ne.seq ?_
  refine Ce.seq ?_
  refine Ce.seq ?_
  refine Ce.region ?_
  refine Ie.p rfl rfl rfl rfl ?_
  refine Ie.p rfl rfl rfl rfl ?_
  refine Ie.nil ?_
  refine Ne.seq ?_
  refine Ce.cond_false rfl ?_
  refine Ce.skip ?_
  refine Ne.seq ?_
  refine Ce.seq ?_
  refine Ce.draw [⟨0, .p, true, true, 0⟩, ⟨1, .l, true, true, 1⟩, ⟨2, .p, true, true, 0⟩, ⟨3, .h, true, true, 7⟩, ⟨4, .p, false, false, 0⟩, ⟨5, .l, false, false, 16⟩, ⟨6, .p, false, false, 0⟩, ⟨7, .h, true, true, 127⟩, ⟨8, .p, true, true, 255⟩, ⟨9, .p, true, true, 511⟩] (by kernel_rfl) (by kernel_rfl) (fun base hbase hB => ?_)
  refine De.fieldAddr rfl rfl rfl rfl rfl rfl fa59_0 ?_
  refine De.load rfl rfl rfl rfl rfl rfl rfl rfl ag54 (by first | exact .head | exact .tail .head | exact .tail (.tail .head) | exact .tail (.tail (.tail .head)) | exact .base ‹_› ‹_› (by simp)) rfl ?_
  refine De.p rfl rfl rfl rfl rfl ?_
  refine De.call _ rfl rfl rfl rfl rfl rfl rfl rfl rfl (fun m hm => cl_u8_1 hm.lole ha) ?_
  refine De.fieldAddr rfl rfl rfl rfl rfl rfl fa59_0 ?_
  refine De.loadOld rfl rfl rfl rfl rfl rfl ag54 (by first | exact .head | exact .tail .head | exact .tail (.tail .head) | exact .tail (.tail (.tail .head)) | exact .base ‹_› ‹_› (by simp)) rfl (by first | exact hB _ _ (.head _) | exact hB _ _ (.tail _ (.head _)) | exact hB _ _ (.tail _ (.tail _ (.head _))) | exact hB _ _ (.tail _ (.tail _ (.tail _ (.head _)))) | exact Nat.lt_of_lt_of_le ‹_› hbase) (fun _ => ?_)
  refine De.p rfl rfl rfl rfl rfl ?_
  refine De.call _ rfl rfl rfl rfl rfl rfl rfl rfl rfl (fun m hm => cl_u8_1 hm.lole hb) ?_
  refine De.p rfl rfl rfl rfl rfl ?_
  refine De.p rfl rfl rfl rfl rfl ?_
  refine De.nil ?_
  refine Ne.seq ?_
  refine Ce.seq ?_
  refine Ce.seq ?_
  refine Ce.region ?_
  refine Ie.p rfl rfl rfl rfl ?_
  refine Ie.nil ?_
  refine Ne.seq ?_
  refine Ce.block ?_
  refine Ce.seq ?_
  refine Ce.region ?_
  refine Ie.p rfl rfl rfl rfl ?_
  refine Ie.p rfl rfl rfl rfl ?_
  refine Ie.nil ?_
  refine Ne.seq ?_
  refine Ce.cond_false rfl ?_
  refine Ce.seq ?_
  refine Ce.region ?_
  refine Ie.p rfl rfl rfl rfl ?_
  refine Ie.p rfl rfl rfl rfl ?_
  refine Ie.nil ?_
  refine Ne.seq ?_
  refine Ce.cond_true rfl ?_
  refine Ce.seq ?_
  refine Ce.region ?_
  refine Ie.fieldAddr rfl rfl rfl rfl rfl fa59_7 ?_
  refine Ie.load rfl rfl rfl rfl rfl ag57 (by first | exact .head | exact .tail .head | exact .tail (.tail .head) | exact .tail (.tail (.tail .head)) | exact .base ‹_› ‹_› (by simp)) rfl ?_
  refine Ie.p rfl rfl rfl rfl ?_
  refine Ie.p rfl rfl rfl rfl ?_
  refine Ie.call _ rfl rfl rfl rfl rfl rfl (fun m hm => cl_u8_same hm.lole (Fit.wr _ _) (Fit.wr _ _)) ?_
  refine Ie.p rfl rfl rfl rfl ?_
  refine Ie.p rfl rfl rfl rfl ?_
  refine Ie.p rfl rfl rfl rfl ?_
  refine Ie.nil ?_
  refine Ne.seq ?_
  refine Ce.ret ?_
  refine Re.blk ?_
  refine Re.seq ?_
  exact Re.end_ rfl rfl (fun m hm => ⟨rfl, hm.ext⟩)

theorem RCompare_u8_11 {a b : Int} {m : AW} (hm : m.lo ≤ m.next) (ha : Fit .i64 a) (hb : Fit .i64 b) : Fc Tryz.prog 31 [.int .i64 1, .int .i64 11, .int .i64 a, .int .i64 b] m fun v m' => v = .bool ((ltI (wr .u8 a) (wr .u8 b) || ltI (wr .u8 b) (wr .u8 a))) ∧ Ext m m' := by
  refine Fc.body (c := _) Tryz.func31 rfl rfl rfl rfl hm ?_
  refine Ce.seq ?_
  refine Ce.region ?_
  refine Ie.p rfl rfl rfl rfl ?_
  refine Ie.nil ?_
  refine Ne.seq ?_
  refine Ce.seq ?_
  refine Ce.region ?_
  refine Ie.p rfl rfl rfl rfl ?_
  refine Ie.p rfl rfl rfl rfl ?_
  refine Ie.call _ rfl rfl rfl rfl rfl rfl (fun m hm => RWrap_u8 hm.lole ha) ?_
  refine Ie.p rfl rfl rfl rfl ?_
  refine Ie.p rfl rfl rfl rfl ?_
  refine Ie.call _ rfl rfl rfl rfl rfl rfl (fun m hm => RWrap_u8 hm.lole hb) ?_
  refine Ie.p rfl rfl rfl rfl ?_
  refine Ie.p rfl rfl rfl rfl ?_
  refine Ie.nil ?_
  refine Ne.seq ?_
  refine Ce.seq ?_
  refine Ce.region ?_
  refine Ie.p rfl rfl rfl rfl ?_
  refine Ie.p rfl rfl rfl rfl ?_
  refine Ie.p rfl rfl rfl rfl ?_
  refine Ie.p rfl rfl rfl rfl ?_
  refine Ie.p rfl rfl rfl rfl ?_
  refine Ie.p rfl rfl rfl rfl ?_
  refine Ie.p rfl rfl rfl rfl ?_
  refine Ie.p rfl rfl rfl rfl ?_
  refine Ie.nil ?_
  refine Ne.seq ?_
  refine Ce.seq ?_
  refine Ce.seq ?_
  refine Ce.region ?_
  refine Ie.p rfl rfl rfl rfl ?_
  refine Ie.p rfl rfl rfl rfl ?_
  refine Ie.nil ?_
  refine Ne.seq ?_
  refine Ce.cond_false rfl ?_
  refine Ce.skip ?_
  refine Ne.seq ?_
  refine Ce.seq ?_
  refine Ce.seq ?_
  refine Ce.region ?_
  refine Ie.p rfl rfl rfl rfl ?_
  refine Ie.nil ?_
  refine Ne.seq ?_
  refine Ce.block ?_
  refine Ce.seq ?_
  refine Ce.region ?_
  refine Ie.p rfl rfl rfl rfl ?_
  refine Ie.p rfl rfl rfl rfl ?_
  refine Ie.nil ?_
  refine Ne.seq ?_
  refine Ce.cond_false rfl ?_
  refine Ce.seq ?_
  refine Ce.region ?_
  refine Ie.p rfl rfl rfl rfl ?_
  refine Ie.p rfl rfl rfl rfl ?_
  refine Ie.nil ?_
  refine Ne.seq ?_
  refine Ce.cond_true rfl ?_
  refine Ce.seq ?_
  refine Ce.region ?_
  refine Ie.p rfl rfl rfl rfl ?_
  refine Ie.p rfl rfl rfl rfl ?_
  refine Ie.splitB 55 rfl (fun hs0 => ?_) (fun hs0 => ?_)
  · refine Ie.off rfl rfl rfl ?_
    refine Ie.p rfl rfl rfl rfl ?_
    refine Ie.p rfl rfl rfl rfl ?_
    refine Ie.nil ?_
    refine Ne.seq ?_
    refine Ce.ret ?_
    refine Re.blk ?_
    refine Re.seq ?_
    exact Re.end_ rfl rfl (fun m hm => ⟨by first | rfl | (rw [hs0]; rfl), hm.ext⟩)
  · refine Ie.p rfl rfl rfl rfl ?_
    refine Ie.p rfl rfl rfl rfl ?_
    refine Ie.p rfl rfl rfl rfl ?_
    refine Ie.nil ?_
    refine Ne.seq ?_
    refine Ce.ret ?_
    refine Re.blk ?_
    refine Re.seq ?_
    exact Re.end_ rfl rfl (fun m hm => ⟨by first | rfl | (rw [hs0]; rfl), hm.ext⟩)

theorem Compare_u8_12 {a b : Int} {m : AW} (hm : m.lo ≤ m.next) (ha : Fit .i64 a) (hb : Fit .i64 b) : Fc Tryz.prog 29 [.int .i64 1, .int .i64 12, .int .i64 a, .int .i64 b] m fun v m' => v = .tuple ⟨[.bool (ltI (wr .u8 a) (wr .u8 b)), .int .i64 0]⟩ ∧ Ext m m' := by
  refine Fc.body (c := _) Tryz.func29 rfl rfl rfl rfl hm ?_
  refine Ce.seq ?_
  refine Ce.region ?_
  refine Ie.p rfl rfl rfl rfl ?_
  refine Ie.p rfl rfl rfl rfl ?_
  refine Ie.nil ?_
  refine Ne.seq ?_
  refine Ce.seq ?_
  refine Ce.region ?_
  refine Ie.p rfl rfl rfl rfl ?_
  refine Ie.calln _ _ _ rfl rfl rfl rfl rfl rfl (fun m hm => of_u8 hm.lole) (fun x hx => ?_)
  clear hx
  refine Ie.p rfl rfl rfl rfl ?_
  refine Ie.p rfl rfl rfl rfl ?_
  refine Ie.p rfl rfl rfl rfl ?_
  refine Ie.alloc rfl rfl rfl rfl zr59 (fun b10 hb10 => ?_)
  refine Ie.store rfl rfl rfl rfl rfl sz59 rfl (by first | exact .head | exact .tail .head | exact .tail (.tail .head) | exact .tail (.tail (.tail .head))) rfl ?_
  refine Ie.p rfl rfl rfl rfl ?_
  refine Ie.nil ?_
  refine Ne.seq ?_
  refine Ce.seq ?_
  refine Ce.seq ?_
  refine Ce.region ?_
  refine Ie.p rfl rfl rfl rfl ?_
  refine Ie.p rfl rfl rfl rfl ?_
  refine Ie.nil ?_
  refine Ne.seq ?_
  refine Ce.cond_false rfl ?_
  refine Ce.skip ?_
  refine Ne.seq ?_
  refine Ce.seq ?_
  refine Ce.draw [⟨0, .p, true, true, 0⟩, ⟨1, .l, true, true, 1⟩, ⟨2, .p, true, true, 0⟩, ⟨3, .h, true, true, 7⟩, ⟨4, .p, false, false, 0⟩, ⟨5, .l, false, false, 16⟩, ⟨6, .p, false, false, 0⟩, ⟨7, .h, true, true, 127⟩, ⟨8, .p, true, true, 255⟩, ⟨9, .p, true, true, 511⟩] (by kernel_rfl) (by kernel_rfl) (fun base hbase hB => ?_)
  refine De.fieldAddr rfl rfl rfl rfl rfl rfl fa59_0 ?_
  refine De.load rfl rfl rfl rfl rfl rfl rfl rfl ag54 (by first | exact .head | exact .tail .head | exact .tail (.tail .head) | exact .tail (.tail (.tail .head)) | exact .base ‹_› ‹_› (by simp)) rfl ?_
  refine De.p rfl rfl rfl rfl rfl ?_
  refine De.call _ rfl rfl rfl rfl rfl rfl rfl rfl rfl (fun m hm => cl_u8_1 hm.lole ha) ?_
  refine De.fieldAddr rfl rfl rfl rfl rfl rfl fa59_0 ?_
  refine De.loadOld rfl rfl rfl rfl rfl rfl ag54 (by first | exact .head | exact .tail .head | exact .tail (.tail .head) | exact .tail (.tail (.tail .head)) | exact .base ‹_› ‹_› (by simp)) rfl (by first | exact hB _ _ (.head _) | exact hB _ _ (.tail _ (.head _)) | exact hB _ _ (.tail _ (.tail _ (.head _))) | exact hB _ _ (.tail _ (.tail _ (.tail _ (.head _)))) | exact Nat.lt_of_lt_of_le ‹_› hbase) (fun _ => ?_)
  refine De.p rfl rfl rfl rfl rfl ?_
  refine De.call _ rfl rfl rfl rfl rfl rfl rfl rfl rfl (fun m hm => cl_u8_1 hm.lole hb) ?_
  refine De.p rfl rfl rfl rfl rfl ?_
  refine De.p rfl rfl rfl rfl rfl ?_
  refine De.nil ?_
  refine Ne.seq ?_
  refine Ce.seq ?_
  refine Ce.seq ?_
  refine Ce.region ?_
  refine Ie.p rfl rfl rfl rfl ?_
  refine Ie.nil ?_
  refine Ne.seq ?_
  refine Ce.block ?_
  refine Ce.seq ?_
  refine Ce.region ?_
  refine Ie.p rfl rfl rfl rfl ?_
  refine Ie.p rfl rfl rfl rfl ?_
  refine Ie.nil ?_
  refine Ne.seq ?_
  refine Ce.cond_false rfl ?_
  refine Ce.seq ?_
  refine Ce.region ?_
  refine Ie.p rfl rfl rfl rfl ?_
  refine Ie.p rfl rfl rfl rfl ?_
  refine Ie.nil ?_
  refine Ne.seq ?_
  refine Ce.cond_false rfl ?_
  refine Ce.seq ?_
  refine Ce.region ?_
  refine Ie.p rfl rfl rfl rfl ?_
  refine Ie.p rfl rfl rfl rfl ?_
  refine Ie.nil ?_
  refine Ne.seq ?_
  refine Ce.cond_true rfl ?_
  refine Ce.seq ?_
  refine Ce.region ?_
  refine Ie.fieldAddr rfl rfl rfl rfl rfl fa59_6 ?_
  refine Ie.load rfl rfl rfl rfl rfl ag57 (by first | exact .head | exact .tail .head | exact .tail (.tail .head) | exact .tail (.tail (.tail .head)) | exact .base ‹_› ‹_› (by simp)) rfl ?_
  refine Ie.p rfl rfl rfl rfl ?_
  refine Ie.p rfl rfl rfl rfl ?_
  refine Ie.call _ rfl rfl rfl rfl rfl rfl (fun m hm => cl_u8_less hm.lole (Fit.wr _ _) (Fit.wr _ _)) ?_
  refine Ie.p rfl rfl rfl rfl ?_
  refine Ie.p rfl rfl rfl rfl ?_
  refine Ie.nil ?_
  refine Ne.seq ?_
  refine Ce.ret ?_
  refine Re.blk ?_
  refine Re.seq ?_
  exact Re.end_ rfl rfl (fun m hm => ⟨rfl, hm.ext⟩)

theorem RCompare_u8_12 {a b : Int} {m : AW} (hm : m.lo ≤ m.next) (ha : Fit .i64 a) (hb : Fit .i64 b) : Fc Tryz.prog 31 [.int .i64 1, .int .i64 12, .int .i64 a, .int .i64 b] m fun v m' => v = .bool (ltI (wr .u8 a) (wr .u8 b)) ∧ Ext m m' := by
  refine Fc.body (c := _) Tryz.func31 rfl rfl rfl rfl hm ?_
  refine Ce.seq ?_
  refine Ce.region ?_
  refine Ie.p rfl rfl rfl rfl ?_
  refine Ie.nil ?_
  refine Ne.seq ?_
  refine Ce.seq ?_
  refine Ce.region ?_
  refine Ie.p rfl rfl rfl rfl ?_
  refine Ie.p rfl rfl rfl rfl ?_
  refine Ie.call _ rfl rfl rfl rfl rfl rfl (fun m hm => RWrap_u8 hm.lole ha) ?_
  refine Ie.p rfl rfl rfl rfl ?_
  refine Ie.p rfl rfl rfl rfl ?_
  refine Ie.call _ rfl rfl rfl rfl rfl rfl (fun m hm => RWrap_u8 hm.lole hb) ?_
  refine Ie.p rfl rfl rfl rfl ?_
  refine Ie.p rfl rfl rfl rfl ?_
  refine Ie.nil ?_
  refine Ne.seq ?_
  refine Ce.seq ?_
  refine Ce.region ?_
  refine Ie.p rfl rfl rfl rfl ?_
  refine Ie.p rfl rfl rfl rfl ?_
  refine Ie.p rfl rfl rfl rfl ?_
  refine Ie.p rfl rfl rfl rfl ?_
  refine Ie.p rfl rfl rfl rfl ?_
  refine Ie.p rfl rfl rfl rfl ?_
  refine Ie.p rfl rfl rfl rfl ?_
  refine Ie.p rfl rfl rfl rfl ?_
  refine Ie.nil ?_
  refine Ne.seq ?_
  refine Ce.seq ?_
  refine Ce.seq ?_
  refine Ce.region ?_
  refine Ie.p rfl rfl rfl rfl ?_
  refine Ie.p rfl rfl rfl rfl ?_
  refine Ie.nil ?_
  refine Ne.seq ?_
  refine Ce.cond_false rfl ?_
  refine Ce.skip ?_
  refine Ne.seq ?_
  refine Ce.seq ?_
  refine Ce.seq ?_
  refine Ce.region ?_
  refine Ie.p rfl rfl rfl rfl ?_
  refine Ie.nil ?_
  refine Ne.seq ?_
  refine Ce.block ?_
  refine Ce.seq ?_
  refine Ce.region ?_
  refine Ie.p rfl rfl rfl rfl ?_
  refine Ie.p rfl rfl rfl rfl ?_
  refine Ie.nil ?_
  refine Ne.seq ?_
  refine Ce.cond_false rfl ?_
  refine Ce.seq ?_
  refine Ce.region ?_
  refine Ie.p rfl rfl rfl rfl ?_
  refine Ie.p rfl rfl rfl rfl ?_
  refine Ie.nil ?_
  refine Ne.seq ?_
  refine Ce.cond_false rfl ?_
  refine Ce.seq ?_
  refine Ce.region ?_
  refine Ie.p rfl rfl rfl rfl ?_
  refine Ie.p rfl rfl rfl rfl ?_
  refine Ie.nil ?_
  refine Ne.seq ?_
  refine Ce.cond_true rfl ?_
  refine Ce.seq ?_
  refine Ce.region ?_
  refine Ie.p rfl rfl rfl rfl ?_
  refine Ie.p rfl rfl rfl rfl ?_
  refine Ie.nil ?_
  refine Ne.seq ?_
  refine Ce.ret ?_
  refine Re.blk ?_
  refine Re.seq ?_
  exact Re.end_ rfl rfl (fun m hm => ⟨rfl, hm.ext⟩)

theorem Compare_u8_13 {a b : Int} {m : AW} (hm : m.lo ≤ m.next) (ha : Fit .i64 a) (hb : Fit .i64 b) : Fc Tryz.prog 29 [.int .i64 1, .int .i64 13, .int .i64 a, .int .i64 b] m fun v m' => v = .tuple ⟨[.bool ((ltI (wr .u8 a) (wr .u8 b) || eqI (wr .u8 a) (wr .u8 b))), .int .i64 0]⟩ ∧ Ext m m' := by
  refine Fc.body (c := _) Tryz.func29 rfl rfl rfl rfl hm ?_
  refine Ce.seq ?_
  refine Ce.region ?_
  refine Ie.p rfl rfl rfl rfl ?_
  refine Ie.p rfl rfl rfl rfl ?_
  refine Ie.nil ?_
  refine Ne.seq ?_
  refine Ce.seq ?_
  refine Ce.region ?_
  refine Ie.p rfl rfl rfl rfl ?_
  refine Ie.calln _ _ _ rfl rfl rfl rfl rfl rfl (fun m hm => of_u8 hm.lole) (fun x hx => ?_)
  clear hx
  refine Ie.p rfl rfl rfl rfl ?_
  refine Ie.p rfl rfl rfl rfl ?_
  refine Ie.p rfl rfl rfl rfl ?_
  refine Ie.alloc rfl rfl rfl rfl zr59 (fun b10 hb10 => ?_)
  refine Ie.store rfl rfl rfl rfl rfl sz59 rfl (by first | exact .head | exact .tail .head | exact .tail (.tail .head) | exact .tail (.tail (.tail .head))) rfl ?_
  refine Ie.p rfl rfl rfl rfl ?_
  refine Ie.nil ?_
  refine Ne.seq ?_
  refine Ce.seq ?_
  refine Ce.seq ?_
  refine Ce.region ?_
  refine Ie.p rfl rfl rfl rfl ?_
  refine Ie.p rfl rfl rfl rfl ?_
  refine Ie.nil ?_
  refine Ne.seq ?_
  refine Ce.cond_false rfl ?_
  refine Ce.skip ?_
  refine Ne.seq ?_
  refine Ce.seq ?_
  refine Ce.draw [⟨0, .p, true, true, 0⟩, ⟨1, .l, true, true, 1⟩, ⟨2, .p, true, true, 0⟩, ⟨3, .h, true, true, 7⟩, ⟨4, .p, false, false, 0⟩, ⟨5, .l, false, false, 16⟩, ⟨6, .p, false, false, 0⟩, ⟨7, .h, true, true, 127⟩, ⟨8, .p, true, true, 255⟩, ⟨9, .p, true, true, 511⟩] (by kernel_rfl) (by kernel_rfl) (fun base hbase hB => ?_)
  refine De.fieldAddr rfl rfl rfl rfl rfl rfl fa59_0 ?_
  refine De.load rfl rfl rfl rfl rfl rfl rfl rfl ag54 (by first | exact .head | exact .tail .head | exact .tail (.tail .head) | exact .tail (.tail (.tail .head)) | exact .base ‹_› ‹_› (by simp)) rfl ?_
  refine De.p rfl rfl rfl rfl rfl ?_
  refine De.call _ rfl rfl rfl rfl rfl rfl rfl rfl rfl (fun m hm => cl_u8_1 hm.lole ha) ?_
  refine De.fieldAddr rfl rfl rfl rfl rfl rfl fa59_0 ?_
  refine De.loadOld rfl rfl rfl rfl rfl rfl ag54 (by first | exact .head | exact .tail .head | exact .tail (.tail .head) | exact .tail (.tail (.tail .head)) | exact .base ‹_› ‹_› (by simp)) rfl (by first | exact hB _ _ (.head _) | exact hB _ _ (.tail _ (.head _)) | exact hB _ _ (.tail _ (.tail _ (.head _))) | exact hB _ _ (.tail _ (.tail _ (.tail _ (.head _)))) | exact Nat.lt_of_lt_of_le ‹_› hbase) (fun _ => ?_)
  refine De.p rfl rfl rfl rfl rfl ?_
  refine De.call _ rfl rfl rfl rfl rfl rfl rfl rfl rfl (fun m hm => cl_u8_1 hm.lole hb) ?_
  refine De.p rfl rfl rfl rfl rfl ?_
  refine De.p rfl rfl rfl rfl rfl ?_
  refine De.nil ?_
  refine Ne.seq ?_
  refine Ce.seq ?_
  refine Ce.seq ?_
  refine Ce.region ?_
  refine Ie.p rfl rfl rfl rfl ?_
  refine Ie.nil ?_
  refine Ne.seq ?_
  refine Ce.block ?_
  refine Ce.seq ?_
  refine Ce.region ?_
  refine Ie.p rfl rfl rfl rfl ?_
  refine Ie.p rfl rfl rfl rfl ?_
  refine Ie.nil ?_
  refine Ne.seq ?_
  refine Ce.cond_false rfl ?_
  refine Ce.seq ?_
  refine Ce.region ?_
  refine Ie.p rfl rfl rfl rfl ?_
  refine Ie.p rfl rfl rfl rfl ?_
  refine Ie.nil ?_
  refine Ne.seq ?_
  refine Ce.cond_false rfl ?_
  refine Ce.seq ?_
  refine Ce.region ?_
  refine Ie.p rfl rfl rfl rfl ?_
  refine Ie.p rfl rfl rfl rfl ?_
  refine Ie.nil ?_
  refine Ne.seq ?_
  refine Ce.cond_false rfl ?_
  refine Ce.seq ?_
  refine Ce.region ?_
  refine Ie.p rfl rfl rfl rfl ?_
  refine Ie.p rfl rfl rfl rfl ?_
  refine Ie.nil ?_
  refine Ne.seq ?_
  refine Ce.cond_true rfl ?_
  refine Ce.seq ?_
  refine Ce.region ?_
  refine Ie.fieldAddr rfl rfl rfl rfl rfl fa59_6 ?_
  refine Ie.load rfl rfl rfl rfl rfl ag57 (by first | exact .head | exact .tail .head | exact .tail (.tail .head) | exact .tail (.tail (.tail .head)) | exact .base ‹_› ‹_› (by simp)) rfl ?_
  refine Ie.p rfl rfl rfl rfl ?_
  refine Ie.p rfl rfl rfl rfl ?_
  refine Ie.call _ rfl rfl rfl rfl rfl rfl (fun m hm => cl_u8_less hm.lole (Fit.wr _ _) (Fit.wr _ _)) ?_
  refine Ie.p rfl rfl rfl rfl ?_
  refine Ie.splitB 58 rfl (fun hs0 => ?_) (fun hs0 => ?_)
  · refine Ie.off rfl rfl rfl ?_
    refine Ie.off rfl rfl rfl ?_
    refine Ie.off rfl rfl rfl ?_
    refine Ie.off rfl rfl rfl ?_
    refine Ie.off rfl rfl rfl ?_
    refine Ie.p rfl rfl rfl rfl ?_
    refine Ie.p rfl rfl rfl rfl ?_
    refine Ie.p rfl rfl rfl rfl ?_
    refine Ie.nil ?_
    refine Ne.seq ?_
    refine Ce.ret ?_
    refine Re.blk ?_
    refine Re.seq ?_
    exact Re.end_ rfl rfl (fun m hm => ⟨by first | rfl | (rw [hs0]; rfl), hm.ext⟩)
  · refine Ie.fieldAddr rfl rfl rfl rfl rfl fa59_7 ?_
    refine Ie.load rfl rfl rfl rfl rfl ag57 (by first | exact .head | exact .tail .head | exact .tail (.tail .head) | exact .tail (.tail (.tail .head)) | exact .base ‹_› ‹_› (by simp)) rfl ?_
    refine Ie.p rfl rfl rfl rfl ?_
    refine Ie.p rfl rfl rfl rfl ?_
    refine Ie.call _ rfl rfl rfl rfl rfl rfl (fun m hm => cl_u8_same hm.lole (Fit.wr _ _) (Fit.wr _ _)) ?_
    refine Ie.p rfl rfl rfl rfl ?_
    refine Ie.p rfl rfl rfl rfl ?_
    refine Ie.p rfl rfl rfl rfl ?_
    refine Ie.nil ?_
    refine Ne.seq ?_
    refine Ce.ret ?_
    refine Re.blk ?_
    refine Re.seq ?_
    exact Re.end_ rfl rfl (fun m hm => ⟨by first | rfl | (rw [hs0]; rfl), hm.ext⟩)

theorem RCompare_u8_13 {a b : Int} {m : AW} (hm : m.lo ≤ m.next) (ha : Fit .i64 a) (hb : Fit .i64 b) : Fc Tryz.prog 31 [.int .i64 1, .int .i64 13, .int .i64 a, .int .i64 b] m fun v m' => v = .bool ((!ltI (wr .u8 b) (wr .u8 a))) ∧ Ext m m' := by
  refine Fc.body (c := _) Tryz.func31 rfl rfl rfl rfl hm ?_
  refine Ce.seq ?_
  refine Ce.region ?_
  refine Ie.p rfl rfl rfl rfl ?_
  refine Ie.nil ?_
  refine Ne.seq ?_
  refine Ce.seq ?_
  refine Ce.region ?_
  refine Ie.p rfl rfl rfl rfl ?_
  refine Ie.p rfl rfl rfl rfl ?_
  refine Ie.call _ rfl rfl rfl rfl rfl rfl (fun m hm => RWrap_u8 hm.lole ha) ?_
  refine Ie.p rfl rfl rfl rfl ?_
  refine Ie.p rfl rfl rfl rfl ?_
  refine Ie.call _ rfl rfl rfl rfl rfl rfl (fun m hm => RWrap_u8 hm.lole hb) ?_
  refine Ie.p rfl rfl rfl rfl ?_
  refine Ie.p rfl rfl rfl rfl ?_
  refine Ie.nil ?_
  refine Ne.seq ?_
  refine Ce.seq ?_
  refine Ce.region ?_
  refine Ie.p rfl rfl rfl rfl ?_
  refine Ie.p rfl rfl rfl rfl ?_
  refine Ie.p rfl rfl rfl rfl ?_
  refine Ie.p rfl rfl rfl rfl ?_
  refine Ie.p rfl rfl rfl rfl ?_
  refine Ie.p rfl rfl rfl rfl ?_
  refine Ie.p rfl rfl rfl rfl ?_
  refine Ie.p rfl rfl rfl rfl ?_
  refine Ie.nil ?_
  refine Ne.seq ?_
  refine Ce.seq ?_
  refine Ce.seq ?_
  refine Ce.region ?_
  refine Ie.p rfl rfl rfl rfl ?_
  refine Ie.p rfl rfl rfl rfl ?_
  refine Ie.nil ?_
  refine Ne.seq ?_
  refine Ce.cond_false rfl ?_
  refine Ce.skip ?_
  refine Ne.seq ?_
  refine Ce.seq ?_
  refine Ce.seq ?_
  refine Ce.region ?_
  refine Ie.p rfl rfl rfl rfl ?_
  refine Ie.nil ?_
  refine Ne.seq ?_
  refine Ce.block ?_
  refine Ce.seq ?_
  refine Ce.region ?_
  refine Ie.p rfl rfl rfl rfl ?_
  refine Ie.p rfl rfl rfl rfl ?_
  refine Ie.nil ?_
  refine Ne.seq ?_
  refine Ce.cond_false rfl ?_
  refine Ce.seq ?_
  refine Ce.region ?_
  refine Ie.p rfl rfl rfl rfl ?_
  refine Ie.p rfl rfl rfl rfl ?_
  refine Ie.nil ?_
  refine Ne.seq ?_
  refine Ce.cond_false rfl ?_
  refine Ce.seq ?_
  refine Ce.region ?_
  refine Ie.p rfl rfl rfl rfl ?_
  refine Ie.p rfl rfl rfl rfl ?_
  refine Ie.nil ?_
  refine Ne.seq ?_
  refine Ce.cond_false rfl ?_
  refine Ce.seq ?_
  refine Ce.region ?_
  refine Ie.p rfl rfl rfl rfl ?_
  refine Ie.p rfl rfl rfl rfl ?_
  refine Ie.nil ?_
  refine Ne.seq ?_
  refine Ce.cond_true rfl ?_
  refine Ce.seq ?_
  refine Ce.region ?_
  refine Ie.p rfl rfl rfl rfl ?_
  refine Ie.p rfl rfl rfl rfl ?_
  refine Ie.p rfl rfl rfl rfl ?_
  refine Ie.nil ?_
  refine Ne.seq ?_
  refine Ce.ret ?_
  refine Re.blk ?_
  refine Re.seq ?_
  exact Re.end_ rfl rfl (fun m hm => ⟨rfl, hm.ext⟩)

theorem Compare_u8_14 {a b : Int} {m : AW} (hm : m.lo ≤ m.next) (ha : Fit .i64 a) (hb : Fit .i64 b) : Fc Tryz.prog 29 [.int .i64 1, .int .i64 14, .int .i64 a, .int .i64 b] m fun v m' => v = .tuple ⟨[.bool (ltI (wr .u8 b) (wr .u8 a)), .int .i64 0]⟩ ∧ Ext m m' := by
  refine Fc.body (c := _) Tryz.func29 rfl rfl rfl rfl hm ?_
  refine Ce.seq ?_
  refine Ce.region ?_
  refine Ie.p rfl rfl rfl rfl ?_
  refine Ie.p rfl rfl rfl rfl ?_
  refine Ie.nil ?_
  refine Ne.seq ?_
  refine Ce.seq ?_
  refine Ce.region ?_
  refine Ie.p rfl rfl rfl rfl ?_
  refine Ie.calln _ _ _ rfl rfl rfl rfl rfl rfl (fun m hm => of_u8 hm.lole) (fun x hx => ?_)
  clear hx
  refine Ie.p rfl rfl rfl rfl ?_
  refine Ie.p rfl rfl rfl rfl ?_
  refine Ie.p rfl rfl rfl rfl ?_
  refine Ie.alloc rfl rfl rfl rfl zr59 (fun b10 hb10 => ?_)
  refine Ie.store rfl rfl rfl rfl rfl sz59 rfl (by first | exact .head | exact .tail .head | exact .tail (.tail .head) | exact .tail (.tail (.tail .head))) rfl ?_
  refine Ie.p rfl rfl rfl rfl ?_
  refine Ie.nil ?_
  refine Ne.seq ?_
  refine Ce.seq ?_
  refine Ce.seq ?_
  refine Ce.region ?_
  refine Ie.p rfl rfl rfl rfl ?_
  refine Ie.p rfl rfl rfl rfl ?_
  refine Ie.nil ?_
  refine Ne.seq ?_
  refine Ce.cond_false rfl ?_
  refine Ce.skip ?_
  refine Ne.seq ?_
  refine Ce.seq ?_
  refine Ce.draw [⟨0, .p, true, true, 0⟩, ⟨1, .l, true, true, 1⟩, ⟨2, .p, true, true, 0⟩, ⟨3, .h, true, true, 7⟩, ⟨4, .p, false, false, 0⟩, ⟨5, .l, false, false, 16⟩, ⟨6, .p, false, false, 0⟩, ⟨7, .h, true, true, 127⟩, ⟨8, .p, true, true, 255⟩, ⟨9, .p, true, true, 511⟩] (by kernel_rfl) (by kernel_rfl) (fun base hbase hB => ?_)
  refine De.fieldAddr rfl rfl rfl rfl rfl rfl fa59_0 ?_
  refine De.load rfl rfl rfl rfl rfl rfl rfl rfl ag54 (by first | exact .head | exact .tail .head | exact .tail (.tail .head) | exact .tail (.tail (.tail .head)) | exact .base ‹_› ‹_› (by simp)) rfl ?_
  refine De.p rfl rfl rfl rfl rfl ?_
  refine De.call _ rfl rfl rfl rfl rfl rfl rfl rfl rfl (fun m hm => cl_u8_1 hm.lole ha) ?_
  refine De.fieldAddr rfl rfl rfl rfl rfl rfl fa59_0 ?_
  refine De.loadOld rfl rfl rfl rfl rfl rfl ag54 (by first | exact .head | exact .tail .head | exact .tail (.tail .head) | exact .tail (.tail (.tail .head)) | exact .base ‹_› ‹_› (by simp)) rfl (by first | exact hB _ _ (.head _) | exact hB _ _ (.tail _ (.head _)) | exact hB _ _ (.tail _ (.tail _ (.head _))) | exact hB _ _ (.tail _ (.tail _ (.tail _ (.head _)))) | exact Nat.lt_of_lt_of_le ‹_› hbase) (fun _ => ?_)
  refine De.p rfl rfl rfl rfl rfl ?_
  refine De.call _ rfl rfl rfl rfl rfl rfl rfl rfl rfl (fun m hm => cl_u8_1 hm.lole hb) ?_
  refine De.p rfl rfl rfl rfl rfl ?_
  refine De.p rfl rfl rfl rfl rfl ?_
  refine De.nil ?_
  refine Ne.seq ?_
  refine Ce.seq ?_
  refine Ce.seq ?_
  refine Ce.region ?_
  refine Ie.p rfl rfl rfl rfl ?_
  refine Ie.nil ?_
  refine Ne.seq ?_
  refine Ce.block ?_
  refine Ce.seq ?_
  refine Ce.region ?_
  refine Ie.p rfl rfl rfl rfl ?_
  refine Ie.p rfl rfl rfl rfl ?_
  refine Ie.nil ?_
  refine Ne.seq ?_
  refine Ce.cond_false rfl ?_
  refine Ce.seq ?_
  refine Ce.region ?_
  refine Ie.p rfl rfl rfl rfl ?_
  refine Ie.p rfl rfl rfl rfl ?_
  refine Ie.nil ?_
  refine Ne.seq ?_
  refine Ce.cond_false rfl ?_
  refine Ce.seq ?_
  refine Ce.region ?_
  refine Ie.p rfl rfl rfl rfl ?_
  refine Ie.p rfl rfl rfl rfl ?_
  refine Ie.nil ?_
  refine Ne.seq ?_
  refine Ce.cond_false rfl ?_
  refine Ce.seq ?_
  refine Ce.region ?_
  refine Ie.p rfl rfl rfl rfl ?_
  refine Ie.p rfl rfl rfl rfl ?_
  refine Ie.nil ?_
  refine Ne.seq ?_
  refine Ce.cond_false rfl ?_
  refine Ce.seq ?_
  refine Ce.region ?_
  refine Ie.p rfl rfl rfl rfl ?_
  refine Ie.p rfl rfl rfl rfl ?_
  refine Ie.nil ?_
  refine Ne.seq ?_
  refine Ce.cond_true rfl ?_
  refine Ce.seq ?_
  refine Ce.region ?_
  refine Ie.fieldAddr rfl rfl rfl rfl rfl fa59_6 ?_
  refine Ie.load rfl rfl rfl rfl rfl ag57 (by first | exact .head | exact .tail .head | exact .tail (.tail .head) | exact .tail (.tail (.tail .head)) | exact .base ‹_› ‹_› (by simp)) rfl ?_
  refine Ie.p rfl rfl rfl rfl ?_
  refine Ie.p rfl rfl rfl rfl ?_
  refine Ie.call _ rfl rfl rfl rfl rfl rfl (fun m hm => cl_u8_less hm.lole (Fit.wr _ _) (Fit.wr _ _)) ?_
  refine Ie.p rfl rfl rfl rfl ?_
  refine Ie.p rfl rfl rfl rfl ?_
  refine Ie.nil ?_
  refine Ne.seq ?_
  refine Ce.ret ?_
  refine Re.blk ?_
  refine Re.seq ?_
  exact Re.end_ rfl rfl (fun m hm => ⟨rfl, hm.ext⟩)

theorem RCompare_u8_14 {a b : Int} {m : AW} (hm : m.lo ≤ m.next) (ha : Fit .i64 a) (hb : Fit .i64 b) : Fc Tryz.prog 31 [.int .i64 1, .int .i64 14, .int .i64 a, .int .i64 b] m fun v m' => v = .bool (ltI (wr .u8 b) (wr .u8 a)) ∧ Ext m m' := by
  refine Fc.body (c := _) Tryz.func31 rfl rfl rfl rfl hm ?_
  refine Ce.seq ?_
  refine Ce.region ?_
  refine Ie.p rfl rfl rfl rfl ?_
  refine Ie.nil ?_
  refine Ne.seq ?_
  refine Ce.seq ?_
  refine Ce.region ?_
  refine Ie.p rfl rfl rfl rfl ?_
  refine Ie.p rfl rfl rfl rfl ?_
  refine Ie.call _ rfl rfl rfl rfl rfl rfl (fun m hm => RWrap_u8 hm.lole ha) ?_
  refine Ie.p rfl rfl rfl rfl ?_
  refine Ie.p rfl rfl rfl rfl ?_
  refine Ie.call _ rfl rfl rfl rfl rfl rfl (fun m hm => RWrap_u8 hm.lole hb) ?_
  refine Ie.p rfl rfl rfl rfl ?_
  refine Ie.p rfl rfl rfl rfl ?_
  refine Ie.nil ?_
  refine Ne.seq ?_
  refine Ce.seq ?_
  refine Ce.region ?_
  refine Ie.p rfl rfl rfl rfl ?_
  refine Ie.p rfl rfl rfl rfl ?_
  refine Ie.p rfl rfl rfl rfl ?_
  refine Ie.p rfl rfl rfl rfl ?_
  refine Ie.p rfl rfl rfl rfl ?_
  refine Ie.p rfl rfl rfl rfl ?_
  refine Ie.p rfl rfl rfl rfl ?_
  refine Ie.p rfl rfl rfl rfl ?_
  refine Ie.nil ?_
  refine Ne.seq ?_
  refine Ce.seq ?_
  refine Ce.seq ?_
  refine Ce.region ?_
  refine Ie.p rfl rfl rfl rfl ?_
  refine Ie.p rfl rfl rfl rfl ?_
  refine Ie.nil ?_
  refine Ne.seq ?_
  refine Ce.cond_false rfl ?_
  refine Ce.skip ?_
  refine Ne.seq ?_
  refine Ce.seq ?_
  refine Ce.seq ?_
  refine Ce.region ?_
  refine Ie.p rfl rfl rfl rfl ?_
  refine Ie.nil ?_
  refine Ne.seq ?_
  refine Ce.block ?_
  refine Ce.seq ?_
  refine Ce.region ?_
  refine Ie.p rfl rfl rfl rfl ?_
  refine Ie.p rfl rfl rfl rfl ?_
  refine Ie.nil ?_
  refine Ne.seq ?_
  refine Ce.cond_false rfl ?_
  refine Ce.seq ?_
  refine Ce.region ?_
  refine Ie.p rfl rfl rfl rfl ?_
  refine Ie.p rfl rfl rfl rfl ?_
  refine Ie.nil ?_
  refine Ne.seq ?_
  refine Ce.cond_false rfl ?_
  refine Ce.seq ?_
  refine Ce.region ?_
  refine Ie.p rfl rfl rfl rfl ?_
  refine Ie.p rfl rfl rfl rfl ?_
  refine Ie.nil ?_
  refine Ne.seq ?_
  refine Ce.cond_false rfl ?_
  refine Ce.seq ?_
  refine Ce.region ?_
  refine Ie.p rfl rfl rfl rfl ?_
  refine Ie.p rfl rfl rfl rfl ?_
  refine Ie.nil ?_
  refine Ne.seq ?_
  refine Ce.cond_false rfl ?_
  refine Ce.seq ?_
  refine Ce.region ?_
  refine Ie.p rfl rfl rfl rfl ?_
  refine Ie.p rfl rfl rfl rfl ?_
  refine Ie.nil ?_
  refine Ne.seq ?_
  refine Ce.cond_true rfl ?_
  refine Ce.seq ?_
  refine Ce.region ?_
  refine Ie.p rfl rfl rfl rfl ?_
  refine Ie.p rfl rfl rfl rfl ?_
  refine Ie.nil ?_
  refine Ne.seq ?_
  refine Ce.ret ?_
  refine Re.blk ?_
  refine Re.seq ?_
  exact Re.end_ rfl rfl (fun m hm => ⟨rfl, hm.ext⟩)

theorem Compare_u8_15 {a b : Int} {m : AW} (hm : m.lo ≤ m.next) (ha : Fit .i64 a) (hb : Fit .i64 b) : Fc Tryz.prog 29 [.int .i64 1, .int .i64 15, .int .i64 a, .int .i64 b] m fun v m' => v = .tuple ⟨[.bool ((ltI (wr .u8 b) (wr .u8 a) || eqI (wr .u8 a) (wr .u8 b))), .int .i64 0]⟩ ∧ Ext m m' := by
  refine Fc.body (c := _) Tryz.func29 rfl rfl rfl rfl hm ?_
  refine Ce.seq ?_
  refine Ce.region ?_
  refine Ie.p rfl rfl rfl rfl ?_
  refine Ie.p rfl rfl rfl rfl ?_
  refine Ie.nil ?_
  refine Ne.seq ?_
  refine Ce.seq ?_
  refine Ce.region ?_
  refine Ie.p rfl rfl rfl rfl ?_
  refine Ie.calln _ _ _ rfl rfl rfl rfl rfl rfl (fun m hm => of_u8 hm.lole) (fun x hx => ?_)
  clear hx
  refine Ie.p rfl rfl rfl rfl ?_
  refine Ie.p rfl rfl rfl rfl ?_
  refine Ie.p rfl rfl rfl rfl ?_
  refine Ie.alloc rfl rfl rfl rfl zr59 (fun b10 hb10 => ?_)
  refine Ie.store rfl rfl rfl rfl rfl sz59 rfl (by first | exact .head | exact .tail .head | exact .tail (.tail .head) | exact .tail (.tail (.tail .head))) rfl ?_
  refine Ie.p rfl rfl rfl rfl ?_
  refine Ie.nil ?_
  refine Ne.seq ?_
  refine Ce.seq ?_
  refine Ce.seq ?_
  refine Ce.region ?_
  refine Ie.p rfl rfl rfl rfl ?_
  refine Ie.p rfl rfl rfl rfl ?_
  refine Ie.nil ?_
  refine Ne.seq ?_
  refine Ce.cond_false rfl ?_
  refine Ce.skip ?_
  refine Ne.seq ?_
  refine Ce.seq ?_
  refine Ce.draw [⟨0, .p, true, true, 0⟩, ⟨1, .l, true, true, 1⟩, ⟨2, .p, true, true, 0⟩, ⟨3, .h, true, true, 7⟩, ⟨4, .p, false, false, 0⟩, ⟨5, .l, false, false, 16⟩, ⟨6, .p, false, false, 0⟩, ⟨7, .h, true, true, 127⟩, ⟨8, .p, true, true, 255⟩, ⟨9, .p, true, true, 511⟩] (by kernel_rfl) (by kernel_rfl) (fun base hbase hB => ?_)
  refine De.fieldAddr rfl rfl rfl rfl rfl rfl fa59_0 ?_
  refine De.load rfl rfl rfl rfl rfl rfl rfl rfl ag54 (by first | exact .head | exact .tail .head | exact .tail (.tail .head) | exact .tail (.tail (.tail .head)) | exact .base ‹_› ‹_› (by simp)) rfl ?_
  refine De.p rfl rfl rfl rfl rfl ?_
  refine De.call _ rfl rfl rfl rfl rfl rfl rfl rfl rfl (fun m hm => cl_u8_1 hm.lole ha) ?_
  refine De.fieldAddr rfl rfl rfl rfl rfl rfl fa59_0 ?_
  refine De.loadOld rfl rfl rfl rfl rfl rfl ag54 (by first | exact .head | exact .tail .head | exact .tail (.tail .head) | exact .tail (.tail (.tail .head)) | exact .base ‹_› ‹_› (by simp)) rfl (by first | exact hB _ _ (.head _) | exact hB _ _ (.tail _ (.head _)) | exact hB _ _ (.tail _ (.tail _ (.head _))) | exact hB _ _ (.tail _ (.tail _ (.tail _ (.head _)))) | exact Nat.lt_of_lt_of_le ‹_› hbase) (fun _ => ?_)
  refine De.p rfl rfl rfl rfl rfl ?_
  refine De.call _ rfl rfl rfl rfl rfl rfl rfl rfl rfl (fun m hm => cl_u8_1 hm.lole hb) ?_
  refine De.p rfl rfl rfl rfl rfl ?_
  refine De.p rfl rfl rfl rfl rfl ?_
  refine De.nil ?_
  refine Ne.seq ?_
  refine Ce.seq ?_
  refine Ce.seq ?_
  refine Ce.region ?_
  refine Ie.p rfl rfl rfl rfl ?_
  refine Ie.nil ?_
  refine Ne.seq ?_
  refine Ce.block ?_
  refine Ce.seq ?_
  refine Ce.region ?_
  refine Ie.p rfl rfl rfl rfl ?_
  refine Ie.p rfl rfl rfl rfl ?_
  refine Ie.nil ?_
  refine Ne.seq ?_
  refine Ce.cond_false rfl ?_
  refine Ce.seq ?_
  refine Ce.region ?_
  refine Ie.p rfl rfl rfl rfl ?_
  refine Ie.p rfl rfl rfl rfl ?_
  refine Ie.nil ?_
  refine Ne.seq ?_
  refine Ce.cond_false rfl ?_
  refine Ce.seq ?_
  refine Ce.region ?_
  refine Ie.p rfl rfl rfl rfl ?_
  refine Ie.p rfl rfl rfl rfl ?_
  refine Ie.nil ?_
  refine Ne.seq ?_
  refine Ce.cond_false rfl ?_
  refine Ce.seq ?_
  refine Ce.region ?_
  refine Ie.p rfl rfl rfl rfl ?_
  refine Ie.p rfl rfl rfl rfl ?_
  refine Ie.nil ?_
  refine Ne.seq ?_
  refine Ce.cond_false rfl ?_
  refine Ce.seq ?_
  refine Ce.region ?_
  refine Ie.p rfl rfl rfl rfl ?_
  refine Ie.p rfl rfl rfl rfl ?_
  refine Ie.nil ?_
  refine Ne.seq ?_
  refine Ce.cond_false rfl ?_
  refine Ce.seq ?_
  refine Ce.region ?_
  refine Ie.p rfl rfl rfl rfl ?_
  refine Ie.p rfl rfl rfl rfl ?_
  refine Ie.nil ?_
  refine Ne.seq ?_
  refine Ce.cond_true rfl ?_
  refine Ce.seq ?_
  refine Ce.region ?_
  refine Ie.fieldAddr rfl rfl rfl rfl rfl fa59_6 ?_
  refine Ie.load rfl rfl rfl rfl rfl ag57 (by first | exact .head | exact .tail .head | exact .tail (.tail .head) | exact .tail (.tail (.tail .head)) | exact .base ‹_› ‹_› (by simp)) rfl ?_
  refine Ie.p rfl rfl rfl rfl ?_
  refine Ie.p rfl rfl rfl rfl ?_
  refine Ie.call _ rfl rfl rfl rfl rfl rfl (fun m hm => cl_u8_less hm.lole (Fit.wr _ _) (Fit.wr _ _)) ?_
  refine Ie.p rfl rfl rfl rfl ?_
  refine Ie.splitB 79 rfl (fun hs0 => ?_) (fun hs0 => ?_)
  · refine Ie.off rfl rfl rfl ?_
    refine Ie.off rfl rfl rfl ?_
    refine Ie.off rfl rfl rfl ?_
    refine Ie.off rfl rfl rfl ?_
    refine Ie.off rfl rfl rfl ?_
    refine Ie.p rfl rfl rfl rfl ?_
    refine Ie.p rfl rfl rfl rfl ?_
    refine Ie.p rfl rfl rfl rfl ?_
    refine Ie.nil ?_
    refine Ne.seq ?_
    refine Ce.ret ?_
    refine Re.blk ?_
    refine Re.seq ?_
    exact Re.end_ rfl rfl (fun m hm => ⟨by first | rfl | (rw [hs0]; rfl), hm.ext⟩)
  · refine Ie.fieldAddr rfl rfl rfl rfl rfl fa59_7 ?_
    refine Ie.load rfl rfl rfl rfl rfl ag57 (by first | exact .head | exact .tail .head | exact .tail (.tail .head) | exact .tail (.tail (.tail .head)) | exact .base ‹_› ‹_› (by simp)) rfl ?_
    refine Ie.p rfl rfl rfl rfl ?_
    refine Ie.p rfl rfl rfl rfl ?_
    refine Ie.call _ rfl rfl rfl rfl rfl rfl (fun m hm => cl_u8_same hm.lole (Fit.wr _ _) (Fit.wr _ _)) ?_
    refine Ie.p rfl rfl rfl rfl ?_
    refine Ie.p rfl rfl rfl rfl ?_
    refine Ie.p rfl rfl rfl rfl ?_
    refine Ie.nil ?_
    refine Ne.seq ?_
    refine Ce.ret ?_
    refine Re.blk ?_
    refine Re.seq ?_
    exact Re.end_ rfl rfl (fun m hm => ⟨by first | rfl | (rw [hs0]; rfl), hm.ext⟩)

theorem RCompare_u8_15 {a b : Int} {m : AW} (hm : m.lo ≤ m.next) (ha : Fit .i64 a) (hb : Fit .i64 b) : Fc Tryz.prog 31 [.int .i64 1, .int .i64 15, .int .i64 a, .int .i64 b] m fun v m' => v = .bool ((!ltI (wr .u8 a) (wr .u8 b))) ∧ Ext m m' := by
  refine Fc.body (c := _) Tryz.func31 rfl rfl rfl rfl hm ?_
  refine Ce.seq ?_
  refine Ce.region ?_
  refine Ie.p rfl rfl rfl rfl ?_
  refine Ie.nil ?_
  refine Ne.seq ?_
  refine Ce.seq ?_
  refine Ce.region ?_
  refine Ie.p rfl rfl rfl rfl ?_
  refine Ie.p rfl rfl rfl rfl ?_
  refine Ie.call _ rfl rfl rfl rfl rfl rfl (fun m hm => RWrap_u8 hm.lole ha) ?_
  refine Ie.p rfl rfl rfl rfl ?_
  refine Ie.p rfl rfl rfl rfl ?_
  refine Ie.call _ rfl rfl rfl rfl rfl rfl (fun m hm => RWrap_u8 hm.lole hb) ?_
  refine Ie.p rfl rfl rfl rfl ?_
  refine Ie.p rfl rfl rfl rfl ?_
  refine Ie.nil ?_
  refine Ne.seq ?_
  refine Ce.seq ?_
  refine Ce.region ?_
  refine Ie.p rfl rfl rfl rfl ?_
  refine Ie.p rfl rfl rfl rfl ?_
  refine Ie.p rfl rfl rfl rfl ?_
  refine Ie.p rfl rfl rfl rfl ?_
  refine Ie.p rfl rfl rfl rfl ?_
  refine Ie.p rfl rfl rfl rfl ?_
  refine Ie.p rfl rfl rfl rfl ?_
  refine Ie.p rfl rfl rfl rfl ?_
  refine Ie.nil ?_
  refine Ne.seq ?_
  refine Ce.seq ?_
  refine Ce.seq ?_
  refine Ce.region ?_
  refine Ie.p rfl rfl rfl rfl ?_
  refine Ie.p rfl rfl rfl rfl ?_
  refine Ie.nil ?_
  refine Ne.seq ?_
  refine Ce.cond_false rfl ?_
  refine Ce.skip ?_
  refine Ne.seq ?_
  refine Ce.seq ?_
  refine Ce.seq ?_
  refine Ce.region ?_
  refine Ie.p rfl rfl rfl rfl ?_
  refine Ie.nil ?_
  refine Ne.seq ?_
  refine Ce.block ?_
  refine Ce.seq ?_
  refine Ce.region ?_
  refine Ie.p rfl rfl rfl rfl ?_
  refine Ie.p rfl rfl rfl rfl ?_
  refine Ie.nil ?_
  refine Ne.seq ?_
  refine Ce.cond_false rfl ?_
  refine Ce.seq ?_
  refine Ce.region ?_
  refine Ie.p rfl rfl rfl rfl ?_
  refine Ie.p rfl rfl rfl rfl ?_
  refine Ie.nil ?_
  refine Ne.seq ?_
  refine Ce.cond_false rfl ?_
  refine Ce.seq ?_
  refine Ce.region ?_
  refine Ie.p rfl rfl rfl rfl ?_
  refine Ie.p rfl rfl rfl rfl ?_
  refine Ie.nil ?_
  refine Ne.seq ?_
  refine Ce.cond_false rfl ?_
  refine Ce.seq ?_
  refine Ce.region ?_
  refine Ie.p rfl rfl rfl rfl ?_
  refine Ie.p rfl rfl rfl rfl ?_
  refine Ie.nil ?_
  refine Ne.seq ?_
  refine Ce.cond_false rfl ?_
  refine Ce.seq ?_
  refine Ce.region ?_
  refine Ie.p rfl rfl rfl rfl ?_
  refine Ie.p rfl rfl rfl rfl ?_
  refine Ie.nil ?_
  refine Ne.seq ?_
  refine Ce.cond_false rfl ?_
  refine Ce.skip ?_
  refine Ne.blk ?_
  refine Ne.seq ?_
  refine Ce.seq ?_
  refine Ce.region ?_
  refine Ie.p rfl rfl rfl rfl ?_
  refine Ie.p rfl rfl rfl rfl ?_
  refine Ie.p rfl rfl rfl rfl ?_
  refine Ie.nil ?_
  refine Ne.seq ?_
  refine Ce.ret ?_
  exact Re.end_ rfl rfl (fun m hm => ⟨rfl, hm.ext⟩)

theorem Compare_u8_other {op a b : Int} {m : AW} (hm : m.lo ≤ m.next) (ha : Fit .i64 a) (hb : Fit .i64 b) (hop : op < 10 ∨ 15 < op) : Fc Tryz.prog 29 [.int .i64 1, .int .i64 op, .int .i64 a, .int .i64 b] m fun v m' => v = .tuple ⟨[.bool false, .int .i64 2]⟩ ∧ Ext m m' := by
  refine Fc.body (c := _) Tryz.func29 rfl rfl rfl rfl hm ?_
  refine Ce.seq ?_
  refine Ce.region ?_
  refine Ie.p rfl rfl rfl rfl ?_
  refine Ie.p rfl rfl rfl rfl ?_
  refine Ie.nil ?_
  refine Ne.seq ?_
  refine Ce.seq ?_
  refine Ce.region ?_
  refine Ie.p rfl rfl rfl rfl ?_
  refine Ie.calln _ _ _ rfl rfl rfl rfl rfl rfl (fun m hm => of_u8 hm.lole) (fun x hx => ?_)
  clear hx
  refine Ie.p rfl rfl rfl rfl ?_
  refine Ie.p rfl rfl rfl rfl ?_
  refine Ie.p rfl rfl rfl rfl ?_
  refine Ie.alloc rfl rfl rfl rfl zr59 (fun b10 hb10 => ?_)
  refine Ie.store rfl rfl rfl rfl rfl sz59 rfl (by first | exact .head | exact .tail .head | exact .tail (.tail .head) | exact .tail (.tail (.tail .head))) rfl ?_
  refine Ie.p rfl rfl rfl rfl ?_
  refine Ie.nil ?_
  refine Ne.seq ?_
  refine Ce.seq ?_
  refine Ce.seq ?_
  refine Ce.region ?_
  refine Ie.p rfl rfl rfl rfl ?_
  refine Ie.p rfl rfl rfl rfl ?_
  refine Ie.nil ?_
  refine Ne.seq ?_
  refine Ce.cond_false rfl ?_
  refine Ce.skip ?_
  refine Ne.seq ?_
  refine Ce.seq ?_
  refine Ce.draw [⟨0, .p, true, true, 0⟩, ⟨1, .l, true, true, 1⟩, ⟨2, .p, true, true, 0⟩, ⟨3, .h, true, true, 7⟩, ⟨4, .p, false, false, 0⟩, ⟨5, .l, false, false, 16⟩, ⟨6, .p, false, false, 0⟩, ⟨7, .h, true, true, 127⟩, ⟨8, .p, true, true, 255⟩, ⟨9, .p, true, true, 511⟩] (by kernel_rfl) (by kernel_rfl) (fun base hbase hB => ?_)
  refine De.fieldAddr rfl rfl rfl rfl rfl rfl fa59_0 ?_
  refine De.load rfl rfl rfl rfl rfl rfl rfl rfl ag54 (by first | exact .head | exact .tail .head | exact .tail (.tail .head) | exact .tail (.tail (.tail .head)) | exact .base ‹_› ‹_› (by simp)) rfl ?_
  refine De.p rfl rfl rfl rfl rfl ?_
  refine De.call _ rfl rfl rfl rfl rfl rfl rfl rfl rfl (fun m hm => cl_u8_1 hm.lole ha) ?_
  refine De.fieldAddr rfl rfl rfl rfl rfl rfl fa59_0 ?_
  refine De.loadOld rfl rfl rfl rfl rfl rfl ag54 (by first | exact .head | exact .tail .head | exact .tail (.tail .head) | exact .tail (.tail (.tail .head)) | exact .base ‹_› ‹_› (by simp)) rfl (by first | exact hB _ _ (.head _) | exact hB _ _ (.tail _ (.head _)) | exact hB _ _ (.tail _ (.tail _ (.head _))) | exact hB _ _ (.tail _ (.tail _ (.tail _ (.head _)))) | exact Nat.lt_of_lt_of_le ‹_› hbase) (fun _ => ?_)
  refine De.p rfl rfl rfl rfl rfl ?_
  refine De.call _ rfl rfl rfl rfl rfl rfl rfl rfl rfl (fun m hm => cl_u8_1 hm.lole hb) ?_
  refine De.p rfl rfl rfl rfl rfl ?_
  refine De.p rfl rfl rfl rfl rfl ?_
  refine De.nil ?_
  refine Ne.seq ?_
  refine Ce.seq ?_
  refine Ce.seq ?_
  refine Ce.region ?_
  refine Ie.p rfl rfl rfl rfl ?_
  refine Ie.nil ?_
  refine Ne.seq ?_
  refine Ce.block ?_
  refine Ce.seq ?_
  refine Ce.region ?_
  refine Ie.p rfl rfl rfl rfl ?_
  refine Ie.p rfl rfl rfl rfl ?_
  refine Ie.nil ?_
  refine Ne.seq ?_
  refine Ce.cond_false (by rw [eqI_eq, decide_eq_false (by omega)]; rfl) ?_
  refine Ce.seq ?_
  refine Ce.region ?_
  refine Ie.p rfl rfl rfl rfl ?_
  refine Ie.p rfl rfl rfl rfl ?_
  refine Ie.nil ?_
  refine Ne.seq ?_
  refine Ce.cond_false (by rw [eqI_eq, decide_eq_false (by omega)]; rfl) ?_
  refine Ce.seq ?_
  refine Ce.region ?_
  refine Ie.p rfl rfl rfl rfl ?_
  refine Ie.p rfl rfl rfl rfl ?_
  refine Ie.nil ?_
  refine Ne.seq ?_
  refine Ce.cond_false (by rw [eqI_eq, decide_eq_false (by omega)]; rfl) ?_
  refine Ce.seq ?_
  refine Ce.region ?_
  refine Ie.p rfl rfl rfl rfl ?_
  refine Ie.p rfl rfl rfl rfl ?_
  refine Ie.nil ?_
  refine Ne.seq ?_
  refine Ce.cond_false (by rw [eqI_eq, decide_eq_false (by omega)]; rfl) ?_
  refine Ce.seq ?_
  refine Ce.region ?_
  refine Ie.p rfl rfl rfl rfl ?_
  refine Ie.p rfl rfl rfl rfl ?_
  refine Ie.nil ?_
  refine Ne.seq ?_
  refine Ce.cond_false (by rw [eqI_eq, decide_eq_false (by omega)]; rfl) ?_
  refine Ce.seq ?_
  refine Ce.region ?_
  refine Ie.p rfl rfl rfl rfl ?_
  refine Ie.p rfl rfl rfl rfl ?_
  refine Ie.nil ?_
  refine Ne.seq ?_
  refine Ce.cond_false (by rw [eqI_eq, decide_eq_false (by omega)]; rfl) ?_
  refine Ce.skip ?_
  refine Ne.blk ?_
  refine Ne.seq ?_
  refine Ce.seq ?_
  refine Ce.region ?_
  refine Ie.p rfl rfl rfl rfl ?_
  refine Ie.p rfl rfl rfl rfl ?_
  refine Ie.nil ?_
  refine Ne.seq ?_
  refine Ce.ret ?_
  exact Re.end_ rfl rfl (fun m hm => ⟨rfl, hm.ext⟩)

theorem Compare_i32_10 {a b : Int} {m : AW} (hm : m.lo ≤ m.next) (ha : Fit .i64 a) (hb : Fit .i64 b) : Fc Tryz.prog 29 [.int .i64 2, .int .i64 10, .int .i64 a, .int .i64 b] m fun v m' => v = .tuple ⟨[.bool (eqI (wr .i32 a) (wr .i32 b)), .int .i64 0]⟩ ∧ Ext m m' := by
  refine Fc.body (c := _) Tryz.func29 rfl rfl rfl rfl hm ?_
  refine Ce.seq ?_
  refine Ce.region ?_
  refine Ie.p rfl rfl rfl rfl ?_
  refine Ie.p rfl rfl rfl rfl ?_
  refine Ie.nil ?_
  refine Ne.seq ?_
  refine Ce.seq ?_
  refine Ce.region ?_
  refine Ie.p rfl rfl rfl rfl ?_
  refine Ie.calln _ _ _ rfl rfl rfl rfl rfl rfl (fun m hm => of_i32 hm.lole) (fun x hx => ?_)
  clear hx
  refine Ie.p rfl rfl rfl rfl ?_
  refine Ie.p rfl rfl rfl rfl ?_
  refine Ie.p rfl rfl rfl rfl ?_
  refine Ie.alloc rfl rfl rfl rfl zr59 (fun b10 hb10 => ?_)
  refine Ie.store rfl rfl rfl rfl rfl sz59 rfl (by first | exact .head | exact .tail .head | exact .tail (.tail .head) | exact .tail (.tail (.tail .head))) rfl ?_
  refine Ie.p rfl rfl rfl rfl ?_
  refine Ie.nil ?_
  refine Ne.seq ?_
  refine Ce.seq ?_
  refine Ce.seq ?_
  refine Ce.region ?_
  refine Ie.p rfl rfl rfl rfl ?_
  refine Ie.p rfl rfl rfl rfl ?_
  refine Ie.nil ?_
  refine Ne.seq ?_
  refine Ce.cond_false rfl ?_
  refine Ce.skip ?_
  refine Ne.seq ?_
  refine Ce.seq ?_
  refine Ce.draw [⟨0, .p, true, true, 0⟩, ⟨1, .l, true, true, 1⟩, ⟨2, .p, true, true, 0⟩, ⟨3, .h, true, true, 7⟩, ⟨4, .p, false, false, 0⟩, ⟨5, .l, false, false, 16⟩, ⟨6, .p, false, false, 0⟩, ⟨7, .h, true, true, 127⟩, ⟨8, .p, true, true, 255⟩, ⟨9, .p, true, true, 511⟩] (by kernel_rfl) (by kernel_rfl) (fun base hbase hB => ?_)
  refine De.fieldAddr rfl rfl rfl rfl rfl rfl fa59_0 ?_
  refine De.load rfl rfl rfl rfl rfl rfl rfl rfl ag54 (by first | exact .head | exact .tail .head | exact .tail (.tail .head) | exact .tail (.tail (.tail .head)) | exact .base ‹_› ‹_› (by simp)) rfl ?_
  refine De.p rfl rfl rfl rfl rfl ?_
  refine De.call _ rfl rfl rfl rfl rfl rfl rfl rfl rfl (fun m hm => cl_i32_1 hm.lole ha) ?_
  refine De.fieldAddr rfl rfl rfl rfl rfl rfl fa59_0 ?_
  refine De.loadOld rfl rfl rfl rfl rfl rfl ag54 (by first | exact .head | exact .tail .head | exact .tail (.tail .head) | exact .tail (.tail (.tail .head)) | exact .base ‹_› ‹_› (by simp)) rfl (by first | exact hB _ _ (.head _) | exact hB _ _ (.tail _ (.head _)) | exact hB _ _ (.tail _ (.tail _ (.head _))) | exact hB _ _ (.tail _ (.tail _ (.tail _ (.head _)))) | exact Nat.lt_of_lt_of_le ‹_› hbase) (fun _ => ?_)
  refine De.p rfl rfl rfl rfl rfl ?_
  refine De.call _ rfl rfl rfl rfl rfl rfl rfl rfl rfl (fun m hm => cl_i32_1 hm.lole hb) ?_
  refine De.p rfl rfl rfl rfl rfl ?_
  refine De.p rfl rfl rfl rfl rfl ?_
  refine De.nil ?_
  refine Ne.seq ?_
  refine Ce.seq ?_
  refine Ce.seq ?_
  refine Ce.region ?_
  refine Ie.p rfl rfl rfl rfl ?_
  refine Ie.nil ?_
  refine Ne.seq ?_
  refine Ce.block ?_
  refine Ce.seq ?_
  refine Ce.region ?_
  refine Ie.p rfl rfl rfl rfl ?_
  refine Ie.p rfl rfl rfl rfl ?_
  refine Ie.nil ?_
  refine Ne.seq ?_
  refine Ce.cond_true rfl ?_
  refine Ce.seq ?_
  refine Ce.region ?_
  refine Ie.fieldAddr rfl rfl rfl rfl rfl fa59_7 ?_
  refine Ie.load rfl rfl rfl rfl rfl ag57 (by first | exact .head | exact .tail .head | exact .tail (.tail .head) | exact .tail (.tail (.tail .head)) | exact .base ‹_› ‹_› (by simp)) rfl ?_
  refine Ie.p rfl rfl rfl rfl ?_
  refine Ie.p rfl rfl rfl rfl ?_
  refine Ie.call _ rfl rfl rfl rfl rfl rfl (fun m hm => cl_i32_same hm.lole (Fit.wr _ _) (Fit.wr _ _)) ?_
  refine Ie.p rfl rfl rfl rfl ?_
  refine Ie.p rfl rfl rfl rfl ?_
  refine Ie.nil ?_
  refine Ne.seq ?_
  refine Ce.ret ?_
  refine Re.blk ?_
  refine Re.seq ?_
  exact Re.end_ rfl rfl (fun m hm => ⟨rfl, hm.ext⟩)

theorem RCompare_i32_10 {a b : Int} {m : AW} (hm : m.lo ≤ m.next) (ha : Fit .i64 a) (hb : Fit .i64 b) : Fc Tryz.prog 31 [.int .i64 2, .int .i64 10, .int .i64 a, .int .i64 b] m fun v m' => v = .bool ((!ltI (wr .i32 a) (wr .i32 b) && !ltI (wr .i32 b) (wr .i32 a))) ∧ Ext m m' := by
  refine Fc.body (c := _) Tryz.func31 rfl rfl rfl rfl hm ?_
  refine Ce.seq ?_
  refine Ce.region ?_
  refine Ie.p rfl rfl rfl rfl ?_
  refine Ie.nil ?_
  refine Ne.seq ?_
  refine Ce.seq ?_
  refine Ce.region ?_
  refine Ie.p rfl rfl rfl rfl ?_
  refine Ie.p rfl rfl rfl rfl ?_
  refine Ie.call _ rfl rfl rfl rfl rfl rfl (fun m hm => RWrap_i32 hm.lole ha) ?_
  refine Ie.p rfl rfl rfl rfl ?_
  refine Ie.p rfl rfl rfl rfl ?_
  refine Ie.call _ rfl rfl rfl rfl rfl rfl (fun m hm => RWrap_i32 hm.lole hb) ?_
  refine Ie.p rfl rfl rfl rfl ?_
  refine Ie.p rfl rfl rfl rfl ?_
  refine Ie.nil ?_
  refine Ne.seq ?_
  refine Ce.seq ?_
  refine Ce.region ?_
  refine Ie.p rfl rfl rfl rfl ?_
  refine Ie.p rfl rfl rfl rfl ?_
  refine Ie.p rfl rfl rfl rfl ?_
  refine Ie.p rfl rfl rfl rfl ?_
  refine Ie.p rfl rfl rfl rfl ?_
  refine Ie.p rfl rfl rfl rfl ?_
  refine Ie.p rfl rfl rfl rfl ?_
  refine Ie.p rfl rfl rfl rfl ?_
  refine Ie.nil ?_
  refine Ne.seq ?_
  refine Ce.seq ?_
  refine Ce.seq ?_
  refine Ce.region ?_
  refine Ie.p rfl rfl rfl rfl ?_
  refine Ie.p rfl rfl rfl rfl ?_
  refine Ie.nil ?_
  refine Ne.seq ?_
  refine Ce.cond_false rfl ?_
  refine Ce.skip ?_
  refine Ne.seq ?_
  refine Ce.seq ?_
  refine Ce.seq ?_
  refine Ce.region ?_
  refine Ie.p rfl rfl rfl rfl ?_
  refine Ie.nil ?_
  refine Ne.seq ?_
  refine Ce.block ?_
  refine Ce.seq ?_
  refine Ce.region ?_
  refine Ie.p rfl rfl rfl rfl ?_
  refine Ie.p rfl rfl rfl rfl ?_
  refine Ie.nil ?_
  refine Ne.seq ?_
  refine Ce.cond_true rfl ?_
  refine Ce.seq ?_
  refine Ce.region ?_
  refine Ie.p rfl rfl rfl rfl ?_
  refine Ie.p rfl rfl rfl rfl ?_
  refine Ie.p rfl rfl rfl rfl ?_
  refine Ie.splitB 48 rfl (fun hs0 => ?_) (fun hs0 => ?_)
  · refine Ie.p rfl rfl rfl rfl ?_
    refine Ie.p rfl rfl rfl rfl ?_
    refine Ie.p rfl rfl rfl rfl ?_
    refine Ie.p rfl rfl rfl rfl ?_
    refine Ie.nil ?_
    refine Ne.seq ?_
    refine Ce.ret ?_
    refine Re.blk ?_
    refine Re.seq ?_
    exact Re.end_ rfl rfl (fun m hm => ⟨by first | rfl | (rw [hs0]; rfl), hm.ext⟩)
  · refine Ie.off rfl rfl rfl ?_
    refine Ie.off rfl rfl rfl ?_
    refine Ie.p rfl rfl rfl rfl ?_
    refine Ie.p rfl rfl rfl rfl ?_
    refine Ie.nil ?_
    refine Ne.seq ?_
    refine Ce.ret ?_
    refine Re.blk ?_
    refine Re.seq ?_
    exact Re.end_ rfl rfl (fun m hm => ⟨by first | rfl | (rw [hs0]; rfl), hm.ext⟩)

theorem Compare_i32_11 {a b : Int} {m : AW} (hm : m.lo ≤ m.next) (ha : Fit .i64 a) (hb : Fit .i64 b) : Fc Tryz.prog 29 [.int .i64 2, .int .i64 11, .int .i64 a, .int .i64 b] m fun v m' => v = .tuple ⟨[.bool ((!eqI (wr .i32 a) (wr .i32 b))), .int .i64 0]⟩ ∧ Ext m m' := by
  refine Fc.body (c := _) Tryz.func29 rfl rfl rfl rfl hm ?_
  refine Ce.seq ?_
  refine Ce.region ?_
  refine Ie.p rfl rfl rfl rfl ?_
  refine Ie.p rfl rfl rfl rfl ?_
  refine Ie.nil ?_
  refine Ne.seq ?_
  refine Ce.seq ?_
  refine Ce.region ?_
  refine Ie.p rfl rfl rfl rfl ?_
  refine Ie.calln _ _ _ rfl rfl rfl rfl rfl rfl (fun m hm => of_i32 hm.lole) (fun x hx => ?_)
  clear hx
  refine Ie.p rfl rfl rfl rfl ?_
  refine Ie.p rfl rfl rfl rfl ?_
  refine Ie.p rfl rfl rfl rfl ?_
  refine Ie.alloc rfl rfl rfl rfl zr59 (fun b10 hb10 => ?_)
  refine Ie.store rfl rfl rfl rfl rfl sz59 rfl (by first | exact .head | exact .tail .head | exact .tail (.tail .head) | exact .tail (.tail (.tail .head))) rfl ?_
  refine Ie.p rfl rfl rfl rfl ?_
  refine Ie.nil ?_
  refine Ne.seq ?_
  refine Ce.seq ?_
  refine Ce.seq ?_
  refine Ce.region ?_
  refine Ie.p rfl rfl rfl rfl ?_
  refine Ie.p rfl rfl rfl rfl ?_
  refine Ie.nil ?_
  refine Ne.seq ?_
  refine Ce.cond_false rfl ?_
  refine Ce.skip ?_
  refine Ne.seq ?_
  refine Ce.seq ?_
  refine Ce.draw [⟨0, .p, true, true, 0⟩, ⟨1, .l, true, true, 1⟩, ⟨2, .p, true, true, 0⟩, ⟨3, .h, true, true, 7⟩, ⟨4, .p, false, false, 0⟩, ⟨5, .l, false, false, 16⟩, ⟨6, .p, false, false, 0⟩, ⟨7, .h, true, true, 127⟩, ⟨8, .p, true, true, 255⟩, ⟨9, .p, true, true, 511⟩] (by kernel_rfl) (by kernel_rfl) (fun base hbase hB => ?_)
  refine De.fieldAddr rfl rfl rfl rfl rfl rfl fa59_0 ?_
  refine De.load rfl rfl rfl rfl rfl rfl rfl rfl ag54 (by first | exact .head | exact .tail .head | exact .tail (.tail .head) | exact .tail (.tail (.tail .head)) | exact .base ‹_› ‹_› (by simp)) rfl ?_
  refine De.p rfl rfl rfl rfl rfl ?_
  refine De.call _ rfl rfl rfl rfl rfl rfl rfl rfl rfl (fun m hm => cl_i32_1 hm.lole ha) ?_
  refine De.fieldAddr rfl rfl rfl rfl rfl rfl fa59_0 ?_
  refine De.loadOld rfl rfl rfl rfl rfl rfl ag54 (by first | exact .head | exact .tail .head | exact .tail (.tail .head) | exact .tail (.tail (.tail .head)) | exact .base ‹_› ‹_› (by simp)) rfl (by first | exact hB _ _ (.head _) | exact hB _ _ (.tail _ (.head _)) | exact hB _ _ (.tail _ (.tail _ (.head _))) | exact hB _ _ (.tail _ (.tail _ (.tail _ (.head _)))) | exact Nat.lt_of_lt_of_le ‹_› hbase) (fun _ => ?_)
  refine De.p rfl rfl rfl rfl rfl ?_
  refine De.call _ rfl rfl rfl rfl rfl rfl rfl rfl rfl (fun m hm => cl_i32_1 hm.lole hb) ?_
  refine De.p rfl rfl rfl rfl rfl ?_
  refine De.p rfl rfl rfl rfl rfl ?_
  refine De.nil ?_
  refine Ne.seq ?_
  refine Ce.seq ?_
  refine Ce.seq ?_
  refine Ce.region ?_
  refine Ie.p rfl rfl rfl rfl ?_
  refine Ie.nil ?_
  refine Ne.seq ?_
  refine Ce.block ?_
  refine Ce.seq ?_
  refine Ce.region ?_
  refine Ie.p rfl rfl rfl rfl ?_
  refine Ie.p rfl rfl rfl rfl ?_
  refine Ie.nil ?_
  refine Ne.seq ?_
  refine Ce.cond_false rfl ?_
  refine Ce.seq ?_
  refine Ce.region ?_
  refine Ie.p rfl rfl rfl rfl ?_
  refine Ie.p rfl rfl rfl rfl ?_
  refine Ie.nil ?_
  refine Ne.seq ?_
  refine Ce.cond_true rfl ?_
  refine Ce.seq ?_
  refine Ce.region ?_
  refine Ie.fieldAddr rfl rfl rfl rfl rfl fa59_7 ?_
  refine Ie.load rfl rfl rfl rfl rfl ag57 (by first | exact .head | exact .tail .head | exact .tail (.tail .head) | exact .tail (.tail (.tail .head)) | exact .base ‹_› ‹_› (by simp)) rfl ?_
  refine Ie.p rfl rfl rfl rfl ?_
  refine Ie.p rfl rfl rfl rfl ?_
  refine Ie.call _ rfl rfl rfl rfl rfl rfl (fun m hm => cl_i32_same hm.lole (Fit.wr _ _) (Fit.wr _ _)) ?_
  refine Ie.p rfl rfl rfl rfl ?_
  refine Ie.p rfl rfl rfl rfl ?_
  refine Ie.p rfl rfl rfl rfl ?_
  refine Ie.nil ?_
  refine Ne.seq ?_
  refine Ce.ret ?_
  refine Re.blk ?_
  refine Re.seq ?_
  exact Re.end_ rfl rfl (fun m hm => ⟨rfl, hm.ext⟩)

theorem RCompare_i32_11 {a b : Int} {m : AW} (hm : m.lo ≤ m.next) (ha : Fit .i64 a) (hb : Fit .i64 b) : Fc Tryz.prog 31 [.int .i64 2, .int .i64 11, .int .i64 a, .int .i64 b] m fun v m' => v = .bool ((ltI (wr .i32 a) (wr .i32 b) || ltI (wr .i32 b) (wr .i32 a))) ∧ Ext m m' := by
  refine Fc.body (c := _) Tryz.func31 rfl rfl rfl rfl hm ?_
  refine Ce.seq ?_
  refine Ce.region ?_
  refine Ie.p rfl rfl rfl rfl ?_
  refine Ie.nil ?_
  refine Ne.seq ?_
  refine Ce.seq ?_
  refine Ce.region ?_
  refine Ie.p rfl rfl rfl rfl ?_
  refine Ie.p rfl rfl rfl rfl ?_
  refine Ie.call _ rfl rfl rfl rfl rfl rfl (fun m hm => RWrap_i32 hm.lole ha) ?_
  refine Ie.p rfl rfl rfl rfl ?_
  refine Ie.p rfl rfl rfl rfl ?_
  refine Ie.call _ rfl rfl rfl rfl rfl rfl (fun m hm => RWrap_i32 hm.lole hb) ?_
  refine Ie.p rfl rfl rfl rfl ?_
  refine Ie.p rfl rfl rfl rfl ?_
  refine Ie.nil ?_
  refine Ne.seq ?_
  refine Ce.seq ?_
  refine Ce.region ?_
  refine Ie.p rfl rfl rfl rfl ?_
  refine Ie.p rfl rfl rfl rfl ?_
  refine Ie.p rfl rfl rfl rfl ?_
  refine Ie.p rfl rfl rfl rfl ?_
  refine Ie.p rfl rfl rfl rfl ?_
  refine Ie.p rfl rfl rfl rfl ?_
  refine Ie.p rfl rfl rfl rfl ?_
  refine Ie.p rfl rfl rfl rfl ?_
  refine Ie.nil ?_
  refine Ne.seq ?_
  refine Ce.seq ?_
  refine Ce.seq ?_
  refine Ce.region ?_
  refine Ie.p rfl rfl rfl rfl ?_
  refine Ie.p rfl rfl rfl rfl ?_
  refine Ie.nil ?_
  refine Ne.seq ?_
  refine Ce.cond_false rfl ?_
  refine Ce.skip ?_
  refine Ne.seq ?_
  refine Ce.seq ?_
  refine Ce.seq ?_
  refine Ce.region ?_
  refine Ie.p rfl rfl rfl rfl ?_
  refine Ie.nil ?_
  refine Ne.seq ?_
  refine Ce.block ?_
  refine Ce.seq ?_
  refine Ce.region ?_
  refine Ie.p rfl rfl rfl rfl ?_
  refine Ie.p rfl rfl rfl rfl ?_
  refine Ie.nil ?_
  refine Ne.seq ?_
  refine Ce.cond_false rfl ?_
  refine Ce.seq ?_
  refine Ce.region ?_
  refine Ie.p rfl rfl rfl rfl ?_
  refine Ie.p rfl rfl rfl rfl ?_
  refine Ie.nil ?_
  refine Ne.seq ?_
  refine Ce.cond_true rfl ?_
  refine Ce.seq ?_
  refine Ce.region ?_
  refine Ie.p rfl rfl rfl rfl ?_
  refine Ie.p rfl rfl rfl rfl ?_
  refine Ie.splitB 55 rfl (fun hs0 => ?_) (fun hs0 => ?_)
  · refine Ie.off rfl rfl rfl ?_
    refine Ie.p rfl rfl rfl rfl ?_
    refine Ie.p rfl rfl rfl rfl ?_
    refine Ie.nil ?_
    refine Ne.seq ?_
    refine Ce.ret ?_
    refine Re.blk ?_
    refine Re.seq ?_
    exact Re.end_ rfl rfl (fun m hm => ⟨by first | rfl | (rw [hs0]; rfl), hm.ext⟩)
  · refine Ie.p rfl rfl rfl rfl ?_
    refine Ie.p rfl rfl rfl rfl ?_
    refine Ie.p rfl rfl rfl rfl ?_
    refine Ie.nil ?_
    refine Ne.seq ?_
    refine Ce.ret ?_
    refine Re.blk ?_
    refine Re.seq ?_
    exact Re.end_ rfl rfl (fun m hm => ⟨by first | rfl | (rw [hs0]; rfl), hm.ext⟩)

theorem Compare_i32_12 {a b : Int} {m : AW} (hm : m.lo ≤ m.next) (ha : Fit .i64 a) (hb : Fit .i64 b) : Fc Tryz.prog 29 [.int .i64 2, .int .i64 12, .int .i64 a, .int .i64 b] m fun v m' => v = .tuple ⟨[.bool (ltI (wr .i32 a) (wr .i32 b)), .int .i64 0]⟩ ∧ Ext m m' := by
  refine Fc.body (c := _) Tryz.func29 rfl rfl rfl rfl hm ?_
  refine Ce.seq ?_
  refine Ce.region ?_
  refine Ie.p rfl rfl rfl rfl ?_
  refine Ie.p rfl rfl rfl rfl ?_
  refine Ie.nil ?_
  refine Ne.seq ?_
  refine Ce.seq ?_
  refine Ce.region ?_
  refine Ie.p rfl rfl rfl rfl ?_
  refine Ie.calln _ _ _ rfl rfl rfl rfl rfl rfl (fun m hm => of_i32 hm.lole) (fun x hx => ?_)
  clear hx
  refine Ie.p rfl rfl rfl rfl ?_
  refine Ie.p rfl rfl rfl rfl ?_
  refine Ie.p rfl rfl rfl rfl ?_
  refine Ie.alloc rfl rfl rfl rfl zr59 (fun b10 hb10 => ?_)
  refine Ie.store rfl rfl rfl rfl rfl sz59 rfl (by first | exact .head | exact .tail .head | exact .tail (.tail .head) | exact .tail (.tail (.tail .head))) rfl ?_
  refine Ie.p rfl rfl rfl rfl ?_
  refine Ie.nil ?_
  refine Ne.seq ?_
  refine Ce.seq ?_
  refine Ce.seq ?_
  refine Ce.region ?_
  refine Ie.p rfl rfl rfl rfl ?_
  refine Ie.p rfl rfl rfl rfl ?_
  refine Ie.nil ?_
  refine Ne.seq ?_
  refine Ce.cond_false rfl ?_
  refine Ce.skip ?_
  refine Ne.seq ?_
  refine Ce.seq ?_
  refine Ce.draw [⟨0, .p, true, true, 0⟩, ⟨1, .l, true, true, 1⟩, ⟨2, .p, true, true, 0⟩, ⟨3, .h, true, true, 7⟩, ⟨4, .p, false, false, 0⟩, ⟨5, .l, false, false, 16⟩, ⟨6, .p, false, false, 0⟩, ⟨7, .h, true, true, 127⟩, ⟨8, .p, true, true, 255⟩, ⟨9, .p, true, true, 511⟩] (by kernel_rfl) (by kernel_rfl) (fun base hbase hB => ?_)
  refine De.fieldAddr rfl rfl rfl rfl rfl rfl fa59_0 ?_
  refine De.load rfl rfl rfl rfl rfl rfl rfl rfl ag54 (by first | exact .head | exact .tail .head | exact .tail (.tail .head) | exact .tail (.tail (.tail .head)) | exact .base ‹_› ‹_› (by simp)) rfl ?_
  refine De.p rfl rfl rfl rfl rfl ?_
  refine De.call _ rfl rfl rfl rfl rfl rfl rfl rfl rfl (fun m hm => cl_i32_1 hm.lole ha) ?_
  refine De.fieldAddr rfl rfl rfl rfl rfl rfl fa59_0 ?_
  refine De.loadOld rfl rfl rfl rfl rfl rfl ag54 (by first | exact .head | exact .tail .head | exact .tail (.tail .head) | exact .tail (.tail (.tail .head)) | exact .base ‹_› ‹_› (by simp)) rfl (by first | exact hB _ _ (.head _) | exact hB _ _ (.tail _ (.head _)) | exact hB _ _ (.tail _ (.tail _ (.head _))) | exact hB _ _ (.tail _ (.tail _ (.tail _ (.head _)))) | exact Nat.lt_of_lt_of_le ‹_› hbase) (fun _ => ?_)
  refine De.p rfl rfl rfl rfl rfl ?_
  refine De.call _ rfl rfl rfl rfl rfl rfl rfl rfl rfl (fun m hm => cl_i32_1 hm.lole hb) ?_
  refine De.p rfl rfl rfl rfl rfl ?_
  refine De.p rfl rfl rfl rfl rfl ?_
  refine De.nil ?_
  refine Ne.seq ?_
  refine Ce.seq ?_
  refine Ce.seq ?_
  refine Ce.region ?_
  refine Ie.p rfl rfl rfl rfl ?_
  refine Ie.nil ?_
  refine Ne.seq ?_
  refine Ce.block ?_
  refine Ce.seq ?_
  refine Ce.region ?_
  refine Ie.p rfl rfl rfl rfl ?_
  refine Ie.p rfl rfl rfl rfl ?_
  refine Ie.nil ?_
  refine Ne.seq ?_
  refine Ce.cond_false rfl ?_
  refine Ce.seq ?_
  refine Ce.region ?_
  refine Ie.p rfl rfl rfl rfl ?_
  refine Ie.p rfl rfl rfl rfl ?_
  refine Ie.nil ?_
  refine Ne.seq ?_
  refine Ce.cond_false rfl ?_
  refine Ce.seq ?_
  refine Ce.region ?_
  refine Ie.p rfl rfl rfl rfl ?_
  refine Ie.p rfl rfl rfl rfl ?_
  refine Ie.nil ?_
  refine Ne.seq ?_
  refine Ce.cond_true rfl ?_
  refine Ce.seq ?_
  refine Ce.region ?_
  refine Ie.fieldAddr rfl rfl rfl rfl rfl fa59_6 ?_
  refine Ie.load rfl rfl rfl rfl rfl ag57 (by first | exact .head | exact .tail .head | exact .tail (.tail .head) | exact .tail (.tail (.tail .head)) | exact .base ‹_› ‹_› (by simp)) rfl ?_
  refine Ie.p rfl rfl rfl rfl ?_
  refine Ie.p rfl rfl rfl rfl ?_
  refine Ie.call _ rfl rfl rfl rfl rfl rfl (fun m hm => cl_i32_less hm.lole (Fit.wr _ _) (Fit.wr _ _)) ?_
  refine Ie.p rfl rfl rfl rfl ?_
  refine Ie.p rfl rfl rfl rfl ?_
  refine Ie.nil ?_
  refine Ne.seq ?_
  refine Ce.ret ?_
  refine Re.blk ?_
  refine Re.seq ?_
  exact Re.end_ rfl rfl (fun m hm => ⟨rfl, hm.ext⟩)

theorem RCompare_i32_12 {a b : Int} {m : AW} (hm : m.lo ≤ m.next) (ha : Fit .i64 a) (hb : Fit .i64 b) : Fc Tryz.prog 31 [.int .i64 2, .int .i64 12, .int .i64 a, .int .i64 b] m fun v m' => v = .bool (ltI (wr .i32 a) (wr .i32 b)) ∧ Ext m m' := by
  refine Fc.body (c := _) Tryz.func31 rfl rfl rfl rfl hm ?_
  refine Ce.seq ?_
  refine Ce.region ?_
  refine Ie.p rfl rfl rfl rfl ?_
  refine Ie.nil ?_
  refine Ne.seq ?_
  refine Ce.seq ?_
  refine Ce.region ?_
  refine Ie.p rfl rfl rfl rfl ?_
  refine Ie.p rfl rfl rfl rfl ?_
  refine Ie.call _ rfl rfl rfl rfl rfl rfl (fun m hm => RWrap_i32 hm.lole ha) ?_
  refine Ie.p rfl rfl rfl rfl ?_
  refine Ie.p rfl rfl rfl rfl ?_
  refine Ie.call _ rfl rfl rfl rfl rfl rfl (fun m hm => RWrap_i32 hm.lole hb) ?_
  refine Ie.p rfl rfl rfl rfl ?_
  refine Ie.p rfl rfl rfl rfl ?_
  refine Ie.nil ?_
  refine Ne.seq ?_
  refine Ce.seq ?_
  refine Ce.region ?_
  refine Ie.p rfl rfl rfl rfl ?_
  refine Ie.p rfl rfl rfl rfl ?_
  refine Ie.p rfl rfl rfl rfl ?_
  refine Ie.p rfl rfl rfl rfl ?_
  refine Ie.p rfl rfl rfl rfl ?_
  refine Ie.p rfl rfl rfl rfl ?_
  refine Ie.p rfl rfl rfl rfl ?_
  refine Ie.p rfl rfl rfl rfl ?_
  refine Ie.nil ?_
  refine Ne.seq ?_
  refine Ce.seq ?_
  refine Ce.seq ?_
  refine Ce.region ?_
  refine Ie.p rfl rfl rfl rfl ?_
  refine Ie.p rfl rfl rfl rfl ?_
  refine Ie.nil ?_
  refine Ne.seq ?_
  refine Ce.cond_false rfl ?_
  refine Ce.skip ?_
  refine Ne.seq ?_
  refine Ce.seq ?_
  refine Ce.seq ?_
  refine Ce.region ?_
  refine Ie.p rfl rfl rfl rfl ?_
  refine Ie.nil ?_
  refine Ne.seq ?_
  refine Ce.block ?_
  refine Ce.seq ?_
  refine Ce.region ?_
  refine Ie.p rfl rfl rfl rfl ?_
  refine Ie.p rfl rfl rfl rfl ?_
  refine Ie.nil ?_
  refine Ne.seq ?_
  refine Ce.cond_false rfl ?_
  refine Ce.seq ?_
  refine Ce.region ?_
  refine Ie.p rfl rfl rfl rfl ?_
  refine Ie.p rfl rfl rfl rfl ?_
  refine Ie.nil ?_
  refine Ne.seq ?_
  refine Ce.cond_false rfl ?_
  refine Ce.seq ?_
  refine Ce.region ?_
  refine Ie.p rfl rfl rfl rfl ?_
  refine Ie.p rfl rfl rfl rfl ?_
  refine Ie.nil ?_
  refine Ne.seq ?_
  refine Ce.cond_true rfl ?_
  refine Ce.seq ?_
  refine Ce.region ?_
  refine Ie.p rfl rfl rfl rfl ?_
  refine Ie.p rfl rfl rfl rfl ?_
  refine Ie.nil ?_
  refine Ne.seq ?_
  refine Ce.ret ?_
  refine Re.blk ?_
  refine Re.seq ?_
  exact Re.end_ rfl rfl (fun m hm => ⟨rfl, hm.ext⟩)

theorem Compare_i32_13 {a b : Int} {m : AW} (hm : m.lo ≤ m.next) (ha : Fit .i64 a) (hb : Fit .i64 b) : Fc Tryz.prog 29 [.int .i64 2, .int .i64 13, .int .i64 a, .int .i64 b] m fun v m' => v = .tuple ⟨[.bool ((ltI (wr .i32 a) (wr .i32 b) || eqI (wr .i32 a) (wr .i32 b))), .int .i64 0]⟩ ∧ Ext m m' := by
  refine Fc.body (c := _) Tryz.func29 rfl rfl rfl rfl hm ?_
  refine Ce.seq ?_
  refine Ce.region ?_
  refine Ie.p rfl rfl rfl rfl ?_
  refine Ie.p rfl rfl rfl rfl ?_
  refine Ie.nil ?_
  refine Ne.seq ?_
  refine Ce.seq ?_
  refine Ce.region ?_
  refine Ie.p rfl rfl rfl rfl ?_
  refine Ie.calln _ _ _ rfl rfl rfl rfl rfl rfl (fun m hm => of_i32 hm.lole) (fun x hx => ?_)
  clear hx
  refine Ie.p rfl rfl rfl rfl ?_
  refine Ie.p rfl rfl rfl rfl ?_
  refine Ie.p rfl rfl rfl rfl ?_
  refine Ie.alloc rfl rfl rfl rfl zr59 (fun b10 hb10 => ?_)
  refine Ie.store rfl rfl rfl rfl rfl sz59 rfl (by first | exact .head | exact .tail .head | exact .tail (.tail .head) | exact .tail (.tail (.tail .head))) rfl ?_
  refine Ie.p rfl rfl rfl rfl ?_
  refine Ie.nil ?_
  refine Ne.seq ?_
  refine Ce.seq ?_
  refine Ce.seq ?_
  refine Ce.region ?_
  refine Ie.p rfl rfl rfl rfl ?_
  refine Ie.p rfl rfl rfl rfl ?_
  refine Ie.nil ?_
  refine Ne.seq ?_
  refine Ce.cond_false rfl ?_
  refine Ce.skip ?_
  refine Ne.seq ?_
  refine Ce.seq ?_
  refine Ce.draw [⟨0, .p, true, true, 0⟩, ⟨1, .l, true, true, 1⟩, ⟨2, .p, true, true, 0⟩, ⟨3, .h, true, true, 7⟩, ⟨4, .p, false, false, 0⟩, ⟨5, .l, false, false, 16⟩, ⟨6, .p, false, false, 0⟩, ⟨7, .h, true, true, 127⟩, ⟨8, .p, true, true, 255⟩, ⟨9, .p, true, true, 511⟩] (by kernel_rfl) (by kernel_rfl) (fun base hbase hB => ?_)
  refine De.fieldAddr rfl rfl rfl rfl rfl rfl fa59_0 ?_
  refine De.load rfl rfl rfl rfl rfl rfl rfl rfl ag54 (by first | exact .head | exact .tail .head | exact .tail (.tail .head) | exact .tail (.tail (.tail .head)) | exact .base ‹_› ‹_› (by simp)) rfl ?_
  refine De.p rfl rfl rfl rfl rfl ?_
  refine De.call _ rfl rfl rfl rfl rfl rfl rfl rfl rfl (fun m hm => cl_i32_1 hm.lole ha) ?_
  refine De.fieldAddr rfl rfl rfl rfl rfl rfl fa59_0 ?_
  refine De.loadOld rfl rfl rfl rfl rfl rfl ag54 (by first | exact .head | exact .tail .head | exact .tail (.tail .head) | exact .tail (.tail (.tail .head)) | exact .base ‹_› ‹_› (by simp)) rfl (by first | exact hB _ _ (.head _) | exact hB _ _ (.tail _ (.head _)) | exact hB _ _ (.tail _ (.tail _ (.head _))) | exact hB _ _ (.tail _ (.tail _ (.tail _ (.head _)))) | exact Nat.lt_of_lt_of_le ‹_› hbase) (fun _ => ?_)
  refine De.p rfl rfl rfl rfl rfl ?_
  refine De.call _ rfl rfl rfl rfl rfl rfl rfl rfl rfl (fun m hm => cl_i32_1 hm.lole hb) ?_
  refine De.p rfl rfl rfl rfl rfl ?_
  refine De.p rfl rfl rfl rfl rfl ?_
  refine De.nil ?_
  refine Ne.seq ?_
  refine Ce.seq ?_
  refine Ce.seq ?_
  refine Ce.region ?_
  refine Ie.p rfl rfl rfl rfl ?_
  refine Ie.nil ?_
  refine Ne.seq ?_
  refine Ce.block ?_
  refine Ce.seq ?_
  refine Ce.region ?_
  refine Ie.p rfl rfl rfl rfl ?_
  refine Ie.p rfl rfl rfl rfl ?_
  refine Ie.nil ?_
  refine Ne.seq ?_
  refine Ce.cond_false rfl ?_
  refine Ce.seq ?_
  refine Ce.region ?_
  refine Ie.p rfl rfl rfl rfl ?_
  refine Ie.p rfl rfl rfl rfl ?_
  refine Ie.nil ?_
  refine Ne.seq ?_
  refine Ce.cond_false rfl ?_
  refine Ce.seq ?_
  refine Ce.region ?_
  refine Ie.p rfl rfl rfl rfl ?_
  refine Ie.p rfl rfl rfl rfl ?_
  refine Ie.nil ?_
  refine Ne.seq ?_
  refine Ce.cond_false rfl ?_
  refine Ce.seq ?_
  refine Ce.region ?_
  refine Ie.p rfl rfl rfl rfl ?_
  refine Ie.p rfl rfl rfl rfl ?_
  refine Ie.nil ?_
  refine Ne.seq ?_
  refine Ce.cond_true rfl ?_
  refine Ce.seq ?_
  refine Ce.region ?_
  refine Ie.fieldAddr rfl rfl rfl rfl rfl fa59_6 ?_
  refine Ie.load rfl rfl rfl rfl rfl ag57 (by first | exact .head | exact .tail .head | exact .tail (.tail .head) | exact .tail (.tail (.tail .head)) | exact .base ‹_› ‹_› (by simp)) rfl ?_
  refine Ie.p rfl rfl rfl rfl ?_
  refine Ie.p rfl rfl rfl rfl ?_
  refine Ie.call _ rfl rfl rfl rfl rfl rfl (fun m hm => cl_i32_less hm.lole (Fit.wr _ _) (Fit.wr _ _)) ?_
  refine Ie.p rfl rfl rfl rfl ?_
  refine Ie.splitB 58 rfl (fun hs0 => ?_) (fun hs0 => ?_)
  · refine Ie.off rfl rfl rfl ?_
    refine Ie.off rfl rfl rfl ?_
    refine Ie.off rfl rfl rfl ?_
    refine Ie.off rfl rfl rfl ?_
    refine Ie.off rfl rfl rfl ?_
    refine Ie.p rfl rfl rfl rfl ?_
    refine Ie.p rfl rfl rfl rfl ?_
    refine Ie.p rfl rfl rfl rfl ?_
    refine Ie.nil ?_
    refine Ne.seq ?_
    refine Ce.ret ?_
    refine Re.blk ?_
    refine Re.seq ?_
    exact Re.end_ rfl rfl (fun m hm => ⟨by first | rfl | (rw [hs0]; rfl), hm.ext⟩)
  · refine Ie.fieldAddr rfl rfl rfl rfl rfl fa59_7 ?_
    refine Ie.load rfl rfl rfl rfl rfl ag57 (by first | exact .head | exact .tail .head | exact .tail (.tail .head) | exact .tail (.tail (.tail .head)) | exact .base ‹_› ‹_› (by simp)) rfl ?_
    refine Ie.p rfl rfl rfl rfl ?_
    refine Ie.p rfl rfl rfl rfl ?_
    refine Ie.call _ rfl rfl rfl rfl rfl rfl (fun m hm => cl_i32_same hm.lole (Fit.wr _ _) (Fit.wr _ _)) ?_
    refine Ie.p rfl rfl rfl rfl ?_
    refine Ie.p rfl rfl rfl rfl ?_
    refine Ie.p rfl rfl rfl rfl ?_
    refine Ie.nil ?_
    refine Ne.seq ?_
    refine Ce.ret ?_
    refine Re.blk ?_
    refine Re.seq ?_
    exact Re.end_ rfl rfl (fun m hm => ⟨by first | rfl | (rw [hs0]; rfl), hm.ext⟩)

theorem RCompare_i32_13 {a b : Int} {m : AW} (hm : m.lo ≤ m.next) (ha : Fit .i64 a) (hb : Fit .i64 b) : Fc Tryz.prog 31 [.int .i64 2, .int .i64 13, .int .i64 a, .int .i64 b] m fun v m' => v = .bool ((!ltI (wr .i32 b) (wr .i32 a))) ∧ Ext m m' := by
  refine Fc.body (c := _) Tryz.func31 rfl rfl rfl rfl hm ?_
  refine Ce.seq ?_
  refine Ce.region ?_
  refine Ie.p rfl rfl rfl rfl ?_
  refine Ie.nil ?_
  refine Ne.seq ?_
  refine Ce.seq ?_
  refine Ce.region ?_
  refine Ie.p rfl rfl rfl rfl ?_
  refine Ie.p rfl rfl rfl rfl ?_
  refine Ie.call _ rfl rfl rfl rfl rfl rfl (fun m hm => RWrap_i32 hm.lole ha) ?_
  refine Ie.p rfl rfl rfl rfl ?_
  refine Ie.p rfl rfl rfl rfl ?_
  refine Ie.call _ rfl rfl rfl rfl rfl rfl (fun m hm => RWrap_i32 hm.lole hb) ?_
  refine Ie.p rfl rfl rfl rfl ?_
  refine Ie.p rfl rfl rfl rfl ?_
  refine Ie.nil ?_
  refine Ne.seq ?_
  refine Ce.seq ?_
  refine Ce.region ?_
  refine Ie.p rfl rfl rfl rfl ?_
  refine Ie.p rfl rfl rfl rfl ?_
  refine Ie.p rfl rfl rfl rfl ?_
  refine Ie.p rfl rfl rfl rfl ?_
  refine Ie.p rfl rfl rfl rfl ?_
  refine Ie.p rfl rfl rfl rfl ?_
  refine Ie.p rfl rfl rfl rfl ?_
  refine Ie.p rfl rfl rfl rfl ?_
  refine Ie.nil ?_
  refine Ne.seq ?_
  refine Ce.seq ?_
  refine Ce.seq ?_
  refine Ce.region ?_
  refine Ie.p rfl rfl rfl rfl ?_
  refine Ie.p rfl rfl rfl rfl ?_
  refine Ie.nil ?_
  refine Ne.seq ?_
  refine Ce.cond_false rfl ?_
  refine Ce.skip ?_
  refine Ne.seq ?_
  refine Ce.seq ?_
  refine Ce.seq ?_
  refine Ce.region ?_
  refine Ie.p rfl rfl rfl rfl ?_
  refine Ie.nil ?_
  refine Ne.seq ?_
  refine Ce.block ?_
  refine Ce.seq ?_
  refine Ce.region ?_
  refine Ie.p rfl rfl rfl rfl ?_
  refine Ie.p rfl rfl rfl rfl ?_
  refine Ie.nil ?_
  refine Ne.seq ?_
  refine Ce.cond_false rfl ?_
  refine Ce.seq ?_
  refine Ce.region ?_
  refine Ie.p rfl rfl rfl rfl ?_
  refine Ie.p rfl rfl rfl rfl ?_
  refine Ie.nil ?_
  refine Ne.seq ?_
  refine Ce.cond_false rfl ?_
  refine Ce.seq ?_
  refine Ce.region ?_
  refine Ie.p rfl rfl rfl rfl ?_
  refine Ie.p rfl rfl rfl rfl ?_
  refine Ie.nil ?_
  refine Ne.seq ?_
  refine Ce.cond_false rfl ?_
  refine Ce.seq ?_
  refine Ce.region ?_
  refine Ie.p rfl rfl rfl rfl ?_
  refine Ie.p rfl rfl rfl rfl ?_
  refine Ie.nil ?_
  refine Ne.seq ?_
  refine Ce.cond_true rfl ?_
  refine Ce.seq ?_
  refine Ce.region ?_
  refine Ie.p rfl rfl rfl rfl ?_
  refine Ie.p rfl rfl rfl rfl ?_
  refine Ie.p rfl rfl rfl rfl ?_
  refine Ie.nil ?_
  refine Ne.seq ?_
  refine Ce.ret ?_
  refine Re.blk ?_
  refine Re.seq ?_
  exact Re.end_ rfl rfl (fun m hm => ⟨rfl, hm.ext⟩)

theorem Compare_i32_14 {a b : Int} {m : AW} (hm : m.lo ≤ m.next) (ha : Fit .i64 a) (hb : Fit .i64 b) : Fc Tryz.prog 29 [.int .i64 2, .int .i64 14, .int .i64 a, .int .i64 b] m fun v m' => v = .tuple ⟨[.bool (ltI (wr .i32 b) (wr .i32 a)), .int .i64 0]⟩ ∧ Ext m m' := by
  refine Fc.body (c := _) Tryz.func29 rfl rfl rfl rfl hm ?_
  refine Ce.seq ?_
  refine Ce.region ?_
  refine Ie.p rfl rfl rfl rfl ?_
  refine Ie.p rfl rfl rfl rfl ?_
  refine Ie.nil ?_
  refine Ne.seq ?_
  refine Ce.seq ?_
  refine Ce.region ?_
  refine Ie.p rfl rfl rfl rfl ?_
  refine Ie.calln _ _ _ rfl rfl rfl rfl rfl rfl (fun m hm => of_i32 hm.lole) (fun x hx => ?_)
  clear hx
  refine Ie.p rfl rfl rfl rfl ?_
  refine Ie.p rfl rfl rfl rfl ?_
  refine Ie.p rfl rfl rfl rfl ?_
  refine Ie.alloc rfl rfl rfl rfl zr59 (fun b10 hb10 => ?_)
  refine Ie.store rfl rfl rfl rfl rfl sz59 rfl (by first | exact .head | exact .tail .head | exact .tail (.tail .head) | exact .tail (.tail (.tail .head))) rfl ?_
  refine Ie.p rfl rfl rfl rfl ?_
  refine Ie.nil ?_
  refine Ne.seq ?_
  refine Ce.seq ?_
  refine Ce.seq ?_
  refine Ce.region ?_
  refine Ie.p rfl rfl rfl rfl ?_
  refine Ie.p rfl rfl rfl rfl ?_
  refine Ie.nil ?_
  refine Ne.seq ?_
  refine Ce.cond_false rfl ?_
  refine Ce.skip ?_
  refine Ne.seq ?_
  refine Ce.seq ?_
  refine Ce.draw [⟨0, .p, true, true, 0⟩, ⟨1, .l, true, true, 1⟩, ⟨2, .p, true, true, 0⟩, ⟨3, .h, true, true, 7⟩, ⟨4, .p, false, false, 0⟩, ⟨5, .l, false, false, 16⟩, ⟨6, .p, false, false, 0⟩, ⟨7, .h, true, true, 127⟩, ⟨8, .p, true, true, 255⟩, ⟨9, .p, true, true, 511⟩] (by kernel_rfl) (by kernel_rfl) (fun base hbase hB => ?_)
  refine De.fieldAddr rfl rfl rfl rfl rfl rfl fa59_0 ?_
  refine De.load rfl rfl rfl rfl rfl rfl rfl rfl ag54 (by first | exact .head | exact .tail .head | exact .tail (.tail .head) | exact .tail (.tail (.tail .head)) | exact .base ‹_› ‹_› (by simp)) rfl ?_
  refine De.p rfl rfl rfl rfl rfl ?_
  refine De.call _ rfl rfl rfl rfl rfl rfl rfl rfl rfl (fun m hm => cl_i32_1 hm.lole ha) ?_
  refine De.fieldAddr rfl rfl rfl rfl rfl rfl fa59_0 ?_
  refine De.loadOld rfl rfl rfl rfl rfl rfl ag54 (by first | exact .head | exact .tail .head | exact .tail (.tail .head) | exact .tail (.tail (.tail .head)) | exact .base ‹_› ‹_› (by simp)) rfl (by first | exact hB _ _ (.head _) | exact hB _ _ (.tail _ (.head _)) | exact hB _ _ (.tail _ (.tail _ (.head _))) | exact hB _ _ (.tail _ (.tail _ (.tail _ (.head _)))) | exact Nat.lt_of_lt_of_le ‹_› hbase) (fun _ => ?_)
  refine De.p rfl rfl rfl rfl rfl ?_
  refine De.call _ rfl rfl rfl rfl rfl rfl rfl rfl rfl (fun m hm => cl_i32_1 hm.lole hb) ?_
  refine De.p rfl rfl rfl rfl rfl ?_
  refine De.p rfl rfl rfl rfl rfl ?_
  refine De.nil ?_
  refine Ne.seq ?_
  refine Ce.seq ?_
  refine Ce.seq ?_
  refine Ce.region ?_
  refine Ie.p rfl rfl rfl rfl ?_
  refine Ie.nil ?_
  refine Ne.seq ?_
  refine Ce.block ?_
  refine Ce.seq ?_
  refine Ce.region ?_
  refine Ie.p rfl rfl rfl rfl ?_
  refine Ie.p rfl rfl rfl rfl ?_
  refine Ie.nil ?_
  refine Ne.seq ?_
  refine Ce.cond_false rfl ?_
  refine Ce.seq ?_
  refine Ce.region ?_
  refine Ie.p rfl rfl rfl rfl ?_
  refine Ie.p rfl rfl rfl rfl ?_
  refine Ie.nil ?_
  refine Ne.seq ?_
  refine Ce.cond_false rfl ?_
  refine Ce.seq ?_
  refine Ce.region ?_
  refine Ie.p rfl rfl rfl rfl ?_
  refine Ie.p rfl rfl rfl rfl ?_
  refine Ie.nil ?_
  refine Ne.seq ?_
  refine Ce.cond_false rfl ?_
  refine Ce.seq ?_
  refine Ce.region ?_
  refine Ie.p rfl rfl rfl rfl ?_
  refine Ie.p rfl rfl rfl rfl ?_
  refine Ie.nil ?_
  refine Ne.seq ?_
  refine Ce.cond_false rfl ?_
  refine Ce.seq ?_
  refine Ce.region ?_
  refine Ie.p rfl rfl rfl rfl ?_
  refine Ie.p rfl rfl rfl rfl ?_
  refine Ie.nil ?_
  refine Ne.seq ?_
  refine Ce.cond_true rfl ?_
  refine Ce.seq ?_
  refine Ce.region ?_
  refine Ie.fieldAddr rfl rfl rfl rfl rfl fa59_6 ?_
  refine Ie.load rfl rfl rfl rfl rfl ag57 (by first | exact .head | exact .tail .head | exact .tail (.tail .head) | exact .tail (.tail (.tail .head)) | exact .base ‹_› ‹_› (by simp)) rfl ?_
  refine Ie.p rfl rfl rfl rfl ?_
  refine Ie.p rfl rfl rfl rfl ?_
  refine Ie.call _ rfl rfl rfl rfl rfl rfl (fun m hm => cl_i32_less hm.lole (Fit.wr _ _) (Fit.wr _ _)) ?_
  refine Ie.p rfl rfl rfl rfl ?_
  refine Ie.p rfl rfl rfl rfl ?_
  refine Ie.nil ?_
  refine Ne.seq ?_
  refine Ce.ret ?_
  refine Re.blk ?_
  refine Re.seq ?_
  exact Re.end_ rfl rfl (fun m hm => ⟨rfl, hm.ext⟩)

theorem RCompare_i32_14 {a b : Int} {m : AW} (hm : m.lo ≤ m.next) (ha : Fit .i64 a) (hb : Fit .i64 b) : Fc Tryz.prog 31 [.int .i64 2, .int .i64 14, .int .i64 a, .int .i64 b] m fun v m' => v = .bool (ltI (wr .i32 b) (wr .i32 a)) ∧ Ext m m' := by
  refine Fc.body (c := _) Tryz.func31 rfl rfl rfl rfl hm ?_
  refine Ce.seq ?_
  refine Ce.region ?_
  refine Ie.p rfl rfl rfl rfl ?_
  refine Ie.nil ?_
  refine Ne.seq ?_
  refine Ce.seq ?_
  refine Ce.region ?_
  refine Ie.p rfl rfl rfl rfl ?_
  refine Ie.p rfl rfl rfl rfl ?_
  refine Ie.call _ rfl rfl rfl rfl rfl rfl (fun m hm => RWrap_i32 hm.lole ha) ?_
  refine Ie.p rfl rfl rfl rfl ?_
  refine Ie.p rfl rfl rfl rfl ?_
  refine Ie.call _ rfl rfl rfl rfl rfl rfl (fun m hm => RWrap_i32 hm.lole hb) ?_
  refine Ie.p rfl rfl rfl rfl ?_
  refine Ie.p rfl rfl rfl rfl ?_
  refine Ie.nil ?_
  refine Ne.seq ?_
  refine Ce.seq ?_
  refine Ce.region ?_
  refine Ie.p rfl rfl rfl rfl ?_
  refine Ie.p rfl rfl rfl rfl ?_
  refine Ie.p rfl rfl rfl rfl ?_
  refine Ie.p rfl rfl rfl rfl ?_
  refine Ie.p rfl rfl rfl rfl ?_
  refine Ie.p rfl rfl rfl rfl ?_
  refine Ie.p rfl rfl rfl rfl ?_
  refine Ie.p rfl rfl rfl rfl ?_
  refine Ie.nil ?_
  refine Ne.seq ?_
  refine Ce.seq ?_
  refine Ce.seq ?_
  refine Ce.region ?_
  refine Ie.p rfl rfl rfl rfl ?_
  refine Ie.p rfl rfl rfl rfl ?_
  refine Ie.nil ?_
  refine Ne.seq ?_
  refine Ce.cond_false rfl ?_
  refine Ce.skip ?_
  refine Ne.seq ?_
  refine Ce.seq ?_
  refine Ce.seq ?_
  refine Ce.region ?_
  refine Ie.p rfl rfl rfl rfl ?_
  refine Ie.nil ?_
  refine Ne.seq ?_
  refine Ce.block ?_
  refine Ce.seq ?_
  refine Ce.region ?_
  refine Ie.p rfl rfl rfl rfl ?_
  refine Ie.p rfl rfl rfl rfl ?_
  refine Ie.nil ?_
  refine Ne.seq ?_
  refine Ce.cond_false rfl ?_
  refine Ce.seq ?_
  refine Ce.region ?_
  refine Ie.p rfl rfl rfl rfl ?_
  refine Ie.p rfl rfl rfl rfl ?_
  refine Ie.nil ?_
  refine Ne.seq ?_
  refine Ce.cond_false rfl ?_
  refine Ce.seq ?_
  refine Ce.region ?_
  refine Ie.p rfl rfl rfl rfl ?_
  refine Ie.p rfl rfl rfl rfl ?_
  refine Ie.nil ?_
  refine Ne.seq ?_
  refine Ce.cond_false rfl ?_
  refine Ce.seq ?_
  refine Ce.region ?_
  refine Ie.p rfl rfl rfl rfl ?_
  refine Ie.p rfl rfl rfl rfl ?_
  refine Ie.nil ?_
  refine Ne.seq ?_
  refine Ce.cond_false rfl ?_
  refine Ce.seq ?_
  refine Ce.region ?_
  refine Ie.p rfl rfl rfl rfl ?_
  refine Ie.p rfl rfl rfl rfl ?_
  refine Ie.nil ?_
  refine Ne.seq ?_
  refine Ce.cond_true rfl ?_
  refine Ce.seq ?_
  refine Ce.region ?_
  refine Ie.p rfl rfl rfl rfl ?_
  refine Ie.p rfl rfl rfl rfl ?_
  refine Ie.nil ?_
  refine Ne.seq ?_
  refine Ce.ret ?_
  refine Re.blk ?_
  refine Re.seq ?_
  exact Re.end_ rfl rfl (fun m hm => ⟨rfl, hm.ext⟩)

theorem Compare_i32_15 {a b : Int} {m : AW} (hm : m.lo ≤ m.next) (ha : Fit .i64 a) (hb : Fit .i64 b) : Fc Tryz.prog 29 [.int .i64 2, .int .i64 15, .int .i64 a, .int .i64 b] m fun v m' => v = .tuple ⟨[.bool ((ltI (wr .i32 b) (wr .i32 a) || eqI (wr .i32 a) (wr .i32 b))), .int .i64 0]⟩ ∧ Ext m m' := by
  refine Fc.body (c := _) Tryz.func29 rfl rfl rfl rfl hm ?_
  refine Ce.seq ?_
  refine Ce.region ?_
  refine Ie.p rfl rfl rfl rfl ?_
  refine Ie.p rfl rfl rfl rfl ?_
  refine Ie.nil ?_
  refine Ne.seq ?_
  refine Ce.seq ?_
  refine Ce.region ?_
  refine Ie.p rfl rfl rfl rfl ?_
  refine Ie.calln _ _ _ rfl rfl rfl rfl rfl rfl (fun m hm => of_i32 hm.lole) (fun x hx => ?_)
  clear hx
  refine Ie.p rfl rfl rfl rfl ?_
  refine Ie.p rfl rfl rfl rfl ?_
  refine Ie.p rfl rfl rfl rfl ?_
  refine Ie.alloc rfl rfl rfl rfl zr59 (fun b10 hb10 => ?_)
  refine Ie.store rfl rfl rfl rfl rfl sz59 rfl (by first | exact .head | exact .tail .head | exact .tail (.tail .head) | exact .tail (.tail (.tail .head))) rfl ?_
  refine Ie.p rfl rfl rfl rfl ?_
  refine Ie.nil ?_
  refine Ne.seq ?_
  refine Ce.seq ?_
  refine Ce.seq ?_
  refine Ce.region ?_
  refine Ie.p rfl rfl rfl rfl ?_
  refine Ie.p rfl rfl rfl rfl ?_
  refine Ie.nil ?_
  refine Ne.seq ?_
  refine Ce.cond_false rfl ?_
  refine Ce.skip ?_
  refine Ne.seq ?_
  refine Ce.seq ?_
  refine Ce.draw [⟨0, .p, true, true, 0⟩, ⟨1, .l, true, true, 1⟩, ⟨2, .p, true, true, 0⟩, ⟨3, .h, true, true, 7⟩, ⟨4, .p, false, false, 0⟩, ⟨5, .l, false, false, 16⟩, ⟨6, .p, false, false, 0⟩, ⟨7, .h, true, true, 127⟩, ⟨8, .p, true, true, 255⟩, ⟨9, .p, true, true, 511⟩] (by kernel_rfl) (by kernel_rfl) (fun base hbase hB => ?_)
  refine De.fieldAddr rfl rfl rfl rfl rfl rfl fa59_0 ?_
  refine De.load rfl rfl rfl rfl rfl rfl rfl rfl ag54 (by first | exact .head | exact .tail .head | exact .tail (.tail .head) | exact .tail (.tail (.tail .head)) | exact .base ‹_› ‹_› (by simp)) rfl ?_
  refine De.p rfl rfl rfl rfl rfl ?_
  refine De.call _ rfl rfl rfl rfl rfl rfl rfl rfl rfl (fun m hm => cl_i32_1 hm.lole ha) ?_
  refine De.fieldAddr rfl rfl rfl rfl rfl rfl fa59_0 ?_
  refine De.loadOld rfl rfl rfl rfl rfl rfl ag54 (by first | exact .head | exact .tail .head | exact .tail (.tail .head) | exact .tail (.tail (.tail .head)) | exact .base ‹_› ‹_› (by simp)) rfl (by first | exact hB _ _ (.head _) | exact hB _ _ (.tail _ (.head _)) | exact hB _ _ (.tail _ (.tail _ (.head _))) | exact hB _ _ (.tail _ (.tail _ (.tail _ (.head _)))) | exact Nat.lt_of_lt_of_le ‹_› hbase) (fun _ => ?_)
  refine De.p rfl rfl rfl rfl rfl ?_
  refine De.call _ rfl rfl rfl rfl rfl rfl rfl rfl rfl (fun m hm => cl_i32_1 hm.lole hb) ?_
  refine De.p rfl rfl rfl rfl rfl ?_
  refine De.p rfl rfl rfl rfl rfl ?_
  refine De.nil ?_
  refine Ne.seq ?_
  refine Ce.seq ?_
  refine Ce.seq ?_
  refine Ce.region ?_
  refine Ie.p rfl rfl rfl rfl ?_
  refine Ie.nil ?_
  refine Ne.seq ?_
  refine Ce.block ?_
  refine Ce.seq ?_
  refine Ce.region ?_
  refine Ie.p rfl rfl rfl rfl ?_
  refine Ie.p rfl rfl rfl rfl ?_
  refine Ie.nil ?_
  refine Ne.seq ?_
  refine Ce.cond_false rfl ?_
  refine Ce.seq ?_
  refine Ce.region ?_
  refine Ie.p rfl rfl rfl rfl ?_
  refine Ie.p rfl rfl rfl rfl ?_
  refine Ie.nil ?_
  refine Ne.seq ?_
  refine Ce.cond_false rfl ?_
  refine Ce.seq ?_
  refine Ce.region ?_
  refine Ie.p rfl rfl rfl rfl ?_
  refine Ie.p rfl rfl rfl rfl ?_
  refine Ie.nil ?_
  refine Ne.seq ?_
  refine Ce.cond_false rfl ?_
  refine Ce.seq ?_
  refine Ce.region ?_
  refine Ie.p rfl rfl rfl rfl ?_
  refine Ie.p rfl rfl rfl rfl ?_
  refine Ie.nil ?_
  refine Ne.seq ?_
  refine Ce.cond_false rfl ?_
  refine Ce.seq ?_
  refine Ce.region ?_
  refine Ie.p rfl rfl rfl rfl ?_
  refine Ie.p rfl rfl rfl rfl ?_
  refine Ie.nil ?_
  refine Ne.seq ?_
  refine Ce.cond_false rfl ?_
  refine Ce.seq ?_
  refine Ce.region ?_
  refine Ie.p rfl rfl rfl rfl ?_
  refine Ie.p rfl rfl rfl rfl ?_
  refine Ie.nil ?_
  refine Ne.seq ?_
  refine Ce.cond_true rfl ?_
  refine Ce.seq ?_
  refine Ce.region ?_
  refine Ie.fieldAddr rfl rfl rfl rfl rfl fa59_6 ?_
  refine Ie.load rfl rfl rfl rfl rfl ag57 (by first | exact .head | exact .tail .head | exact .tail (.tail .head) | exact .tail (.tail (.tail .head)) | exact .base ‹_› ‹_› (by simp)) rfl ?_
  refine Ie.p rfl rfl rfl rfl ?_
  refine Ie.p rfl rfl rfl rfl ?_
  refine Ie.call _ rfl rfl rfl rfl rfl rfl (fun m hm => cl_i32_less hm.lole (Fit.wr _ _) (Fit.wr _ _)) ?_
  refine Ie.p rfl rfl rfl rfl ?_
  refine Ie.splitB 79 rfl (fun hs0 => ?_) (fun hs0 => ?_)
  · refine Ie.off rfl rfl rfl ?_
    refine Ie.off rfl rfl rfl ?_
    refine Ie.off rfl rfl rfl ?_
    refine Ie.off rfl rfl rfl ?_
    refine Ie.off rfl rfl rfl ?_
    refine Ie.p rfl rfl rfl rfl ?_
    refine Ie.p rfl rfl rfl rfl ?_
    refine Ie.p rfl rfl rfl rfl ?_
    refine Ie.nil ?_
    refine Ne.seq ?_
    refine Ce.ret ?_
    refine Re.blk ?_
    refine Re.seq ?_
    exact Re.end_ rfl rfl (fun m hm => ⟨by first | rfl | (rw [hs0]; rfl), hm.ext⟩)
  · refine Ie.fieldAddr rfl rfl rfl rfl rfl fa59_7 ?_
    refine Ie.load rfl rfl rfl rfl rfl ag57 (by first | exact .head | exact .tail .head | exact .tail (.tail .head) | exact .tail (.tail (.tail .head)) | exact .base ‹_› ‹_› (by simp)) rfl ?_
    refine Ie.p rfl rfl rfl rfl ?_
    refine Ie.p rfl rfl rfl rfl ?_
    refine Ie.call _ rfl rfl rfl rfl rfl rfl (fun m hm => cl_i32_same hm.lole (Fit.wr _ _) (Fit.wr _ _)) ?_
    refine Ie.p rfl rfl rfl rfl ?_
    refine Ie.p rfl rfl rfl rfl ?_
    refine Ie.p rfl rfl rfl rfl ?_
    refine Ie.nil ?_
    refine Ne.seq ?_
    refine Ce.ret ?_
    refine Re.blk ?_
    refine Re.seq ?_
    exact Re.end_ rfl rfl (fun m hm => ⟨by first | rfl | (rw [hs0]; rfl), hm.ext⟩)

theorem RCompare_i32_15 {a b : Int} {m : AW} (hm : m.lo ≤ m.next) (ha : Fit .i64 a) (hb : Fit .i64 b) : Fc Tryz.prog 31 [.int .i64 2, .int .i64 15, .int .i64 a, .int .i64 b] m fun v m' => v = .bool ((!ltI (wr .i32 a) (wr .i32 b))) ∧ Ext m m' := by
  refine Fc.body (c := _) Tryz.func31 rfl rfl rfl rfl hm ?_
  refine Ce.seq ?_
  refine Ce.region ?_
  refine Ie.p rfl rfl rfl rfl ?_
  refine Ie.nil ?_
  refine Ne.seq ?_
  refine Ce.seq ?_
  refine Ce.region ?_
  refine Ie.p rfl rfl rfl rfl ?_
  refine Ie.p rfl rfl rfl rfl ?_
  refine Ie.call _ rfl rfl rfl rfl rfl rfl (fun m hm => RWrap_i32 hm.lole ha) ?_
  refine Ie.p rfl rfl rfl rfl ?_
  refine Ie.p rfl rfl rfl rfl ?_
  refine Ie.call _ rfl rfl rfl rfl rfl rfl (fun m hm => RWrap_i32 hm.lole hb) ?_
  refine Ie.p rfl rfl rfl rfl ?_
  refine Ie.p rfl rfl rfl rfl ?_
  refine Ie.nil ?_
  refine Ne.seq ?_
  refine Ce.seq ?_
  refine Ce.region ?_
  refine Ie.p rfl rfl rfl rfl ?_
  refine Ie.p rfl rfl rfl rfl ?_
  refine Ie.p rfl rfl rfl rfl ?_
  refine Ie.p rfl rfl rfl rfl ?_
  refine Ie.p rfl rfl rfl rfl ?_
  refine Ie.p rfl rfl rfl rfl ?_
  refine Ie.p rfl rfl rfl rfl ?_
  refine Ie.p rfl rfl rfl rfl ?_
  refine Ie.nil ?_
  refine Ne.seq ?_
  refine Ce.seq ?_
  refine Ce.seq ?_
  refine Ce.region ?_
  refine Ie.p rfl rfl rfl rfl ?_
  refine Ie.p rfl rfl rfl rfl ?_
  refine Ie.nil ?_
  refine Ne.seq ?_
  refine Ce.cond_false rfl ?_
  refine Ce.skip ?_
  refine Ne.seq ?_
  refine Ce.seq ?_
  refine Ce.seq ?_
  refine Ce.region ?_
  refine Ie.p rfl rfl rfl rfl ?_
  refine Ie.nil ?_
  refine Ne.seq ?_
  refine Ce.block ?_
  refine Ce.seq ?_
  refine Ce.region ?_
  refine Ie.p rfl rfl rfl rfl ?_
  refine Ie.p rfl rfl rfl rfl ?_
  refine Ie.nil ?_
  refine Ne.seq ?_
  refine Ce.cond_false rfl ?_
  refine Ce.seq ?_
  refine Ce.region ?_
  refine Ie.p rfl rfl rfl rfl ?_
  refine Ie.p rfl rfl rfl rfl ?_
  refine Ie.nil ?_
  refine Ne.seq ?_
  refine Ce.cond_false rfl ?_
  refine Ce.seq ?_
  refine Ce.region ?_
  refine Ie.p rfl rfl rfl rfl ?_
  refine Ie.p rfl rfl rfl rfl ?_
  refine Ie.nil ?_
  refine Ne.seq ?_
  refine Ce.cond_false rfl ?_
  refine Ce.seq ?_
  refine Ce.region ?_
  refine Ie.p rfl rfl rfl rfl ?_
  refine Ie.p rfl rfl rfl rfl ?_
  refine Ie.nil ?_
  refine Ne.seq ?_
  refine Ce.cond_false rfl ?_
  refine Ce.seq ?_
  refine Ce.region ?_
  refine Ie.p rfl rfl rfl rfl ?_
  refine Ie.p rfl rfl rfl rfl ?_
  refine Ie.nil ?_
  refine Ne.seq ?_
  refine Ce.cond_false rfl ?_
  refine Ce.skip ?_
  refine Ne.blk ?_
  refine Ne.seq ?_
  refine Ce.seq ?_
  refine Ce.region ?_
  refine Ie.p rfl rfl rfl rfl ?_
  refine Ie.p rfl rfl rfl rfl ?_
  refine Ie.p rfl rfl rfl rfl ?_
  refine Ie.nil ?_
  refine Ne.seq ?_
  refine Ce.ret ?_
  exact Re.end_ rfl rfl (fun m hm => ⟨rfl, hm.ext⟩)

theorem Compare_i32_other {op a b : Int} {m : AW} (hm : m.lo ≤ m.next) (ha : Fit .i64 a) (hb : Fit .i64 b) (hop : op < 10 ∨ 15 < op) : Fc Tryz.prog 29 [.int .i64 2, .int .i64 op, .int .i64 a, .int .i64 b] m fun v m' => v = .tuple ⟨[.bool false, .int .i64 2]⟩ ∧ Ext m m' := by
  refine Fc.body (c := _) Tryz.func29 rfl rfl rfl rfl hm ?_
  refine Ce.seq ?_
  refine Ce.region ?_
  refine Ie.p rfl rfl rfl rfl ?_
  refine Ie.p rfl rfl rfl rfl ?_
  refine Ie.nil ?_
  refine Ne.seq ?_
  refine Ce.seq ?_
  refine Ce.region ?_
  refine Ie.p rfl rfl rfl rfl ?_
  refine Ie.calln _ _ _ rfl rfl rfl rfl rfl rfl (fun m hm => of_i32 hm.lole) (fun x hx => ?_)
  clear hx
  refine Ie.p rfl rfl rfl rfl ?_
  refine Ie.p rfl rfl rfl rfl ?_
  refine Ie.p rfl rfl rfl rfl ?_
  refine Ie.alloc rfl rfl rfl rfl zr59 (fun b10 hb10 => ?_)
  refine Ie.store rfl rfl rfl rfl rfl sz59 rfl (by first | exact .head | exact .tail .head | exact .tail (.tail .head) | exact .tail (.tail (.tail .head))) rfl ?_
  refine Ie.p rfl rfl rfl rfl ?_
  refine Ie.nil ?_
  refine Ne.seq ?_
  refine Ce.seq ?_
  refine Ce.seq ?_
  refine Ce.region ?_
  refine Ie.p rfl rfl rfl rfl ?_
  refine Ie.p rfl rfl rfl rfl ?_
  refine Ie.nil ?_
  refine Ne.seq ?_
  refine Ce.cond_false rfl ?_
  refine Ce.skip ?_
  refine Ne.seq ?_
  refine Ce.seq ?_
  refine Ce.draw [⟨0, .p, true, true, 0⟩, ⟨1, .l, true, true, 1⟩, ⟨2, .p, true, true, 0⟩, ⟨3, .h, true, true, 7⟩, ⟨4, .p, false, false, 0⟩, ⟨5, .l, false, false, 16⟩, ⟨6, .p, false, false, 0⟩, ⟨7, .h, true, true, 127⟩, ⟨8, .p, true, true, 255⟩, ⟨9, .p, true, true, 511⟩] (by kernel_rfl) (by kernel_rfl) (fun base hbase hB => ?_)
  refine De.fieldAddr rfl rfl rfl rfl rfl rfl fa59_0 ?_
  refine De.load rfl rfl rfl rfl rfl rfl rfl rfl ag54 (by first | exact .head | exact .tail .head | exact .tail (.tail .head) | exact .tail (.tail (.tail .head)) | exact .base ‹_› ‹_› (by simp)) rfl ?_
  refine De.p rfl rfl rfl rfl rfl ?_
  refine De.call _ rfl rfl rfl rfl rfl rfl rfl rfl rfl (fun m hm => cl_i32_1 hm.lole ha) ?_
  refine De.fieldAddr rfl rfl rfl rfl rfl rfl fa59_0 ?_
  refine De.loadOld rfl rfl rfl rfl rfl rfl ag54 (by first | exact .head | exact .tail .head | exact .tail (.tail .head) | exact .tail (.tail (.tail .head)) | exact .base ‹_› ‹_› (by simp)) rfl (by first | exact hB _ _ (.head _) | exact hB _ _ (.tail _ (.head _)) | exact hB _ _ (.tail _ (.tail _ (.head _))) | exact hB _ _ (.tail _ (.tail _ (.tail _ (.head _)))) | exact Nat.lt_of_lt_of_le ‹_› hbase) (fun _ => ?_)
  refine De.p rfl rfl rfl rfl rfl ?_
  refine De.call _ rfl rfl rfl rfl rfl rfl rfl rfl rfl (fun m hm => cl_i32_1 hm.lole hb) ?_
  refine De.p rfl rfl rfl rfl rfl ?_
  refine De.p rfl rfl rfl rfl rfl ?_
  refine De.nil ?_
  refine Ne.seq ?_
  refine Ce.seq ?_
  refine Ce.seq ?_
  refine Ce.region ?_
  refine Ie.p rfl rfl rfl rfl ?_
  refine Ie.nil ?_
  refine Ne.seq ?_
  refine Ce.block ?_
  refine Ce.seq ?_
  refine Ce.region ?_
  refine Ie.p rfl rfl rfl rfl ?_
  refine Ie.p rfl rfl rfl rfl ?_
  refine Ie.nil ?_
  refine Ne.seq ?_
  refine Ce.cond_false (by rw [eqI_eq, decide_eq_false (by omega)]; rfl) ?_
  refine Ce.seq ?_
  refine Ce.region ?_
  refine Ie.p rfl rfl rfl rfl ?_
  refine Ie.p rfl rfl rfl rfl ?_
  refine Ie.nil ?_
  refine Ne.seq ?_
  refine Ce.cond_false (by rw [eqI_eq, decide_eq_false (by omega)]; rfl) ?_
  refine Ce.seq ?_
  refine Ce.region ?_
  refine Ie.p rfl rfl rfl rfl ?_
  refine Ie.p rfl rfl rfl rfl ?_
  refine Ie.nil ?_
  refine Ne.seq ?_
  refine Ce.cond_false (by rw [eqI_eq, decide_eq_false (by omega)]; rfl) ?_
  refine Ce.seq ?_
  refine Ce.region ?_
  refine Ie.p rfl rfl rfl rfl ?_
  refine Ie.p rfl rfl rfl rfl ?_
  refine Ie.nil ?_
  refine Ne.seq ?_
  refine Ce.cond_false (by rw [eqI_eq, decide_eq_false (by omega)]; rfl) ?_
  refine Ce.seq ?_
  refine Ce.region ?_
  refine Ie.p rfl rfl rfl rfl ?_
  refine Ie.p rfl rfl rfl rfl ?_
  refine Ie.nil ?_
  refine Ne.seq ?_
  refine Ce.cond_false (by rw [eqI_eq, decide_eq_false (by omega)]; rfl) ?_
  refine Ce.seq ?_
  refine Ce.region ?_
  refine Ie.p rfl rfl rfl rfl ?_
  refine Ie.p rfl rfl rfl rfl ?_
  refine Ie.nil ?_
  refine Ne.seq ?_
  refine Ce.cond_false (by rw [eqI_eq, decide_eq_false (by omega)]; rfl) ?_
  refine Ce.skip ?_
  refine Ne.blk ?_
  refine Ne.seq ?_
  refine Ce.seq ?_
  refine Ce.region ?_
  refine Ie.p rfl rfl rfl rfl ?_
  refine Ie.p rfl rfl rfl rfl ?_
  refine Ie.nil ?_
  refine Ne.seq ?_
  refine Ce.ret ?_
  exact Re.end_ rfl rfl (fun m hm => ⟨rfl, hm.ext⟩)

theorem Compare_i64_10 {a b : Int} {m : AW} (hm : m.lo ≤ m.next) (ha : Fit .i64 a) (hb : Fit .i64 b) : Fc Tryz.prog 29 [.int .i64 3, .int .i64 10, .int .i64 a, .int .i64 b] m fun v m' => v = .tuple ⟨[.bool (eqI (wr .i64 a) (wr .i64 b)), .int .i64 0]⟩ ∧ Ext m m' := by
  refine Fc.body (c := _) Tryz.func29 rfl rfl rfl rfl hm ?_
  refine Ce.seq ?_
  refine Ce.region ?_
  refine Ie.p rfl rfl rfl rfl ?_
  refine Ie.p rfl rfl rfl rfl ?_
  refine Ie.nil ?_
  refine Ne.seq ?_
  refine Ce.seq ?_
  refine Ce.region ?_
  refine Ie.p rfl rfl rfl rfl ?_
  refine Ie.calln _ _ _ rfl rfl rfl rfl rfl rfl (fun m hm => of_i64 hm.lole) (fun x hx => ?_)
  clear hx
  refine Ie.p rfl rfl rfl rfl ?_
  refine Ie.p rfl rfl rfl rfl ?_
  refine Ie.p rfl rfl rfl rfl ?_
  refine Ie.alloc rfl rfl rfl rfl zr59 (fun b10 hb10 => ?_)
  refine Ie.store rfl rfl rfl rfl rfl sz59 rfl (by first | exact .head | exact .tail .head | exact .tail (.tail .head) | exact .tail (.tail (.tail .head))) rfl ?_
  refine Ie.p rfl rfl rfl rfl ?_
  refine Ie.nil ?_
  refine Ne.seq ?_
  refine Ce.seq ?_
  refine Ce.seq ?_
  refine Ce.region ?_
  refine Ie.p rfl rfl rfl rfl ?_
  refine Ie.p rfl rfl rfl rfl ?_
  refine Ie.nil ?_
  refine Ne.seq ?_
  refine Ce.cond_false rfl ?_
  refine Ce.skip ?_
  refine Ne.seq ?_
  refine Ce.seq ?_
  refine Ce.draw [⟨0, .p, true, true, 0⟩, ⟨1, .l, true, true, 1⟩, ⟨2, .p, true, true, 0⟩, ⟨3, .h, true, true, 7⟩, ⟨4, .p, false, false, 0⟩, ⟨5, .l, false, false, 16⟩, ⟨6, .p, false, false, 0⟩, ⟨7, .h, true, true, 127⟩, ⟨8, .p, true, true, 255⟩, ⟨9, .p, true, true, 511⟩] (by kernel_rfl) (by kernel_rfl) (fun base hbase hB => ?_)
  refine De.fieldAddr rfl rfl rfl rfl rfl rfl fa59_0 ?_
  refine De.load rfl rfl rfl rfl rfl rfl rfl rfl ag54 (by first | exact .head | exact .tail .head | exact .tail (.tail .head) | exact .tail (.tail (.tail .head)) | exact .base ‹_› ‹_› (by simp)) rfl ?_
  refine De.p rfl rfl rfl rfl rfl ?_
  refine De.call _ rfl rfl rfl rfl rfl rfl rfl rfl rfl (fun m hm => cl_i64_1 hm.lole ha) ?_
  refine De.fieldAddr rfl rfl rfl rfl rfl rfl fa59_0 ?_
  refine De.loadOld rfl rfl rfl rfl rfl rfl ag54 (by first | exact .head | exact .tail .head | exact .tail (.tail .head) | exact .tail (.tail (.tail .head)) | exact .base ‹_› ‹_› (by simp)) rfl (by first | exact hB _ _ (.head _) | exact hB _ _ (.tail _ (.head _)) | exact hB _ _ (.tail _ (.tail _ (.head _))) | exact hB _ _ (.tail _ (.tail _ (.tail _ (.head _)))) | exact Nat.lt_of_lt_of_le ‹_› hbase) (fun _ => ?_)
  refine De.p rfl rfl rfl rfl rfl ?_
  refine De.call _ rfl rfl rfl rfl rfl rfl rfl rfl rfl (fun m hm => cl_i64_1 hm.lole hb) ?_
  refine De.p rfl rfl rfl rfl rfl ?_
  refine De.p rfl rfl rfl rfl rfl ?_
  refine De.nil ?_
  refine Ne.seq ?_
  refine Ce.seq ?_
  refine Ce.seq ?_
  refine Ce.region ?_
  refine Ie.p rfl rfl rfl rfl ?_
  refine Ie.nil ?_
  refine Ne.seq ?_
  refine Ce.block ?_
  refine Ce.seq ?_
  refine Ce.region ?_
  refine Ie.p rfl rfl rfl rfl ?_
  refine Ie.p rfl rfl rfl rfl ?_
  refine Ie.nil ?_
  refine Ne.seq ?_
  refine Ce.cond_true rfl ?_
  refine Ce.seq ?_
  refine Ce.region ?_
  refine Ie.fieldAddr rfl rfl rfl rfl rfl fa59_7 ?_
  refine Ie.load rfl rfl rfl rfl rfl ag57 (by first | exact .head | exact .tail .head | exact .tail (.tail .head) | exact .tail (.tail (.tail .head)) | exact .base ‹_› ‹_› (by simp)) rfl ?_
  refine Ie.p rfl rfl rfl rfl ?_
  refine Ie.p rfl rfl rfl rfl ?_
  refine Ie.call _ rfl rfl rfl rfl rfl rfl (fun m hm => cl_i64_same hm.lole (Fit.wr _ _) (Fit.wr _ _)) ?_
  refine Ie.p rfl rfl rfl rfl ?_
  refine Ie.p rfl rfl rfl rfl ?_
  refine Ie.nil ?_
  refine Ne.seq ?_
  refine Ce.ret ?_
  refine Re.blk ?_
  refine Re.seq ?_
  exact Re.end_ rfl rfl (fun m hm => ⟨rfl, hm.ext⟩)

theorem RCompare_i64_10 {a b : Int} {m : AW} (hm : m.lo ≤ m.next) (ha : Fit .i64 a) (hb : Fit .i64 b) : Fc Tryz.prog 31 [.int .i64 3, .int .i64 10, .int .i64 a, .int .i64 b] m fun v m' => v = .bool ((!ltI (wr .i64 a) (wr .i64 b) && !ltI (wr .i64 b) (wr .i64 a))) ∧ Ext m m' := by
  refine Fc.body (c := _) Tryz.func31 rfl rfl rfl rfl hm ?_
  refine Ce.seq ?_
  refine Ce.region ?_
  refine Ie.p rfl rfl rfl rfl ?_
  refine Ie.nil ?_
  refine Ne.seq ?_
  refine Ce.seq ?_
  refine Ce.region ?_
  refine Ie.p rfl rfl rfl rfl ?_
  refine Ie.p rfl rfl rfl rfl ?_
  refine Ie.call _ rfl rfl rfl rfl rfl rfl (fun m hm => RWrap_i64 hm.lole ha) ?_
  refine Ie.p rfl rfl rfl rfl ?_
  refine Ie.p rfl rfl rfl rfl ?_
  refine Ie.call _ rfl rfl rfl rfl rfl rfl (fun m hm => RWrap_i64 hm.lole hb) ?_
  refine Ie.p rfl rfl rfl rfl ?_
  refine Ie.p rfl rfl rfl rfl ?_
  refine Ie.nil ?_
  refine Ne.seq ?_
  refine Ce.seq ?_
  refine Ce.region ?_
  refine Ie.p rfl rfl rfl rfl ?_
  refine Ie.p rfl rfl rfl rfl ?_
  refine Ie.p rfl rfl rfl rfl ?_
  refine Ie.p rfl rfl rfl rfl ?_
  refine Ie.p rfl rfl rfl rfl ?_
  refine Ie.p rfl rfl rfl rfl ?_
  refine Ie.p rfl rfl rfl rfl ?_
  refine Ie.p rfl rfl rfl rfl ?_
  refine Ie.nil ?_
  refine Ne.seq ?_
  refine Ce.seq ?_
  refine Ce.seq ?_
  refine Ce.region ?_
  refine Ie.p rfl rfl rfl rfl ?_
  refine Ie.p rfl rfl rfl rfl ?_
  refine Ie.nil ?_
  refine Ne.seq ?_
  refine Ce.cond_false rfl ?_
  refine Ce.skip ?_
  refine Ne.seq ?_
  refine Ce.seq ?_
  refine Ce.seq ?_
  refine Ce.region ?_
  refine Ie.p rfl rfl rfl rfl ?_
  refine Ie.nil ?_
  refine Ne.seq ?_
  refine Ce.block ?_
  refine Ce.seq ?_
  refine Ce.region ?_
  refine Ie.p rfl rfl rfl rfl ?_
  refine Ie.p rfl rfl rfl rfl ?_
  refine Ie.nil ?_
  refine Ne.seq ?_
  refine Ce.cond_true rfl ?_
  refine Ce.seq ?_
  refine Ce.region ?_
  refine Ie.p rfl rfl rfl rfl ?_
  refine Ie.p rfl rfl rfl rfl ?_
  refine Ie.p rfl rfl rfl rfl ?_
  refine Ie.splitB 48 rfl (fun hs0 => ?_) (fun hs0 => ?_)
  · refine Ie.p rfl rfl rfl rfl ?_
    refine Ie.p rfl rfl rfl rfl ?_
    refine Ie.p rfl rfl rfl rfl ?_
    refine Ie.p rfl rfl rfl rfl ?_
    refine Ie.nil ?_
    refine Ne.seq ?_
    refine Ce.ret ?_
    refine Re.blk ?_
    refine Re.seq ?_
    exact Re.end_ rfl rfl (fun m hm => ⟨by first | rfl | (rw [hs0]; rfl), hm.ext⟩)
  · refine Ie.off rfl rfl rfl ?_
    refine Ie.off rfl rfl rfl ?_
    refine Ie.p rfl rfl rfl rfl ?_
    refine Ie.p rfl rfl rfl rfl ?_
    refine Ie.nil ?_
    refine Ne.seq ?_
    refine Ce.ret ?_
    refine Re.blk ?_
    refine Re.seq ?_
    exact Re.end_ rfl rfl (fun m hm => ⟨by first | rfl | (rw [hs0]; rfl), hm.ext⟩)

theorem Compare_i64_11 {a b : Int} {m : AW} (hm : m.lo ≤ m.next) (ha : Fit .i64 a) (hb : Fit .i64 b) : Fc Tryz.prog 29 [.int .i64 3, .int .i64 11, .int .i64 a, .int .i64 b] m fun v m' => v = .tuple ⟨[.bool ((!eqI (wr .i64 a) (wr .i64 b))), .int .i64 0]⟩ ∧ Ext m m' := by
  refine Fc.body (c := _) Tryz.func29 rfl rfl rfl rfl hm ?_
  refine Ce.seq ?_
  refine Ce.region ?_
  refine Ie.p rfl rfl rfl rfl ?_
  refine Ie.p rfl rfl rfl rfl ?_
  refine Ie.nil ?_
  refine Ne.seq ?_
  refine Ce.seq ?_
  refine Ce.region ?_
  refine Ie.p rfl rfl rfl rfl ?_
  refine Ie.calln _ _ _ rfl rfl rfl rfl rfl rfl (fun m hm => of_i64 hm.lole) (fun x hx => ?_)
  clear hx
  refine Ie.p rfl rfl rfl rfl ?_
  refine Ie.p rfl rfl rfl rfl ?_
  refine Ie.p rfl rfl rfl rfl ?_
  refine Ie.alloc rfl rfl rfl rfl zr59 (fun b10 hb10 => ?_)
  refine Ie.store rfl rfl rfl rfl rfl sz59 rfl (by first | exact .head | exact .tail .head | exact .tail (.tail .head) | exact .tail (.tail (.tail .head))) rfl ?_
  refine Ie.p rfl rfl rfl rfl ?_
  refine Ie.nil ?_
  refine Ne.seq ?_
  refine Ce.seq ?_
  refine Ce.seq ?_
  refine Ce.region ?_
  refine Ie.p rfl rfl rfl rfl ?_
  refine Ie.p rfl rfl rfl rfl ?_
  refine Ie.nil ?_
  refine Ne.seq ?_
  refine Ce.cond_false rfl ?_
  refine Ce.skip ?_
  refine Ne.seq ?_
  refine Ce.seq ?_
  refine Ce.draw [⟨0, .p, true, true, 0⟩, ⟨1, .l, true, true, 1⟩, ⟨2, .p, true, true, 0⟩, ⟨3, .h, true, true, 7⟩, ⟨4, .p, false, false, 0⟩, ⟨5, .l, false, false, 16⟩, ⟨6, .p, false, false, 0⟩, ⟨7, .h, true, true, 127⟩, ⟨8, .p, true, true, 255⟩, ⟨9, .p, true, true, 511⟩] (by kernel_rfl) (by kernel_rfl) (fun base hbase hB => ?_)
  refine De.fieldAddr rfl rfl rfl rfl rfl rfl fa59_0 ?_
  refine De.load rfl rfl rfl rfl rfl rfl rfl rfl ag54 (by first | exact .head | exact .tail .head | exact .tail (.tail .head) | exact .tail (.tail (.tail .head)) | exact .base ‹_› ‹_› (by simp)) rfl ?_
  refine De.p rfl rfl rfl rfl rfl ?_
  refine De.call _ rfl rfl rfl rfl rfl rfl rfl rfl rfl (fun m hm => cl_i64_1 hm.lole ha) ?_
  refine De.fieldAddr rfl rfl rfl rfl rfl rfl fa59_0 ?_
  refine De.loadOld rfl rfl rfl rfl rfl rfl ag54 (by first | exact .head | exact .tail .head | exact .tail (.tail .head) | exact .tail (.tail (.tail .head)) | exact .base ‹_› ‹_› (by simp)) rfl (by first | exact hB _ _ (.head _) | exact hB _ _ (.tail _ (.head _)) | exact hB _ _ (.tail _ (.tail _ (.head _))) | exact hB _ _ (.tail _ (.tail _ (.tail _ (.head _)))) | exact Nat.lt_of_lt_of_le ‹_› hbase) (fun _ => ?_)
  refine De.p rfl rfl rfl rfl rfl ?_
  refine De.call _ rfl rfl rfl rfl rfl rfl rfl rfl rfl (fun m hm => cl_i64_1 hm.lole hb) ?_
  refine De.p rfl rfl rfl rfl rfl ?_
  refine De.p rfl rfl rfl rfl rfl ?_
  refine De.nil ?_
  refine Ne.seq ?_
  refine Ce.seq ?_
  refine Ce.seq ?_
  refine Ce.region ?_
  refine Ie.p rfl rfl rfl rfl ?_
  refine Ie.nil ?_
  refine Ne.seq ?_
  refine Ce.block ?_
  refine Ce.seq ?_
  refine Ce.region ?_
  refine Ie.p rfl rfl rfl rfl ?_
  refine Ie.p rfl rfl rfl rfl ?_
  refine Ie.nil ?_
  refine Ne.seq ?_
  refine Ce.cond_false rfl ?_
  refine Ce.seq ?_
  refine Ce.region ?_
  refine Ie.p rfl rfl rfl rfl ?_
  refine Ie.p rfl rfl rfl rfl ?_
  refine Ie.nil ?_
  refine Ne.seq ?_
  refine Ce.cond_true rfl ?_
  refine Ce.seq ?_
  refine Ce.region ?_
  refine Ie.fieldAddr rfl rfl rfl rfl rfl fa59_7 ?_
  refine Ie.load rfl rfl rfl rfl rfl ag57 (by first | exact .head | exact .tail .head | exact .tail (.tail .head) | exact .tail (.tail (.tail .head)) | exact .base ‹_› ‹_› (by simp)) rfl ?_
  refine Ie.p rfl rfl rfl rfl ?_
  refine Ie.p rfl rfl rfl rfl ?_
  refine Ie.call _ rfl rfl rfl rfl rfl rfl (fun m hm => cl_i64_same hm.lole (Fit.wr _ _) (Fit.wr _ _)) ?_
  refine Ie.p rfl rfl rfl rfl ?_
  refine Ie.p rfl rfl rfl rfl ?_
  refine Ie.p rfl rfl rfl rfl ?_
  refine Ie.nil ?_
  refine Ne.seq ?_
  refine Ce.ret ?_
  refine Re.blk ?_
  refine Re.seq ?_
  exact Re.end_ rfl rfl (fun m hm => ⟨rfl, hm.ext⟩)

theorem RCompare_i64_11 {a b : Int} {m : AW} (hm : m.lo ≤ m.next) (ha : Fit .i64 a) (hb : Fit .i64 b) : Fc Tryz.prog 31 [.int .i64 3, .int .i64 11, .int .i64 a, .int .i64 b] m fun v m' => v = .bool ((ltI (wr .i64 a) (wr .i64 b) || ltI (wr .i64 b) (wr .i64 a))) ∧ Ext m m' := by
  refine Fc.body (c := _) Tryz.func31 rfl rfl rfl rfl hm ?_
  refine Ce.seq ?_
  refine Ce.region ?_
  refine Ie.p rfl rfl rfl rfl ?_
  refine Ie.nil ?_
  refine Ne.seq ?_
  refine Ce.seq ?_
  refine Ce.region ?_
  refine Ie.p rfl rfl rfl rfl ?_
  refine Ie.p rfl rfl rfl rfl ?_
  refine Ie.call _ rfl rfl rfl rfl rfl rfl (fun m hm => RWrap_i64 hm.lole ha) ?_
  refine Ie.p rfl rfl rfl rfl ?_
  refine Ie.p rfl rfl rfl rfl ?_
  refine Ie.call _ rfl rfl rfl rfl rfl rfl (fun m hm => RWrap_i64 hm.lole hb) ?_
  refine Ie.p rfl rfl rfl rfl ?_
  refine Ie.p rfl rfl rfl rfl ?_
  refine Ie.nil ?_
  refine Ne.seq ?_
  refine Ce.seq ?_
  refine Ce.region ?_
  refine Ie.p rfl rfl rfl rfl ?_
  refine Ie.p rfl rfl rfl rfl ?_
  refine Ie.p rfl rfl rfl rfl ?_
  refine Ie.p rfl rfl rfl rfl ?_
  refine Ie.p rfl rfl rfl rfl ?_
  refine Ie.p rfl rfl rfl rfl ?_
  refine Ie.p rfl rfl rfl rfl ?_
  refine Ie.p rfl rfl rfl rfl ?_
  refine Ie.nil ?_
  refine Ne.seq ?_
  refine Ce.seq ?_
  refine Ce.seq ?_
  refine Ce.region ?_
  refine Ie.p rfl rfl rfl rfl ?_
  refine Ie.p rfl rfl rfl rfl ?_
  refine Ie.nil ?_
  refine Ne.seq ?_
  refine Ce.cond_false rfl ?_
  refine Ce.skip ?_
  refine Ne.seq ?_
  refine Ce.seq ?_
  refine Ce.seq ?_
  refine Ce.region ?_
  refine Ie.p rfl rfl rfl rfl ?_
  refine Ie.nil ?_
  refine Ne.seq ?_
  refine Ce.block ?_
  refine Ce.seq ?_
  refine Ce.region ?_
  refine Ie.p rfl rfl rfl rfl ?_
  refine Ie.p rfl rfl rfl rfl ?_
  refine Ie.nil ?_
  refine Ne.seq ?_
  refine Ce.cond_false rfl ?_
  refine Ce.seq ?_
  refine Ce.region ?_
  refine Ie.p rfl rfl rfl rfl ?_
  refine Ie.p rfl rfl rfl rfl ?_
  refine Ie.nil ?_
  refine Ne.seq ?_
  refine Ce.cond_true rfl ?_
  refine Ce.seq ?_
  refine Ce.region ?_
  refine Ie.p rfl rfl rfl rfl ?_
  refine Ie.p rfl rfl rfl rfl ?_
  refine Ie.splitB 55 rfl (fun hs0 => ?_) (fun hs0 => ?_)
  · refine Ie.off rfl rfl rfl ?_
    refine Ie.p rfl rfl rfl rfl ?_
    refine Ie.p rfl rfl rfl rfl ?_
    refine Ie.nil ?_
    refine Ne.seq ?_
    refine Ce.ret ?_
    refine Re.blk ?_
    refine Re.seq ?_
    exact Re.end_ rfl rfl (fun m hm => ⟨by first | rfl | (rw [hs0]; rfl), hm.ext⟩)
  · refine Ie.p rfl rfl rfl rfl ?_
    refine Ie.p rfl rfl rfl rfl ?_
    refine Ie.p rfl rfl rfl rfl ?_
    refine Ie.nil ?_
    refine Ne.seq ?_
    refine Ce.ret ?_
    refine Re.blk ?_
    refine Re.seq ?_
    exact Re.end_ rfl rfl (fun m hm => ⟨by first | rfl | (rw [hs0]; rfl), hm.ext⟩)

theorem Compare_i64_12 {a b : Int} {m : AW} (hm : m.lo ≤ m.next) (ha : Fit .i64 a) (hb : Fit .i64 b) : Fc Tryz.prog 29 [.int .i64 3, .int .i64 12, .int .i64 a, .int .i64 b] m fun v m' => v = .tuple ⟨[.bool (ltI (wr .i64 a) (wr .i64 b)), .int .i64 0]⟩ ∧ Ext m m' := by
  refine Fc.body (c := _) Tryz.func29 rfl rfl rfl rfl hm ?_
  refine Ce.seq ?_
  refine Ce.region ?_
  refine Ie.p rfl rfl rfl rfl ?_
  refine Ie.p rfl rfl rfl rfl ?_
  refine Ie.nil ?_
  refine Ne.seq ?_
  refine Ce.seq ?_
  refine Ce.region ?_
  refine Ie.p rfl rfl rfl rfl ?_
  refine Ie.calln _ _ _ rfl rfl rfl rfl rfl rfl (fun m hm => of_i64 hm.lole) (fun x hx => ?_)
  clear hx
  refine Ie.p rfl rfl rfl rfl ?_
  refine Ie.p rfl rfl rfl rfl ?_
  refine Ie.p rfl rfl rfl rfl ?_
  refine Ie.alloc rfl rfl rfl rfl zr59 (fun b10 hb10 => ?_)
  refine Ie.store rfl rfl rfl rfl rfl sz59 rfl (by first | exact .head | exact .tail .head | exact .tail (.tail .head) | exact .tail (.tail (.tail .head))) rfl ?_
  refine Ie.p rfl rfl rfl rfl ?_
  refine Ie.nil ?_
  refine Ne.seq ?_
  refine Ce.seq ?_
  refine Ce.seq ?_
  refine Ce.region ?_
  refine Ie.p rfl rfl rfl rfl ?_
  refine Ie.p rfl rfl rfl rfl ?_
  refine Ie.nil ?_
  refine Ne.seq ?_
  refine Ce.cond_false rfl ?_
  refine Ce.skip ?_
  refine Ne.seq ?_
  refine Ce.seq ?_
  refine Ce.draw [⟨0, .p, true, true, 0⟩, ⟨1, .l, true, true, 1⟩, ⟨2, .p, true, true, 0⟩, ⟨3, .h, true, true, 7⟩, ⟨4, .p, false, false, 0⟩, ⟨5, .l, false, false, 16⟩, ⟨6, .p, false, false, 0⟩, ⟨7, .h, true, true, 127⟩, ⟨8, .p, true, true, 255⟩, ⟨9, .p, true, true, 511⟩] (by kernel_rfl) (by kernel_rfl) (fun base hbase hB => ?_)
  refine De.fieldAddr rfl rfl rfl rfl rfl rfl fa59_0 ?_
  refine De.load rfl rfl rfl rfl rfl rfl rfl rfl ag54 (by first | exact .head | exact .tail .head | exact .tail (.tail .head) | exact .tail (.tail (.tail .head)) | exact .base ‹_› ‹_› (by simp)) rfl ?_
  refine De.p rfl rfl rfl rfl rfl ?_
  refine De.call _ rfl rfl rfl rfl rfl rfl rfl rfl rfl (fun m hm => cl_i64_1 hm.lole ha) ?_
  refine De.fieldAddr rfl rfl rfl rfl rfl rfl fa59_0 ?_
  refine De.loadOld rfl rfl rfl rfl rfl rfl ag54 (by first | exact .head | exact .tail .head | exact .tail (.tail .head) | exact .tail (.tail (.tail .head)) | exact .base ‹_› ‹_› (by simp)) rfl (by first | exact hB _ _ (.head _) | exact hB _ _ (.tail _ (.head _)) | exact hB _ _ (.tail _ (.tail _ (.head _))) | exact hB _ _ (.tail _ (.tail _ (.tail _ (.head _)))) | exact Nat.lt_of_lt_of_le ‹_› hbase) (fun _ => ?_)
  refine De.p rfl rfl rfl rfl rfl ?_
  refine De.call _ rfl rfl rfl rfl rfl rfl rfl rfl rfl (fun m hm => cl_i64_1 hm.lole hb) ?_
  refine De.p rfl rfl rfl rfl rfl ?_
  refine De.p rfl rfl rfl rfl rfl ?_
  refine De.nil ?_
  refine Ne.seq ?_
  refine Ce.seq ?_
  refine Ce.seq ?_
  refine Ce.region ?_
  refine Ie.p rfl rfl rfl rfl ?_
  refine Ie.nil ?_
  refine Ne.seq ?_
  refine Ce.block ?_
  refine Ce.seq ?_
  refine Ce.region ?_
  refine Ie.p rfl rfl rfl rfl ?_
  refine Ie.p rfl rfl rfl rfl ?_
  refine Ie.nil ?_
  refine Ne.seq ?_
  refine Ce.cond_false rfl ?_
  refine Ce.seq ?_
  refine Ce.region ?_
  refine Ie.p rfl rfl rfl rfl ?_
  refine Ie.p rfl rfl rfl rfl ?_
  refine Ie.nil ?_
  refine Ne.seq ?_
  refine Ce.cond_false rfl ?_
  refine Ce.seq ?_
  refine Ce.region ?_
  refine Ie.p rfl rfl rfl rfl ?_
  refine Ie.p rfl rfl rfl rfl ?_
  refine Ie.nil ?_
  refine Ne.seq ?_
  refine Ce.cond_true rfl ?_
  refine Ce.seq ?_
  refine Ce.region ?_
  refine Ie.fieldAddr rfl rfl rfl rfl rfl fa59_6 ?_
  refine Ie.load rfl rfl rfl rfl rfl ag57 (by first | exact .head | exact .tail .head | exact .tail (.tail .head) | exact .tail (.tail (.tail .head)) | exact .base ‹_› ‹_› (by simp)) rfl ?_
  refine Ie.p rfl rfl rfl rfl ?_
  refine Ie.p rfl rfl rfl rfl ?_
  refine Ie.call _ rfl rfl rfl rfl rfl rfl (fun m hm => cl_i64_less hm.lole (Fit.wr _ _) (Fit.wr _ _)) ?_
  refine Ie.p rfl rfl rfl rfl ?_
  refine Ie.p rfl rfl rfl rfl ?_
  refine Ie.nil ?_
  refine Ne.seq ?_
  refine Ce.ret ?_
  refine Re.blk ?_
  refine Re.seq ?_
  exact Re.end_ rfl rfl (fun m hm => ⟨rfl, hm.ext⟩)

theorem RCompare_i64_12 {a b : Int} {m : AW} (hm : m.lo ≤ m.next) (ha : Fit .i64 a) (hb : Fit .i64 b) : Fc Tryz.prog 31 [.int .i64 3, .int .i64 12, .int .i64 a, .int .i64 b] m fun v m' => v = .bool (ltI (wr .i64 a) (wr .i64 b)) ∧ Ext m m' := by
  refine Fc.body (c := _) Tryz.func31 rfl rfl rfl rfl hm ?_
  refine Ce.seq ?_
  refine Ce.region ?_
  refine Ie.p rfl rfl rfl rfl ?_
  refine Ie.nil ?_
  refine Ne.seq ?_
  refine Ce.seq ?_
  refine Ce.region ?_
  refine Ie.p rfl rfl rfl rfl ?_
  refine Ie.p rfl rfl rfl rfl ?_
  refine Ie.call _ rfl rfl rfl rfl rfl rfl (fun m hm => RWrap_i64 hm.lole ha) ?_
  refine Ie.p rfl rfl rfl rfl ?_
  refine Ie.p rfl rfl rfl rfl ?_
  refine Ie.call _ rfl rfl rfl rfl rfl rfl (fun m hm => RWrap_i64 hm.lole hb) ?_
  refine Ie.p rfl rfl rfl rfl ?_
  refine Ie.p rfl rfl rfl rfl ?_
  refine Ie.nil ?_
  refine Ne.seq ?_
  refine Ce.seq ?_
  refine Ce.region ?_
  refine Ie.p rfl rfl rfl rfl ?_
  refine Ie.p rfl rfl rfl rfl ?_
  refine Ie.p rfl rfl rfl rfl ?_
  refine Ie.p rfl rfl rfl rfl ?_
  refine Ie.p rfl rfl rfl rfl ?_
  refine Ie.p rfl rfl rfl rfl ?_
  refine Ie.p rfl rfl rfl rfl ?_
  refine Ie.p rfl rfl rfl rfl ?_
  refine Ie.nil ?_
  refine Ne.seq ?_
  refine Ce.seq ?_
  refine Ce.seq ?_
  refine Ce.region ?_
  refine Ie.p rfl rfl rfl rfl ?_
  refine Ie.p rfl rfl rfl rfl ?_
  refine Ie.nil ?_
  refine Ne.seq ?_
  refine Ce.cond_false rfl ?_
  refine Ce.skip ?_
  refine Ne.seq ?_
  refine Ce.seq ?_
  refine Ce.seq ?_
  refine Ce.region ?_
  refine Ie.p rfl rfl rfl rfl ?_
  refine Ie.nil ?_
  refine Ne.seq ?_
  refine Ce.block ?_
  refine Ce.seq ?_
  refine Ce.region ?_
  refine Ie.p rfl rfl rfl rfl ?_
  refine Ie.p rfl rfl rfl rfl ?_
  refine Ie.nil ?_
  refine Ne.seq ?_
  refine Ce.cond_false rfl ?_
  refine Ce.seq ?_
  refine Ce.region ?_
  refine Ie.p rfl rfl rfl rfl ?_
  refine Ie.p rfl rfl rfl rfl ?_
  refine Ie.nil ?_
  refine Ne.seq ?_
  refine Ce.cond_false rfl ?_
  refine Ce.seq ?_
  refine Ce.region ?_
  refine Ie.p rfl rfl rfl rfl ?_
  refine Ie.p rfl rfl rfl rfl ?_
  refine Ie.nil ?_
  refine Ne.seq ?_
  refine Ce.cond_true rfl ?_
  refine Ce.seq ?_
  refine Ce.region ?_
  refine Ie.p rfl rfl rfl rfl ?_
  refine Ie.p rfl rfl rfl rfl ?_
  refine Ie.nil ?_
  refine Ne.seq ?_
  refine Ce.ret ?_
  refine Re.blk ?_
  refine Re.seq ?_
  exact Re.end_ rfl rfl (fun m hm => ⟨rfl, hm.ext⟩)

theorem Compare_i64_13 {a b : Int} {m : AW} (hm : m.lo ≤ m.next) (ha : Fit .i64 a) (hb : Fit .i64 b) : Fc Tryz.prog 29 [.int .i64 3, .int .i64 13, .int .i64 a, .int .i64 b] m fun v m' => v = .tuple ⟨[.bool ((ltI (wr .i64 a) (wr .i64 b) || eqI (wr .i64 a) (wr .i64 b))), .int .i64 0]⟩ ∧ Ext m m' := by
  refine Fc.body (c := _) Tryz.func29 rfl rfl rfl rfl hm ?_
  refine Ce.seq ?_
  refine Ce.region ?_
  refine Ie.p rfl rfl rfl rfl ?_
  refine Ie.p rfl rfl rfl rfl ?_
  refine Ie.nil ?_
  refine Ne.seq ?_
  refine Ce.seq ?_
  refine Ce.region ?_
  refine Ie.p rfl rfl rfl rfl ?_
  refine Ie.calln _ _ _ rfl rfl rfl rfl rfl rfl (fun m hm => of_i64 hm.lole) (fun x hx => ?_)
  clear hx
  refine Ie.p rfl rfl rfl rfl ?_
  refine Ie.p rfl rfl rfl rfl ?_
  refine Ie.p rfl rfl rfl rfl ?_
  refine Ie.alloc rfl rfl rfl rfl zr59 (fun b10 hb10 => ?_)
  refine Ie.store rfl rfl rfl rfl rfl sz59 rfl (by first | exact .head | exact .tail .head | exact .tail (.tail .head) | exact .tail (.tail (.tail .head))) rfl ?_
  refine Ie.p rfl rfl rfl rfl ?_
  refine Ie.nil ?_
  refine Ne.seq ?_
  refine Ce.seq ?_
  refine Ce.seq ?_
  refine Ce.region ?_
  refine Ie.p rfl rfl rfl rfl ?_
  refine Ie.p rfl rfl rfl rfl ?_
  refine Ie.nil ?_
  refine Ne.seq ?_
  refine Ce.cond_false rfl ?_
  refine Ce.skip ?_
  refine Ne.seq ?_
  refine Ce.seq ?_
  refine Ce.draw [⟨0, .p, true, true, 0⟩, ⟨1, .l, true, true, 1⟩, ⟨2, .p, true, true, 0⟩, ⟨3, .h, true, true, 7⟩, ⟨4, .p, false, false, 0⟩, ⟨5, .l, false, false, 16⟩, ⟨6, .p, false, false, 0⟩, ⟨7, .h, true, true, 127⟩, ⟨8, .p, true, true, 255⟩, ⟨9, .p, true, true, 511⟩] (by kernel_rfl) (by kernel_rfl) (fun base hbase hB => ?_)
  refine De.fieldAddr rfl rfl rfl rfl rfl rfl fa59_0 ?_
  refine De.load rfl rfl rfl rfl rfl rfl rfl rfl ag54 (by first | exact .head | exact .tail .head | exact .tail (.tail .head) | exact .tail (.tail (.tail .head)) | exact .base ‹_› ‹_› (by simp)) rfl ?_
  refine De.p rfl rfl rfl rfl rfl ?_
  refine De.call _ rfl rfl rfl rfl rfl rfl rfl rfl rfl (fun m hm => cl_i64_1 hm.lole ha) ?_
  refine De.fieldAddr rfl rfl rfl rfl rfl rfl fa59_0 ?_
  refine De.loadOld rfl rfl rfl rfl rfl rfl ag54 (by first | exact .head | exact .tail .head | exact .tail (.tail .head) | exact .tail (.tail (.tail .head)) | exact .base ‹_› ‹_› (by simp)) rfl (by first | exact hB _ _ (.head _) | exact hB _ _ (.tail _ (.head _)) | exact hB _ _ (.tail _ (.tail _ (.head _))) | exact hB _ _ (.tail _ (.tail _ (.tail _ (.head _)))) | exact Nat.lt_of_lt_of_le ‹_› hbase) (fun _ => ?_)
  refine De.p rfl rfl rfl rfl rfl ?_
  refine De.call _ rfl rfl rfl rfl rfl rfl rfl rfl rfl (fun m hm => cl_i64_1 hm.lole hb) ?_
  refine De.p rfl rfl rfl rfl rfl ?_
  refine De.p rfl rfl rfl rfl rfl ?_
  refine De.nil ?_
  refine Ne.seq ?_
  refine Ce.seq ?_
  refine Ce.seq ?_
  refine Ce.region ?_
  refine Ie.p rfl rfl rfl rfl ?_
  refine Ie.nil ?_
  refine Ne.seq ?_
  refine Ce.block ?_
  refine Ce.seq ?_
  refine Ce.region ?_
  refine Ie.p rfl rfl rfl rfl ?_
  refine Ie.p rfl rfl rfl rfl ?_
  refine Ie.nil ?_
  refine Ne.seq ?_
  refine Ce.cond_false rfl ?_
  refine Ce.seq ?_
  refine Ce.region ?_
  refine Ie.p rfl rfl rfl rfl ?_
  refine Ie.p rfl rfl rfl rfl ?_
  refine Ie.nil ?_
  refine Ne.seq ?_
  refine Ce.cond_false rfl ?_
  refine Ce.seq ?_
  refine Ce.region ?_
  refine Ie.p rfl rfl rfl rfl ?_
  refine Ie.p rfl rfl rfl rfl ?_
  refine Ie.nil ?_
  refine Ne.seq ?_
  refine Ce.cond_false rfl ?_
  refine Ce.seq ?_
  refine Ce.region ?_
  refine Ie.p rfl rfl rfl rfl ?_
  refine Ie.p rfl rfl rfl rfl ?_
  refine Ie.nil ?_
  refine Ne.seq ?_
  refine Ce.cond_true rfl ?_
  refine Ce.seq ?_
  refine Ce.region ?_
  refine Ie.fieldAddr rfl rfl rfl rfl rfl fa59_6 ?_
  refine Ie.load rfl rfl rfl rfl rfl ag57 (by first | exact .head | exact .tail .head | exact .tail (.tail .head) | exact .tail (.tail (.tail .head)) | exact .base ‹_› ‹_› (by simp)) rfl ?_
  refine Ie.p rfl rfl rfl rfl ?_
  refine Ie.p rfl rfl rfl rfl ?_
  refine Ie.call _ rfl rfl rfl rfl rfl rfl (fun m hm => cl_i64_less hm.lole (Fit.wr _ _) (Fit.wr _ _)) ?_
  refine Ie.p rfl rfl rfl rfl ?_
  refine Ie.splitB 58 rfl (fun hs0 => ?_) (fun hs0 => ?_)
  · refine Ie.off rfl rfl rfl ?_
    refine Ie.off rfl rfl rfl ?_
    refine Ie.off rfl rfl rfl ?_
    refine Ie.off rfl rfl rfl ?_
    refine Ie.off rfl rfl rfl ?_
    refine Ie.p rfl rfl rfl rfl ?_
    refine Ie.p rfl rfl rfl rfl ?_
    refine Ie.p rfl rfl rfl rfl ?_
    refine Ie.nil ?_
    refine Ne.seq ?_
    refine Ce.ret ?_
    refine Re.blk ?_
    refine Re.seq ?_
    exact Re.end_ rfl rfl (fun m hm => ⟨by first | rfl | (rw [hs0]; rfl), hm.ext⟩)
  · refine Ie.fieldAddr rfl rfl rfl rfl rfl fa59_7 ?_
    refine Ie.load rfl rfl rfl rfl rfl ag57 (by first | exact .head | exact .tail .head | exact .tail (.tail .head) | exact .tail (.tail (.tail .head)) | exact .base ‹_› ‹_› (by simp)) rfl ?_
    refine Ie.p rfl rfl rfl rfl ?_
    refine Ie.p rfl rfl rfl rfl ?_
    refine Ie.call _ rfl rfl rfl rfl rfl rfl (fun m hm => cl_i64_same hm.lole (Fit.wr _ _) (Fit.wr _ _)) ?_
    refine Ie.p rfl rfl rfl rfl ?_
    refine Ie.p rfl rfl rfl rfl ?_
    refine Ie.p rfl rfl rfl rfl ?_
    refine Ie.nil ?_
    refine Ne.seq ?_
    refine Ce.ret ?_
    refine Re.blk ?_
    refine Re.seq ?_
    exact Re.end_ rfl rfl (fun m hm => ⟨by first | rfl | (rw [hs0]; rfl), hm.ext⟩)

theorem RCompare_i64_13 {a b : Int} {m : AW} (hm : m.lo ≤ m.next) (ha : Fit .i64 a) (hb : Fit .i64 b) : Fc Tryz.prog 31 [.int .i64 3, .int .i64 13, .int .i64 a, .int .i64 b] m fun v m' => v = .bool ((!ltI (wr .i64 b) (wr .i64 a))) ∧ Ext m m' := by
  refine Fc.body (c := _) Tryz.func31 rfl rfl rfl rfl hm ?_
  refine Ce.seq ?_
  refine Ce.region ?_
  refine Ie.p rfl rfl rfl rfl ?_
  refine Ie.nil ?_
  refine Ne.seq ?_
  refine Ce.seq ?_
  refine Ce.region ?_
  refine Ie.p rfl rfl rfl rfl ?_
  refine Ie.p rfl rfl rfl rfl ?_
  refine Ie.call _ rfl rfl rfl rfl rfl rfl (fun m hm => RWrap_i64 hm.lole ha) ?_
  refine Ie.p rfl rfl rfl rfl ?_
  refine Ie.p rfl rfl rfl rfl ?_
  refine Ie.call _ rfl rfl rfl rfl rfl rfl (fun m hm => RWrap_i64 hm.lole hb) ?_
  refine Ie.p rfl rfl rfl rfl ?_
  refine Ie.p rfl rfl rfl rfl ?_
  refine Ie.nil ?_
  refine Ne.seq ?_
  refine Ce.seq ?_
  refine Ce.region ?_
  refine Ie.p rfl rfl rfl rfl ?_
  refine Ie.p rfl rfl rfl rfl ?_
  refine Ie.p rfl rfl rfl rfl ?_
  refine Ie.p rfl rfl rfl rfl ?_
  refine Ie.p rfl rfl rfl rfl ?_
  refine Ie.p rfl rfl rfl rfl ?_
  refine Ie.p rfl rfl rfl rfl ?_
  refine Ie.p rfl rfl rfl rfl ?_
  refine Ie.nil ?_
  refine Ne.seq ?_
  refine Ce.seq ?_
  refine Ce.seq ?_
  refine Ce.region ?_
  refine Ie.p rfl rfl rfl rfl ?_
  refine Ie.p rfl rfl rfl rfl ?_
  refine Ie.nil ?_
  refine Ne.seq ?_
  refine Ce.cond_false rfl ?_
  refine Ce.skip ?_
  refine Ne.seq ?_
  refine Ce.seq ?_
  refine Ce.seq ?_
  refine Ce.region ?_
  refine Ie.p rfl rfl rfl rfl ?_
  refine Ie.nil ?_
  refine Ne.seq ?_
  refine Ce.block ?_
  refine Ce.seq ?_
  refine Ce.region ?_
  refine Ie.p rfl rfl rfl rfl ?_
  refine Ie.p rfl rfl rfl rfl ?_
  refine Ie.nil ?_
  refine Ne.seq ?_
  refine Ce.cond_false rfl ?_
  refine Ce.seq ?_
  refine Ce.region ?_
  refine Ie.p rfl rfl rfl rfl ?_
  refine Ie.p rfl rfl rfl rfl ?_
  refine Ie.nil ?_
  refine Ne.seq ?_
  refine Ce.cond_false rfl ?_
  refine Ce.seq ?_
  refine Ce.region ?_
  refine Ie.p rfl rfl rfl rfl ?_
  refine Ie.p rfl rfl rfl rfl ?_
  refine Ie.nil ?_
  refine Ne.seq ?_
  refine Ce.cond_false rfl ?_
  refine Ce.seq ?_
  refine Ce.region ?_
  refine Ie.p rfl rfl rfl rfl ?_
  refine Ie.p rfl rfl rfl rfl ?_
  refine Ie.nil ?_
  refine Ne.seq ?_
  refine Ce.cond_true rfl ?_
  refine Ce.seq ?_
  refine Ce.region ?_
  refine Ie.p rfl rfl rfl rfl ?_
  refine Ie.p rfl rfl rfl rfl ?_
  refine Ie.p rfl rfl rfl rfl ?_
  refine Ie.nil ?_
  refine Ne.seq ?_
  refine Ce.ret ?_
  refine Re.blk ?_
  refine Re.seq ?_
  exact Re.end_ rfl rfl (fun m hm => ⟨rfl, hm.ext⟩)

theorem Compare_i64_14 {a b : Int} {m : AW} (hm : m.lo ≤ m.next) (ha : Fit .i64 a) (hb : Fit .i64 b) : Fc Tryz.prog 29 [.int .i64 3, .int .i64 14, .int .i64 a, .int .i64 b] m fun v m' => v = .tuple ⟨[.bool (ltI (wr .i64 b) (wr .i64 a)), .int .i64 0]⟩ ∧ Ext m m' := by
  refine Fc.body (c := _) Tryz.func29 rfl rfl rfl rfl hm ?_
  refine Ce.seq ?_
  refine Ce.region ?_
  refine Ie.p rfl rfl rfl rfl ?_
  refine Ie.p rfl rfl rfl rfl ?_
  refine Ie.nil ?_
  refine Ne.seq ?_
  refine Ce.seq ?_
  refine Ce.region ?_
  refine Ie.p rfl rfl rfl rfl ?_
  refine Ie.calln _ _ _ rfl rfl rfl rfl rfl rfl (fun m hm => of_i64 hm.lole) (fun x hx => ?_)
  clear hx
  refine Ie.p rfl rfl rfl rfl ?_
  refine Ie.p rfl rfl rfl rfl ?_
  refine Ie.p rfl rfl rfl rfl ?_
  refine Ie.alloc rfl rfl rfl rfl zr59 (fun b10 hb10 => ?_)
  refine Ie.store rfl rfl rfl rfl rfl sz59 rfl (by first | exact .head | exact .tail .head | exact .tail (.tail .head) | exact .tail (.tail (.tail .head))) rfl ?_
  refine Ie.p rfl rfl rfl rfl ?_
  refine Ie.nil ?_
  refine Ne.seq ?_
  refine Ce.seq ?_
  refine Ce.seq ?_
  refine Ce.region ?_
  refine Ie.p rfl rfl rfl rfl ?_
  refine Ie.p rfl rfl rfl rfl ?_
  refine Ie.nil ?_
  refine Ne.seq ?_
  refine Ce.cond_false rfl ?_
  refine Ce.skip ?_
  refine Ne.seq ?_
  refine Ce.seq ?_
  refine Ce.draw [⟨0, .p, true, true, 0⟩, ⟨1, .l, true, true, 1⟩, ⟨2, .p, true, true, 0⟩, ⟨3, .h, true, true, 7⟩, ⟨4, .p, false, false, 0⟩, ⟨5, .l, false, false, 16⟩, ⟨6, .p, false, false, 0⟩, ⟨7, .h, true, true, 127⟩, ⟨8, .p, true, true, 255⟩, ⟨9, .p, true, true, 511⟩] (by kernel_rfl) (by kernel_rfl) (fun base hbase hB => ?_)
  refine De.fieldAddr rfl rfl rfl rfl rfl rfl fa59_0 ?_
  refine De.load rfl rfl rfl rfl rfl rfl rfl rfl ag54 (by first | exact .head | exact .tail .head | exact .tail (.tail .head) | exact .tail (.tail (.tail .head)) | exact .base ‹_› ‹_› (by simp)) rfl ?_
  refine De.p rfl rfl rfl rfl rfl ?_
  refine De.call _ rfl rfl rfl rfl rfl rfl rfl rfl rfl (fun m hm => cl_i64_1 hm.lole ha) ?_
  refine De.fieldAddr rfl rfl rfl rfl rfl rfl fa59_0 ?_
  refine De.loadOld rfl rfl rfl rfl rfl rfl ag54 (by first | exact .head | exact .tail .head | exact .tail (.tail .head) | exact .tail (.tail (.tail .head)) | exact .base ‹_› ‹_› (by simp)) rfl (by first | exact hB _ _ (.head _) | exact hB _ _ (.tail _ (.head _)) | exact hB _ _ (.tail _ (.tail _ (.head _))) | exact hB _ _ (.tail _ (.tail _ (.tail _ (.head _)))) | exact Nat.lt_of_lt_of_le ‹_› hbase) (fun _ => ?_)
  refine De.p rfl rfl rfl rfl rfl ?_
  refine De.call _ rfl rfl rfl rfl rfl rfl rfl rfl rfl (fun m hm => cl_i64_1 hm.lole hb) ?_
  refine De.p rfl rfl rfl rfl rfl ?_
  refine De.p rfl rfl rfl rfl rfl ?_
  refine De.nil ?_
  refine Ne.seq ?_
  refine Ce.seq ?_
  refine Ce.seq ?_
  refine Ce.region ?_
  refine Ie.p rfl rfl rfl rfl ?_
  refine Ie.nil ?_
  refine Ne.seq ?_
  refine Ce.block ?_
  refine Ce.seq ?_
  refine Ce.region ?_
  refine Ie.p rfl rfl rfl rfl ?_
  refine Ie.p rfl rfl rfl rfl ?_
  refine Ie.nil ?_
  refine Ne.seq ?_
  refine Ce.cond_false rfl ?_
  refine Ce.seq ?_
  refine Ce.region ?_
  refine Ie.p rfl rfl rfl rfl ?_
  refine Ie.p rfl rfl rfl rfl ?_
  refine Ie.nil ?_
  refine Ne.seq ?_
  refine Ce.cond_false rfl ?_
  refine Ce.seq ?_
  refine Ce.region ?_
  refine Ie.p rfl rfl rfl rfl ?_
  refine Ie.p rfl rfl rfl rfl ?_
  refine Ie.nil ?_
  refine Ne.seq ?_
  refine Ce.cond_false rfl ?_
  refine Ce.seq ?_
  refine Ce.region ?_
  refine Ie.p rfl rfl rfl rfl ?_
  refine Ie.p rfl rfl rfl rfl ?_
  refine Ie.nil ?_
  refine Ne.seq ?_
  refine Ce.cond_false rfl ?_
  refine Ce.seq ?_
  refine Ce.region ?_
  refine Ie.p rfl rfl rfl rfl ?_
  refine Ie.p rfl rfl rfl rfl ?_
  refine Ie.nil ?_
  refine Ne.seq ?_
  refine Ce.cond_true rfl ?_
  refine Ce.seq ?_
  refine Ce.region ?_
  refine Ie.fieldAddr rfl rfl rfl rfl rfl fa59_6 ?_
  refine Ie.load rfl rfl rfl rfl rfl ag57 (by first | exact .head | exact .tail .head | exact .tail (.tail .head) | exact .tail (.tail (.tail .head)) | exact .base ‹_› ‹_› (by simp)) rfl ?_
  refine Ie.p rfl rfl rfl rfl ?_
  refine Ie.p rfl rfl rfl rfl ?_
  refine Ie.call _ rfl rfl rfl rfl rfl rfl (fun m hm => cl_i64_less hm.lole (Fit.wr _ _) (Fit.wr _ _)) ?_
  refine Ie.p rfl rfl rfl rfl ?_
  refine Ie.p rfl rfl rfl rfl ?_
  refine Ie.nil ?_
  refine Ne.seq ?_
  refine Ce.ret ?_
  refine Re.blk ?_
  refine Re.seq ?_
  exact Re.end_ rfl rfl (fun m hm => ⟨rfl, hm.ext⟩)

theorem RCompare_i64_14 {a b : Int} {m : AW} (hm : m.lo ≤ m.next) (ha : Fit .i64 a) (hb : Fit .i64 b) : Fc Tryz.prog 31 [.int .i64 3, .int .i64 14, .int .i64 a, .int .i64 b] m fun v m' => v = .bool (ltI (wr .i64 b) (wr .i64 a)) ∧ Ext m m' := by
  refine Fc.body (c := _) Tryz.func31 rfl rfl rfl rfl hm ?_
  refine Ce.seq ?_
  refine Ce.region ?_
  refine Ie.p rfl rfl rfl rfl ?_
  refine Ie.nil ?_
  refine Ne.seq ?_
  refine Ce.seq ?_
  refine Ce.region ?_
  refine Ie.p rfl rfl rfl rfl ?_
  refine Ie.p rfl rfl rfl rfl ?_
  refine Ie.call _ rfl rfl rfl rfl rfl rfl (fun m hm => RWrap_i64 hm.lole ha) ?_
  refine Ie.p rfl rfl rfl rfl ?_
  refine Ie.p rfl rfl rfl rfl ?_
  refine Ie.call _ rfl rfl rfl rfl rfl rfl (fun m hm => RWrap_i64 hm.lole hb) ?_
  refine Ie.p rfl rfl rfl rfl ?_
  refine Ie.p rfl rfl rfl rfl ?_
  refine Ie.nil ?_
  refine Ne.seq ?_
  refine Ce.seq ?_
  refine Ce.region ?_
  refine Ie.p rfl rfl rfl rfl ?_
  refine Ie.p rfl rfl rfl rfl ?_
  refine Ie.p rfl rfl rfl rfl ?_
  refine Ie.p rfl rfl rfl rfl ?_
  refine Ie.p rfl rfl rfl rfl ?_
  refine Ie.p rfl rfl rfl rfl ?_
  refine Ie.p rfl rfl rfl rfl ?_
  refine Ie.p rfl rfl rfl rfl ?_
  refine Ie.nil ?_
  refine Ne.seq ?_
  refine Ce.seq ?_
  refine Ce.seq ?_
  refine Ce.region ?_
  refine Ie.p rfl rfl rfl rfl ?_
  refine Ie.p rfl rfl rfl rfl ?_
  refine Ie.nil ?_
  refine Ne.seq ?_
  refine Ce.cond_false rfl ?_
  refine Ce.skip ?_
  refine Ne.seq ?_
  refine Ce.seq ?_
  refine Ce.seq ?_
  refine Ce.region ?_
  refine Ie.p rfl rfl rfl rfl ?_
  refine Ie.nil ?_
  refine Ne.seq ?_
  refine Ce.block ?_
  refine Ce.seq ?_
  refine Ce.region ?_
  refine Ie.p rfl rfl rfl rfl ?_
  refine Ie.p rfl rfl rfl rfl ?_
  refine Ie.nil ?_
  refine Ne.seq ?_
  refine Ce.cond_false rfl ?_
  refine Ce.seq ?_
  refine Ce.region ?_
  refine Ie.p rfl rfl rfl rfl ?_
  refine Ie.p rfl rfl rfl rfl ?_
  refine Ie.nil ?_
  refine Ne.seq ?_
  refine Ce.cond_false rfl ?_
  refine Ce.seq ?_
  refine Ce.region ?_
  refine Ie.p rfl rfl rfl rfl ?_
  refine Ie.p rfl rfl rfl rfl ?_
  refine Ie.nil ?_
  refine Ne.seq ?_
  refine Ce.cond_false rfl ?_
  refine Ce.seq ?_
  refine Ce.region ?_
  refine Ie.p rfl rfl rfl rfl ?_
  refine Ie.p rfl rfl rfl rfl ?_
  refine Ie.nil ?_
  refine Ne.seq ?_
  refine Ce.cond_false rfl ?_
  refine Ce.seq ?_
  refine Ce.region ?_
  refine Ie.p rfl rfl rfl rfl ?_
  refine Ie.p rfl rfl rfl rfl ?_
  refine Ie.nil ?_
  refine Ne.seq ?_
  refine Ce.cond_true rfl ?_
  refine Ce.seq ?_
  refine Ce.region ?_
  refine Ie.p rfl rfl rfl rfl ?_
  refine Ie.p rfl rfl rfl rfl ?_
  refine Ie.nil ?_
  refine Ne.seq ?_
  refine Ce.ret ?_
  refine Re.blk ?_
  refine Re.seq ?_
  exact Re.end_ rfl rfl (fun m hm => ⟨rfl, hm.ext⟩)

theorem Compare_i64_15 {a b : Int} {m : AW} (hm : m.lo ≤ m.next) (ha : Fit .i64 a) (hb : Fit .i64 b) : Fc Tryz.prog 29 [.int .i64 3, .int .i64 15, .int .i64 a, .int .i64 b] m fun v m' => v = .tuple ⟨[.bool ((ltI (wr .i64 b) (wr .i64 a) || eqI (wr .i64 a) (wr .i64 b))), .int .i64 0]⟩ ∧ Ext m m' := by
  refine Fc.body (c := _) Tryz.func29 rfl rfl rfl rfl hm ?_
  refine Ce.seq ?_
  refine Ce.region ?_
  refine Ie.p rfl rfl rfl rfl ?_
  refine Ie.p rfl rfl rfl rfl ?_
  refine Ie.nil ?_
  refine Ne.seq ?_
  refine Ce.seq ?_
  refine Ce.region ?_
  refine Ie.p rfl rfl rfl rfl ?_
  refine Ie.calln _ _ _ rfl rfl rfl rfl rfl rfl (fun m hm => of_i64 hm.lole) (fun x hx => ?_)
  clear hx
  refine Ie.p rfl rfl rfl rfl ?_
  refine Ie.p rfl rfl rfl rfl ?_
  refine Ie.p rfl rfl rfl rfl ?_
  refine Ie.alloc rfl rfl rfl rfl zr59 (fun b10 hb10 => ?_)
  refine Ie.store rfl rfl rfl rfl rfl sz59 rfl (by first | exact .head | exact .tail .head | exact .tail (.tail .head) | exact .tail (.tail (.tail .head))) rfl ?_
  refine Ie.p rfl rfl rfl rfl ?_
  refine Ie.nil ?_
  refine Ne.seq ?_
  refine Ce.seq ?_
  refine Ce.seq ?_
  refine Ce.region ?_
  refine Ie.p rfl rfl rfl rfl ?_
  refine Ie.p rfl rfl rfl rfl ?_
  refine Ie.nil ?_
  refine Ne.seq ?_
  refine Ce.cond_false rfl ?_
  refine Ce.skip ?_
  refine Ne.seq ?_
  refine Ce.seq ?_
  refine Ce.draw [⟨0, .p, true, true, 0⟩, ⟨1, .l, true, true, 1⟩, ⟨2, .p, true, true, 0⟩, ⟨3, .h, true, true, 7⟩, ⟨4, .p, false, false, 0⟩, ⟨5, .l, false, false, 16⟩, ⟨6, .p, false, false, 0⟩, ⟨7, .h, true, true, 127⟩, ⟨8, .p, true, true, 255⟩, ⟨9, .p, true, true, 511⟩] (by kernel_rfl) (by kernel_rfl) (fun base hbase hB => ?_)
  refine De.fieldAddr rfl rfl rfl rfl rfl rfl fa59_0 ?_
  refine De.load rfl rfl rfl rfl rfl rfl rfl rfl ag54 (by first | exact .head | exact .tail .head | exact .tail (.tail .head) | exact .tail (.tail (.tail .head)) | exact .base ‹_› ‹_› (by simp)) rfl ?_
  refine De.p rfl rfl rfl rfl rfl ?_
  refine De.call _ rfl rfl rfl rfl rfl rfl rfl rfl rfl (fun m hm => cl_i64_1 hm.lole ha) ?_
  refine De.fieldAddr rfl rfl rfl rfl rfl rfl fa59_0 ?_
  refine De.loadOld rfl rfl rfl rfl rfl rfl ag54 (by first | exact .head | exact .tail .head | exact .tail (.tail .head) | exact .tail (.tail (.tail .head)) | exact .base ‹_› ‹_› (by simp)) rfl (by first | exact hB _ _ (.head _) | exact hB _ _ (.tail _ (.head _)) | exact hB _ _ (.tail _ (.tail _ (.head _))) | exact hB _ _ (.tail _ (.tail _ (.tail _ (.head _)))) | exact Nat.lt_of_lt_of_le ‹_› hbase) (fun _ => ?_)
  refine De.p rfl rfl rfl rfl rfl ?_
  refine De.call _ rfl rfl rfl rfl rfl rfl rfl rfl rfl (fun m hm => cl_i64_1 hm.lole hb) ?_
  refine De.p rfl rfl rfl rfl rfl ?_
  refine De.p rfl rfl rfl rfl rfl ?_
  refine De.nil ?_
  refine Ne.seq ?_
  refine Ce.seq ?_
  refine Ce.seq ?_
  refine Ce.region ?_
  refine Ie.p rfl rfl rfl rfl ?_
  refine Ie.nil ?_
  refine Ne.seq ?_
  refine Ce.block ?_
  refine Ce.seq ?_
  refine Ce.region ?_
  refine Ie.p rfl rfl rfl rfl ?_
  refine Ie.p rfl rfl rfl rfl ?_
  refine Ie.nil ?_
  refine Ne.seq ?_
  refine Ce.cond_false rfl ?_
  refine Ce.seq ?_
  refine Ce.region ?_
  refine Ie.p rfl rfl rfl rfl ?_
  refine Ie.p rfl rfl rfl rfl ?_
  refine Ie.nil ?_
  refine Ne.seq ?_
  refine Ce.cond_false rfl ?_
  refine Ce.seq ?_
  refine Ce.region ?_
  refine Ie.p rfl rfl rfl rfl ?_
  refine Ie.p rfl rfl rfl rfl ?_
  refine Ie.nil ?_
  refine Ne.seq ?_
  refine Ce.cond_false rfl ?_
  refine Ce.seq ?_
  refine Ce.region ?_
  refine Ie.p rfl rfl rfl rfl ?_
  refine Ie.p rfl rfl rfl rfl ?_
  refine Ie.nil ?_
  refine Ne.seq ?_
  refine Ce.cond_false rfl ?_
  refine Ce.seq ?_
  refine Ce.region ?_
  refine Ie.p rfl rfl rfl rfl ?_
  refine Ie.p rfl rfl rfl rfl ?_
  refine Ie.nil ?_
  refine Ne.seq ?_
  refine Ce.cond_false rfl ?_
  refine Ce.seq ?_
  refine Ce.region ?_
  refine Ie.p rfl rfl rfl rfl ?_
  refine Ie.p rfl rfl rfl rfl ?_
  refine Ie.nil ?_
  refine Ne.seq ?_
  refine Ce.cond_true rfl ?_
  refine Ce.seq ?_
  refine Ce.region ?_
  refine Ie.fieldAddr rfl rfl rfl rfl rfl fa59_6 ?_
  refine Ie.load rfl rfl rfl rfl rfl ag57 (by first | exact .head | exact .tail .head | exact .tail (.tail .head) | exact .tail (.tail (.tail .head)) | exact .base ‹_› ‹_› (by simp)) rfl ?_
  refine Ie.p rfl rfl rfl rfl ?_
  refine Ie.p rfl rfl rfl rfl ?_
  refine Ie.call _ rfl rfl rfl rfl rfl rfl (fun m hm => cl_i64_less hm.lole (Fit.wr _ _) (Fit.wr _ _)) ?_
  refine Ie.p rfl rfl rfl rfl ?_
  refine Ie.splitB 79 rfl (fun hs0 => ?_) (fun hs0 => ?_)
  · refine Ie.off rfl rfl rfl ?_
    refine Ie.off rfl rfl rfl ?_
    refine Ie.off rfl rfl rfl ?_
    refine Ie.off rfl rfl rfl ?_
    refine Ie.off rfl rfl rfl ?_
    refine Ie.p rfl rfl rfl rfl ?_
    refine Ie.p rfl rfl rfl rfl ?_
    refine Ie.p rfl rfl rfl rfl ?_
    refine Ie.nil ?_
    refine Ne.seq ?_
    refine Ce.ret ?_
    refine Re.blk ?_
    refine Re.seq ?_
    exact Re.end_ rfl rfl (fun m hm => ⟨by first | rfl | (rw [hs0]; rfl), hm.ext⟩)
  · refine Ie.fieldAddr rfl rfl rfl rfl rfl fa59_7 ?_
    refine Ie.load rfl rfl rfl rfl rfl ag57 (by first | exact .head | exact .tail .head | exact .tail (.tail .head) | exact .tail (.tail (.tail .head)) | exact .base ‹_› ‹_› (by simp)) rfl ?_
    refine Ie.p rfl rfl rfl rfl ?_
    refine Ie.p rfl rfl rfl rfl ?_
    refine Ie.call _ rfl rfl rfl rfl rfl rfl (fun m hm => cl_i64_same hm.lole (Fit.wr _ _) (Fit.wr _ _)) ?_
    refine Ie.p rfl rfl rfl rfl ?_
    refine Ie.p rfl rfl rfl rfl ?_
    refine Ie.p rfl rfl rfl rfl ?_
    refine Ie.nil ?_
    refine Ne.seq ?_
    refine Ce.ret ?_
    refine Re.blk ?_
    refine Re.seq ?_
    exact Re.end_ rfl rfl (fun m hm => ⟨by first | rfl | (rw [hs0]; rfl), hm.ext⟩)

theorem RCompare_i64_15 {a b : Int} {m : AW} (hm : m.lo ≤ m.next) (ha : Fit .i64 a) (hb : Fit .i64 b) : Fc Tryz.prog 31 [.int .i64 3, .int .i64 15, .int .i64 a, .int .i64 b] m fun v m' => v = .bool ((!ltI (wr .i64 a) (wr .i64 b))) ∧ Ext m m' := by
  refine Fc.body (c := _) Tryz.func31 rfl rfl rfl rfl hm ?_
  refine Ce.seq ?_
  refine Ce.region ?_
  refine Ie.p rfl rfl rfl rfl ?_
  refine Ie.nil ?_
  refine Ne.seq ?_
  refine Ce.seq ?_
  refine Ce.region ?_
  refine Ie.p rfl rfl rfl rfl ?_
  refine Ie.p rfl rfl rfl rfl ?_
  refine Ie.call _ rfl rfl rfl rfl rfl rfl (fun m hm => RWrap_i64 hm.lole ha) ?_
  refine Ie.p rfl rfl rfl rfl ?_
  refine Ie.p rfl rfl rfl rfl ?_
  refine Ie.call _ rfl rfl rfl rfl rfl rfl (fun m hm => RWrap_i64 hm.lole hb) ?_
  refine Ie.p rfl rfl rfl rfl ?_
  refine Ie.p rfl rfl rfl rfl ?_
  refine Ie.nil ?_
  refine Ne.seq ?_
  refine Ce.seq ?_
  refine Ce.region ?_
  refine Ie.p rfl rfl rfl rfl ?_
  refine Ie.p rfl rfl rfl rfl ?_
  refine Ie.p rfl rfl rfl rfl ?_
  refine Ie.p rfl rfl rfl rfl ?_
  refine Ie.p rfl rfl rfl rfl ?_
  refine Ie.p rfl rfl rfl rfl ?_
  refine Ie.p rfl rfl rfl rfl ?_
  refine Ie.p rfl rfl rfl rfl ?_
  refine Ie.nil ?_
  refine Ne.seq ?_
  refine Ce.seq ?_
  refine Ce.seq ?_
  refine Ce.region ?_
  refine Ie.p rfl rfl rfl rfl ?_
  refine Ie.p rfl rfl rfl rfl ?_
  refine Ie.nil ?_
  refine Ne.seq ?_
  refine Ce.cond_false rfl ?_
  refine Ce.skip ?_
  refine Ne.seq ?_
  refine Ce.seq ?_
  refine Ce.seq ?_
  refine Ce.region ?_
  refine Ie.p rfl rfl rfl rfl ?_
  refine Ie.nil ?_
  refine Ne.seq ?_
  refine Ce.block ?_
  refine Ce.seq ?_
  refine Ce.region ?_
  refine Ie.p rfl rfl rfl rfl ?_
  refine Ie.p rfl rfl rfl rfl ?_
  refine Ie.nil ?_
  refine Ne.seq ?_
  refine Ce.cond_false rfl ?_
  refine Ce.seq ?_
  refine Ce.region ?_
  refine Ie.p rfl rfl rfl rfl ?_
  refine Ie.p rfl rfl rfl rfl ?_
  refine Ie.nil ?_
  refine Ne.seq ?_
  refine Ce.cond_false rfl ?_
  refine Ce.seq ?_
  refine Ce.region ?_
  refine Ie.p rfl rfl rfl rfl ?_
  refine Ie.p rfl rfl rfl rfl ?_
  refine Ie.nil ?_
  refine Ne.seq ?_
  refine Ce.cond_false rfl ?_
  refine Ce.seq ?_
  refine Ce.region ?_
  refine Ie.p rfl rfl rfl rfl ?_
  refine Ie.p rfl rfl rfl rfl ?_
  refine Ie.nil ?_
  refine Ne.seq ?_
  refine Ce.cond_false rfl ?_
  refine Ce.seq ?_
  refine Ce.region ?_
  refine Ie.p rfl rfl rfl rfl ?_
  refine Ie.p rfl rfl rfl rfl ?_
  refine Ie.nil ?_
  refine Ne.seq ?_
  refine Ce.cond_false rfl ?_
  refine Ce.skip ?_
  refine Ne.blk ?_
  refine Ne.seq ?_
  refine Ce.seq ?_
  refine Ce.region ?_
  refine Ie.p rfl rfl rfl rfl ?_
  refine Ie.p rfl rfl rfl rfl ?_
  refine Ie.p rfl rfl rfl rfl ?_
  refine Ie.nil ?_
  refine Ne.seq ?_
  refine Ce.ret ?_
  exact Re.end_ rfl rfl (fun m hm => ⟨rfl, hm.ext⟩)

theorem Compare_i64_other {op a b : Int} {m : AW} (hm : m.lo ≤ m.next) (ha : Fit .i64 a) (hb : Fit .i64 b) (hop : op < 10 ∨ 15 < op) : Fc Tryz.prog 29 [.int .i64 3, .int .i64 op, .int .i64 a, .int .i64 b] m fun v m' => v = .tuple ⟨[.bool false, .int .i64 2]⟩ ∧ Ext m m' := by
  refine Fc.body (c := _) Tryz.func29 rfl rfl rfl rfl hm ?_
  refine Ce.seq ?_
  refine Ce.region ?_
  refine Ie.p rfl rfl rfl rfl ?_
  refine Ie.p rfl rfl rfl rfl ?_
  refine Ie.nil ?_
  refine Ne.seq ?_
  refine Ce.seq ?_
  refine Ce.region ?_
  refine Ie.p rfl rfl rfl rfl ?_
  refine Ie.calln _ _ _ rfl rfl rfl rfl rfl rfl (fun m hm => of_i64 hm.lole) (fun x hx => ?_)
  clear hx
  refine Ie.p rfl rfl rfl rfl ?_
  refine Ie.p rfl rfl rfl rfl ?_
  refine Ie.p rfl rfl rfl rfl ?_
  refine Ie.alloc rfl rfl rfl rfl zr59 (fun b10 hb10 => ?_)
  refine Ie.store rfl rfl rfl rfl rfl sz59 rfl (by first | exact .head | exact .tail .head | exact .tail (.tail .head) | exact .tail (.tail (.tail .head))) rfl ?_
  refine Ie.p rfl rfl rfl rfl ?_
  refine Ie.nil ?_
  refine Ne.seq ?_
  refine Ce.seq ?_
  refine Ce.seq ?_
  refine Ce.region ?_
  refine Ie.p rfl rfl rfl rfl ?_
  refine Ie.p rfl rfl rfl rfl ?_
  refine Ie.nil ?_
  refine Ne.seq ?_
  refine Ce.cond_false rfl ?_
  refine Ce.skip ?_
  refine Ne.seq ?_
  refine Ce.seq ?_
  refine Ce.draw [⟨0, .p, true, true, 0⟩, ⟨1, .l, true, true, 1⟩, ⟨2, .p, true, true, 0⟩, ⟨3, .h, true, true, 7⟩, ⟨4, .p, false, false, 0⟩, ⟨5, .l, false, false, 16⟩, ⟨6, .p, false, false, 0⟩, ⟨7, .h, true, true, 127⟩, ⟨8, .p, true, true, 255⟩, ⟨9, .p, true, true, 511⟩] (by kernel_rfl) (by kernel_rfl) (fun base hbase hB => ?_)
  refine De.fieldAddr rfl rfl rfl rfl rfl rfl fa59_0 ?_
  refine De.load rfl rfl rfl rfl rfl rfl rfl rfl ag54 (by first | exact .head | exact .tail .head | exact .tail (.tail .head) | exact .tail (.tail (.tail .head)) | exact .base ‹_› ‹_› (by simp)) rfl ?_
  refine De.p rfl rfl rfl rfl rfl ?_
  refine De.call _ rfl rfl rfl rfl rfl rfl rfl rfl rfl (fun m hm => cl_i64_1 hm.lole ha) ?_
  refine De.fieldAddr rfl rfl rfl rfl rfl rfl fa59_0 ?_
  refine De.loadOld rfl rfl rfl rfl rfl rfl ag54 (by first | exact .head | exact .tail .head | exact .tail (.tail .head) | exact .tail (.tail (.tail .head)) | exact .base ‹_› ‹_› (by simp)) rfl (by first | exact hB _ _ (.head _) | exact hB _ _ (.tail _ (.head _)) | exact hB _ _ (.tail _ (.tail _ (.head _))) | exact hB _ _ (.tail _ (.tail _ (.tail _ (.head _)))) | exact Nat.lt_of_lt_of_le ‹_› hbase) (fun _ => ?_)
  refine De.p rfl rfl rfl rfl rfl ?_
  refine De.call _ rfl rfl rfl rfl rfl rfl rfl rfl rfl (fun m hm => cl_i64_1 hm.lole hb) ?_
  refine De.p rfl rfl rfl rfl rfl ?_
  refine De.p rfl rfl rfl rfl rfl ?_
  refine De.nil ?_
  refine Ne.seq ?_
  refine Ce.seq ?_
  refine Ce.seq ?_
  refine Ce.region ?_
  refine Ie.p rfl rfl rfl rfl ?_
  refine Ie.nil ?_
  refine Ne.seq ?_
  refine Ce.block ?_
  refine Ce.seq ?_
  refine Ce.region ?_
  refine Ie.p rfl rfl rfl rfl ?_
  refine Ie.p rfl rfl rfl rfl ?_
  refine Ie.nil ?_
  refine Ne.seq ?_
  refine Ce.cond_false (by rw [eqI_eq, decide_eq_false (by omega)]; rfl) ?_
  refine Ce.seq ?_
  refine Ce.region ?_
  refine Ie.p rfl rfl rfl rfl ?_
  refine Ie.p rfl rfl rfl rfl ?_
  refine Ie.nil ?_
  refine Ne.seq ?_
  refine Ce.cond_false (by rw [eqI_eq, decide_eq_false (by omega)]; rfl) ?_
  refine Ce.seq ?_
  refine Ce.region ?_
  refine Ie.p rfl rfl rfl rfl ?_
  refine Ie.p rfl rfl rfl rfl ?_
  refine Ie.nil ?_
  refine Ne.seq ?_
  refine Ce.cond_false (by rw [eqI_eq, decide_eq_false (by omega)]; rfl) ?_
  refine Ce.seq ?_
  refine Ce.region ?_
  refine Ie.p rfl rfl rfl rfl ?_
  refine Ie.p rfl rfl rfl rfl ?_
  refine Ie.nil ?_
  refine Ne.seq ?_
  refine Ce.cond_false (by rw [eqI_eq, decide_eq_false (by omega)]; rfl) ?_
  refine Ce.seq ?_
  refine Ce.region ?_
  refine Ie.p rfl rfl rfl rfl ?_
  refine Ie.p rfl rfl rfl rfl ?_
  refine Ie.nil ?_
  refine Ne.seq ?_
  refine Ce.cond_false (by rw [eqI_eq, decide_eq_false (by omega)]; rfl) ?_
  refine Ce.seq ?_
  refine Ce.region ?_
  refine Ie.p rfl rfl rfl rfl ?_
  refine Ie.p rfl rfl rfl rfl ?_
  refine Ie.nil ?_
  refine Ne.seq ?_
  refine Ce.cond_false (by rw [eqI_eq, decide_eq_false (by omega)]; rfl) ?_
  refine Ce.skip ?_
  refine Ne.blk ?_
  refine Ne.seq ?_
  refine Ce.seq ?_
  refine Ce.region ?_
  refine Ie.p rfl rfl rfl rfl ?_
  refine Ie.p rfl rfl rfl rfl ?_
  refine Ie.nil ?_
  refine Ne.seq ?_
  refine Ce.ret ?_
  exact Re.end_ rfl rfl (fun m hm => ⟨rfl, hm.ext⟩)

theorem Compare_real_10 {a b : Int} {m : AW} (hm : m.lo ≤ m.next) (ha : Fit .i64 a) (hb : Fit .i64 b) : Fc Tryz.prog 29 [.int .i64 4, .int .i64 10, .int .i64 a, .int .i64 b] m fun v m' => v = .tuple ⟨[.bool ((FloatKind.f64.format.order (flb (w4 a)) (flb (w4 b)) == some .eq)), .int .i64 0]⟩ ∧ Ext m m' := by
  refine Fc.body (c := _) Tryz.func29 rfl rfl rfl rfl hm ?_
  refine Ce.seq ?_
  refine Ce.region ?_
  refine Ie.p rfl rfl rfl rfl ?_
  refine Ie.p rfl rfl rfl rfl ?_
  refine Ie.nil ?_
  refine Ne.seq ?_
  refine Ce.seq ?_
  refine Ce.region ?_
  refine Ie.p rfl rfl rfl rfl ?_
  refine Ie.call _ rfl rfl rfl rfl rfl rfl (fun m hm => of_real hm.lole) ?_
  refine Ie.p rfl rfl rfl rfl ?_
  refine Ie.p rfl rfl rfl rfl ?_
  refine Ie.p rfl rfl rfl rfl ?_
  refine Ie.alloc rfl rfl rfl rfl zr59 (fun b10 hb10 => ?_)
  refine Ie.store rfl rfl rfl rfl rfl sz59 rfl (by first | exact .head | exact .tail .head | exact .tail (.tail .head) | exact .tail (.tail (.tail .head))) rfl ?_
  refine Ie.p rfl rfl rfl rfl ?_
  refine Ie.nil ?_
  refine Ne.seq ?_
  refine Ce.seq ?_
  refine Ce.seq ?_
  refine Ce.region ?_
  refine Ie.p rfl rfl rfl rfl ?_
  refine Ie.p rfl rfl rfl rfl ?_
  refine Ie.nil ?_
  refine Ne.seq ?_
  refine Ce.cond_false rfl ?_
  refine Ce.skip ?_
  refine Ne.seq ?_
  refine Ce.seq ?_
  refine Ce.draw [⟨0, .p, true, true, 0⟩, ⟨1, .l, true, true, 1⟩, ⟨2, .p, true, true, 0⟩, ⟨3, .h, true, true, 7⟩, ⟨4, .p, false, false, 0⟩, ⟨5, .l, false, false, 16⟩, ⟨6, .p, false, false, 0⟩, ⟨7, .h, true, true, 127⟩, ⟨8, .p, true, true, 255⟩, ⟨9, .p, true, true, 511⟩] (by kernel_rfl) (by kernel_rfl) (fun base hbase hB => ?_)
  refine De.fieldAddr rfl rfl rfl rfl rfl rfl fa59_0 ?_
  refine De.load rfl rfl rfl rfl rfl rfl rfl rfl ag54 (by first | exact .head | exact .tail .head | exact .tail (.tail .head) | exact .tail (.tail (.tail .head)) | exact .base ‹_› ‹_› (by simp)) rfl ?_
  refine De.p rfl rfl rfl rfl rfl ?_
  refine De.call _ rfl rfl rfl rfl rfl rfl rfl rfl rfl (fun m hm => clr_1 hm.lole ha) ?_
  refine De.fieldAddr rfl rfl rfl rfl rfl rfl fa59_0 ?_
  refine De.loadOld rfl rfl rfl rfl rfl rfl ag54 (by first | exact .head | exact .tail .head | exact .tail (.tail .head) | exact .tail (.tail (.tail .head)) | exact .base ‹_› ‹_› (by simp)) rfl (by first | exact hB _ _ (.head _) | exact hB _ _ (.tail _ (.head _)) | exact hB _ _ (.tail _ (.tail _ (.head _))) | exact hB _ _ (.tail _ (.tail _ (.tail _ (.head _)))) | exact Nat.lt_of_lt_of_le ‹_› hbase) (fun _ => ?_)
  refine De.p rfl rfl rfl rfl rfl ?_
  refine De.call _ rfl rfl rfl rfl rfl rfl rfl rfl rfl (fun m hm => clr_1 hm.lole hb) ?_
  refine De.p rfl rfl rfl rfl rfl ?_
  refine De.p rfl rfl rfl rfl rfl ?_
  refine De.nil ?_
  refine Ne.seq ?_
  refine Ce.seq ?_
  refine Ce.seq ?_
  refine Ce.region ?_
  refine Ie.p rfl rfl rfl rfl ?_
  refine Ie.nil ?_
  refine Ne.seq ?_
  refine Ce.block ?_
  refine Ce.seq ?_
  refine Ce.region ?_
  refine Ie.p rfl rfl rfl rfl ?_
  refine Ie.p rfl rfl rfl rfl ?_
  refine Ie.nil ?_
  refine Ne.seq ?_
  refine Ce.cond_true rfl ?_
  refine Ce.seq ?_
  refine Ce.region ?_
  refine Ie.fieldAddr rfl rfl rfl rfl rfl fa59_7 ?_
  refine Ie.load rfl rfl rfl rfl rfl ag57 (by first | exact .head | exact .tail .head | exact .tail (.tail .head) | exact .tail (.tail (.tail .head)) | exact .base ‹_› ‹_› (by simp)) rfl ?_
  refine Ie.p rfl rfl rfl rfl ?_
  refine Ie.p rfl rfl rfl rfl ?_
  refine Ie.call _ rfl rfl rfl rfl rfl rfl (fun m hm => clr_same hm.lole) ?_
  refine Ie.p rfl rfl rfl rfl ?_
  refine Ie.p rfl rfl rfl rfl ?_
  refine Ie.nil ?_
  refine Ne.seq ?_
  refine Ce.ret ?_
  refine Re.blk ?_
  refine Re.seq ?_
  exact Re.end_ rfl rfl (fun m hm => ⟨rfl, hm.ext⟩)

theorem RCompare_real_10 {a b : Int} {m : AW} (hm : m.lo ≤ m.next) (ha : Fit .i64 a) (hb : Fit .i64 b) (h1 : w4 a ≠ 9221120237041090561) (h2 : w4 b ≠ 9221120237041090561) : Fc Tryz.prog 31 [.int .i64 4, .int .i64 10, .int .i64 a, .int .i64 b] m fun v m' => v = .bool ((!(FloatKind.f64.format.order (flb (w4 a)) (flb (w4 b)) == some .lt) && !(FloatKind.f64.format.order (flb (w4 a)) (flb (w4 b)) == some .gt))) ∧ Ext m m' := by
  refine Fc.body (c := _) Tryz.func31 rfl rfl rfl rfl hm ?_
  refine Ce.seq ?_
  refine Ce.region ?_
  refine Ie.p rfl rfl rfl rfl ?_
  refine Ie.nil ?_
  refine Ne.seq ?_
  refine Ce.seq ?_
  refine Ce.region ?_
  refine Ie.p rfl rfl rfl rfl ?_
  refine Ie.p rfl rfl rfl rfl ?_
  refine Ie.call _ rfl rfl rfl rfl rfl rfl (fun m hm => RWrap_real hm.lole ha) ?_
  refine Ie.p rfl rfl rfl rfl ?_
  refine Ie.p rfl rfl rfl rfl ?_
  refine Ie.call _ rfl rfl rfl rfl rfl rfl (fun m hm => RWrap_real hm.lole hb) ?_
  refine Ie.p rfl rfl rfl rfl ?_
  refine Ie.p rfl rfl rfl rfl ?_
  refine Ie.nil ?_
  refine Ne.seq ?_
  refine Ce.seq ?_
  refine Ce.region ?_
  refine Ie.p rfl rfl rfl rfl ?_
  refine Ie.p rfl rfl rfl rfl ?_
  refine Ie.p rfl rfl rfl rfl ?_
  refine Ie.p rfl rfl rfl rfl ?_
  refine Ie.p rfl rfl rfl rfl ?_
  refine Ie.p rfl rfl rfl rfl ?_
  refine Ie.p rfl rfl rfl rfl ?_
  refine Ie.p rfl rfl rfl rfl ?_
  refine Ie.nil ?_
  refine Ne.seq ?_
  refine Ce.seq ?_
  refine Ce.seq ?_
  refine Ce.region ?_
  refine Ie.p rfl rfl rfl rfl ?_
  refine Ie.p rfl rfl rfl rfl ?_
  refine Ie.nil ?_
  refine Ne.seq ?_
  refine Ce.cond_true rfl ?_
  refine Ce.seq ?_
  refine Ce.seq ?_
  refine Ce.region ?_
  refine Ie.p rfl rfl rfl rfl ?_
  refine Ie.bin (v := .bool false) rfl rfl rfl rfl rfl rfl (binS_neql h1) ?_
  refine Ie.p rfl rfl rfl rfl ?_
  refine Ie.p rfl rfl rfl rfl ?_
  refine Ie.bin (v := .bool false) rfl rfl rfl rfl rfl rfl (binS_neql h2) ?_
  refine Ie.p rfl rfl rfl rfl ?_
  refine Ie.nil ?_
  refine Ne.seq ?_
  refine Ce.cond_false rfl ?_
  refine Ce.skip ?_
  refine Ne.seq ?_
  refine Ce.region ?_
  refine Ie.p rfl rfl rfl rfl ?_
  refine Ie.call _ rfl rfl rfl rfl rfl rfl (fun m hm => value_ok hm.lole) ?_
  refine Ie.p rfl rfl rfl rfl ?_
  refine Ie.call _ rfl rfl rfl rfl rfl rfl (fun m hm => value_ok hm.lole) ?_
  refine Ie.p rfl rfl rfl rfl ?_
  refine Ie.p rfl rfl rfl rfl ?_
  refine Ie.call _ rfl rfl rfl rfl rfl rfl (fun m hm => value_ok hm.lole) ?_
  refine Ie.p rfl rfl rfl rfl ?_
  refine Ie.call _ rfl rfl rfl rfl rfl rfl (fun m hm => value_ok hm.lole) ?_
  refine Ie.p rfl rfl rfl rfl ?_
  refine Ie.p rfl rfl rfl rfl ?_
  refine Ie.p rfl rfl rfl rfl ?_
  refine Ie.nil ?_
  refine Ne.seq ?_
  refine Ce.seq ?_
  refine Ce.seq ?_
  refine Ce.region ?_
  refine Ie.p rfl rfl rfl rfl ?_
  refine Ie.nil ?_
  refine Ne.seq ?_
  refine Ce.block ?_
  refine Ce.seq ?_
  refine Ce.region ?_
  refine Ie.p rfl rfl rfl rfl ?_
  refine Ie.p rfl rfl rfl rfl ?_
  refine Ie.nil ?_
  refine Ne.seq ?_
  refine Ce.cond_true rfl ?_
  refine Ce.seq ?_
  refine Ce.region ?_
  refine Ie.p rfl rfl rfl rfl ?_
  refine Ie.p rfl rfl rfl rfl ?_
  refine Ie.p rfl rfl rfl rfl ?_
  refine Ie.splitB 48 rfl (fun hs0 => ?_) (fun hs0 => ?_)
  · refine Ie.p rfl rfl rfl rfl ?_
    refine Ie.p rfl rfl rfl rfl ?_
    refine Ie.p rfl rfl rfl rfl ?_
    refine Ie.p rfl rfl rfl rfl ?_
    refine Ie.nil ?_
    refine Ne.seq ?_
    refine Ce.ret ?_
    refine Re.blk ?_
    refine Re.seq ?_
    exact Re.end_ rfl rfl (fun m hm => ⟨by first | rfl | (rw [hs0]; rfl), hm.ext⟩)
  · refine Ie.off rfl rfl rfl ?_
    refine Ie.off rfl rfl rfl ?_
    refine Ie.p rfl rfl rfl rfl ?_
    refine Ie.p rfl rfl rfl rfl ?_
    refine Ie.nil ?_
    refine Ne.seq ?_
    refine Ce.ret ?_
    refine Re.blk ?_
    refine Re.seq ?_
    exact Re.end_ rfl rfl (fun m hm => ⟨by first | rfl | (rw [hs0]; rfl), hm.ext⟩)

theorem RCompare_nan1_10 {a b : Int} {m : AW} (hm : m.lo ≤ m.next) (ha : Fit .i64 a) (hb : Fit .i64 b) (h1 : w4 a = 9221120237041090561) : Fc Tryz.prog 31 [.int .i64 4, .int .i64 10, .int .i64 a, .int .i64 b] m fun v m' => v = .bool false ∧ Ext m m' := by
  refine Fc.body (c := _) Tryz.func31 rfl rfl rfl rfl hm ?_
  refine Ce.seq ?_
  refine Ce.region ?_
  refine Ie.p rfl rfl rfl rfl ?_
  refine Ie.nil ?_
  refine Ne.seq ?_
  refine Ce.seq ?_
  refine Ce.region ?_
  refine Ie.p rfl rfl rfl rfl ?_
  refine Ie.p rfl rfl rfl rfl ?_
  refine Ie.call _ rfl rfl rfl rfl rfl rfl (fun m hm => RWrap_real hm.lole ha) ?_
  refine Ie.p rfl rfl rfl rfl ?_
  refine Ie.p rfl rfl rfl rfl ?_
  refine Ie.call _ rfl rfl rfl rfl rfl rfl (fun m hm => RWrap_real hm.lole hb) ?_
  refine Ie.p rfl rfl rfl rfl ?_
  refine Ie.p rfl rfl rfl rfl ?_
  refine Ie.nil ?_
  refine Ne.seq ?_
  refine Ce.seq ?_
  refine Ce.region ?_
  refine Ie.p rfl rfl rfl rfl ?_
  refine Ie.p rfl rfl rfl rfl ?_
  refine Ie.p rfl rfl rfl rfl ?_
  refine Ie.p rfl rfl rfl rfl ?_
  refine Ie.p rfl rfl rfl rfl ?_
  refine Ie.p rfl rfl rfl rfl ?_
  refine Ie.p rfl rfl rfl rfl ?_
  refine Ie.p rfl rfl rfl rfl ?_
  refine Ie.nil ?_
  refine Ne.seq ?_
  refine Ce.seq ?_
  refine Ce.seq ?_
  refine Ce.region ?_
  refine Ie.p rfl rfl rfl rfl ?_
  refine Ie.p rfl rfl rfl rfl ?_
  refine Ie.nil ?_
  refine Ne.seq ?_
  refine Ce.cond_true rfl ?_
  refine Ce.seq ?_
  refine Ce.seq ?_
  refine Ce.region ?_
  refine Ie.p rfl rfl rfl rfl ?_
  refine Ie.bin (v := .bool true) rfl rfl rfl rfl rfl rfl (binS_eql (h1)) ?_
  refine Ie.p rfl rfl rfl rfl ?_
  refine Ie.off rfl rfl rfl ?_
  refine Ie.off rfl rfl rfl ?_
  refine Ie.p rfl rfl rfl rfl ?_
  refine Ie.nil ?_
  refine Ne.seq ?_
  refine Ce.cond_true rfl ?_
  refine Ce.seq ?_
  refine Ce.region ?_
  refine Ie.p rfl rfl rfl rfl ?_
  refine Ie.p rfl rfl rfl rfl ?_
  refine Ie.p rfl rfl rfl rfl ?_
  refine Ie.nil ?_
  refine Ne.seq ?_
  refine Ce.ret ?_
  refine Re.seq ?_
  refine Re.seq ?_
  exact Re.end_ rfl rfl (fun m hm => ⟨rfl, hm.ext⟩)

theorem RCompare_nan2_10 {a b : Int} {m : AW} (hm : m.lo ≤ m.next) (ha : Fit .i64 a) (hb : Fit .i64 b) (h1 : w4 a ≠ 9221120237041090561) (h2 : w4 b = 9221120237041090561) : Fc Tryz.prog 31 [.int .i64 4, .int .i64 10, .int .i64 a, .int .i64 b] m fun v m' => v = .bool false ∧ Ext m m' := by
  refine Fc.body (c := _) Tryz.func31 rfl rfl rfl rfl hm ?_
  refine Ce.seq ?_
  refine Ce.region ?_
  refine Ie.p rfl rfl rfl rfl ?_
  refine Ie.nil ?_
  refine Ne.seq ?_
  refine Ce.seq ?_
  refine Ce.region ?_
  refine Ie.p rfl rfl rfl rfl ?_
  refine Ie.p rfl rfl rfl rfl ?_
  refine Ie.call _ rfl rfl rfl rfl rfl rfl (fun m hm => RWrap_real hm.lole ha) ?_
  refine Ie.p rfl rfl rfl rfl ?_
  refine Ie.p rfl rfl rfl rfl ?_
  refine Ie.call _ rfl rfl rfl rfl rfl rfl (fun m hm => RWrap_real hm.lole hb) ?_
  refine Ie.p rfl rfl rfl rfl ?_
  refine Ie.p rfl rfl rfl rfl ?_
  refine Ie.nil ?_
  refine Ne.seq ?_
  refine Ce.seq ?_
  refine Ce.region ?_
  refine Ie.p rfl rfl rfl rfl ?_
  refine Ie.p rfl rfl rfl rfl ?_
  refine Ie.p rfl rfl rfl rfl ?_
  refine Ie.p rfl rfl rfl rfl ?_
  refine Ie.p rfl rfl rfl rfl ?_
  refine Ie.p rfl rfl rfl rfl ?_
  refine Ie.p rfl rfl rfl rfl ?_
  refine Ie.p rfl rfl rfl rfl ?_
  refine Ie.nil ?_
  refine Ne.seq ?_
  refine Ce.seq ?_
  refine Ce.seq ?_
  refine Ce.region ?_
  refine Ie.p rfl rfl rfl rfl ?_
  refine Ie.p rfl rfl rfl rfl ?_
  refine Ie.nil ?_
  refine Ne.seq ?_
  refine Ce.cond_true rfl ?_
  refine Ce.seq ?_
  refine Ce.seq ?_
  refine Ce.region ?_
  refine Ie.p rfl rfl rfl rfl ?_
  refine Ie.bin (v := .bool false) rfl rfl rfl rfl rfl rfl (binS_neql h1) ?_
  refine Ie.p rfl rfl rfl rfl ?_
  refine Ie.p rfl rfl rfl rfl ?_
  refine Ie.bin (v := .bool true) rfl rfl rfl rfl rfl rfl (binS_eql (h2)) ?_
  refine Ie.p rfl rfl rfl rfl ?_
  refine Ie.nil ?_
  refine Ne.seq ?_
  refine Ce.cond_true rfl ?_
  refine Ce.seq ?_
  refine Ce.region ?_
  refine Ie.p rfl rfl rfl rfl ?_
  refine Ie.p rfl rfl rfl rfl ?_
  refine Ie.p rfl rfl rfl rfl ?_
  refine Ie.nil ?_
  refine Ne.seq ?_
  refine Ce.ret ?_
  refine Re.seq ?_
  refine Re.seq ?_
  exact Re.end_ rfl rfl (fun m hm => ⟨rfl, hm.ext⟩)

theorem Compare_real_11 {a b : Int} {m : AW} (hm : m.lo ≤ m.next) (ha : Fit .i64 a) (hb : Fit .i64 b) : Fc Tryz.prog 29 [.int .i64 4, .int .i64 11, .int .i64 a, .int .i64 b] m fun v m' => v = .tuple ⟨[.bool ((!(FloatKind.f64.format.order (flb (w4 a)) (flb (w4 b)) == some .eq))), .int .i64 0]⟩ ∧ Ext m m' := by
  refine Fc.body (c := _) Tryz.func29 rfl rfl rfl rfl hm ?_
  refine Ce.seq ?_
  refine Ce.region ?_
  refine Ie.p rfl rfl rfl rfl ?_
  refine Ie.p rfl rfl rfl rfl ?_
  refine Ie.nil ?_
  refine Ne.seq ?_
  refine Ce.seq ?_
  refine Ce.region ?_
  refine Ie.p rfl rfl rfl rfl ?_
  refine Ie.call _ rfl rfl rfl rfl rfl rfl (fun m hm => of_real hm.lole) ?_
  refine Ie.p rfl rfl rfl rfl ?_
  refine Ie.p rfl rfl rfl rfl ?_
  refine Ie.p rfl rfl rfl rfl ?_
  refine Ie.alloc rfl rfl rfl rfl zr59 (fun b10 hb10 => ?_)
  refine Ie.store rfl rfl rfl rfl rfl sz59 rfl (by first | exact .head | exact .tail .head | exact .tail (.tail .head) | exact .tail (.tail (.tail .head))) rfl ?_
  refine Ie.p rfl rfl rfl rfl ?_
  refine Ie.nil ?_
  refine Ne.seq ?_
  refine Ce.seq ?_
  refine Ce.seq ?_
  refine Ce.region ?_
  refine Ie.p rfl rfl rfl rfl ?_
  refine Ie.p rfl rfl rfl rfl ?_
  refine Ie.nil ?_
  refine Ne.seq ?_
  refine Ce.cond_false rfl ?_
  refine Ce.skip ?_
  refine Ne.seq ?_
  refine Ce.seq ?_
  refine Ce.draw [⟨0, .p, true, true, 0⟩, ⟨1, .l, true, true, 1⟩, ⟨2, .p, true, true, 0⟩, ⟨3, .h, true, true, 7⟩, ⟨4, .p, false, false, 0⟩, ⟨5, .l, false, false, 16⟩, ⟨6, .p, false, false, 0⟩, ⟨7, .h, true, true, 127⟩, ⟨8, .p, true, true, 255⟩, ⟨9, .p, true, true, 511⟩] (by kernel_rfl) (by kernel_rfl) (fun base hbase hB => ?_)
  refine De.fieldAddr rfl rfl rfl rfl rfl rfl fa59_0 ?_
  refine De.load rfl rfl rfl rfl rfl rfl rfl rfl ag54 (by first | exact .head | exact .tail .head | exact .tail (.tail .head) | exact .tail (.tail (.tail .head)) | exact .base ‹_› ‹_› (by simp)) rfl ?_
  refine De.p rfl rfl rfl rfl rfl ?_
  refine De.call _ rfl rfl rfl rfl rfl rfl rfl rfl rfl (fun m hm => clr_1 hm.lole ha) ?_
  refine De.fieldAddr rfl rfl rfl rfl rfl rfl fa59_0 ?_
  refine De.loadOld rfl rfl rfl rfl rfl rfl ag54 (by first | exact .head | exact .tail .head | exact .tail (.tail .head) | exact .tail (.tail (.tail .head)) | exact .base ‹_› ‹_› (by simp)) rfl (by first | exact hB _ _ (.head _) | exact hB _ _ (.tail _ (.head _)) | exact hB _ _ (.tail _ (.tail _ (.head _))) | exact hB _ _ (.tail _ (.tail _ (.tail _ (.head _)))) | exact Nat.lt_of_lt_of_le ‹_› hbase) (fun _ => ?_)
  refine De.p rfl rfl rfl rfl rfl ?_
  refine De.call _ rfl rfl rfl rfl rfl rfl rfl rfl rfl (fun m hm => clr_1 hm.lole hb) ?_
  refine De.p rfl rfl rfl rfl rfl ?_
  refine De.p rfl rfl rfl rfl rfl ?_
  refine De.nil ?_
  refine Ne.seq ?_
  refine Ce.seq ?_
  refine Ce.seq ?_
  refine Ce.region ?_
  refine Ie.p rfl rfl rfl rfl ?_
  refine Ie.nil ?_
  refine Ne.seq ?_
  refine Ce.block ?_
  refine Ce.seq ?_
  refine Ce.region ?_
  refine Ie.p rfl rfl rfl rfl ?_
  refine Ie.p rfl rfl rfl rfl ?_
  refine Ie.nil ?_
  refine Ne.seq ?_
  refine Ce.cond_false rfl ?_
  refine Ce.seq ?_
  refine Ce.region ?_
  refine Ie.p rfl rfl rfl rfl ?_
  refine Ie.p rfl rfl rfl rfl ?_
  refine Ie.nil ?_
  refine Ne.seq ?_
  refine Ce.cond_true rfl ?_
  refine Ce.seq ?_
  refine Ce.region ?_
  refine Ie.fieldAddr rfl rfl rfl rfl rfl fa59_7 ?_
  refine Ie.load rfl rfl rfl rfl rfl ag57 (by first | exact .head | exact .tail .head | exact .tail (.tail .head) | exact .tail (.tail (.tail .head)) | exact .base ‹_› ‹_› (by simp)) rfl ?_
  refine Ie.p rfl rfl rfl rfl ?_
  refine Ie.p rfl rfl rfl rfl ?_
  refine Ie.call _ rfl rfl rfl rfl rfl rfl (fun m hm => clr_same hm.lole) ?_
  refine Ie.p rfl rfl rfl rfl ?_
  refine Ie.p rfl rfl rfl rfl ?_
  refine Ie.p rfl rfl rfl rfl ?_
  refine Ie.nil ?_
  refine Ne.seq ?_
  refine Ce.ret ?_
  refine Re.blk ?_
  refine Re.seq ?_
  exact Re.end_ rfl rfl (fun m hm => ⟨rfl, hm.ext⟩)

theorem RCompare_real_11 {a b : Int} {m : AW} (hm : m.lo ≤ m.next) (ha : Fit .i64 a) (hb : Fit .i64 b) (h1 : w4 a ≠ 9221120237041090561) (h2 : w4 b ≠ 9221120237041090561) : Fc Tryz.prog 31 [.int .i64 4, .int .i64 11, .int .i64 a, .int .i64 b] m fun v m' => v = .bool (((FloatKind.f64.format.order (flb (w4 a)) (flb (w4 b)) == some .lt) || (FloatKind.f64.format.order (flb (w4 a)) (flb (w4 b)) == some .gt))) ∧ Ext m m' := by
  refine Fc.body (c := _) Tryz.func31 rfl rfl rfl rfl hm ?_
  refine Ce.seq ?_
  refine Ce.region ?_
  refine Ie.p rfl rfl rfl rfl ?_
  refine Ie.nil ?_
  refine Ne.seq ?_
  refine Ce.seq ?_
  refine Ce.region ?_
  refine Ie.p rfl rfl rfl rfl ?_
  refine Ie.p rfl rfl rfl rfl ?_
  refine Ie.call _ rfl rfl rfl rfl rfl rfl (fun m hm => RWrap_real hm.lole ha) ?_
  refine Ie.p rfl rfl rfl rfl ?_
  refine Ie.p rfl rfl rfl rfl ?_
  refine Ie.call _ rfl rfl rfl rfl rfl rfl (fun m hm => RWrap_real hm.lole hb) ?_
  refine Ie.p rfl rfl rfl rfl ?_
  refine Ie.p rfl rfl rfl rfl ?_
  refine Ie.nil ?_
  refine Ne.seq ?_
  refine Ce.seq ?_
  refine Ce.region ?_
  refine Ie.p rfl rfl rfl rfl ?_
  refine Ie.p rfl rfl rfl rfl ?_
  refine Ie.p rfl rfl rfl rfl ?_
  refine Ie.p rfl rfl rfl rfl ?_
  refine Ie.p rfl rfl rfl rfl ?_
  refine Ie.p rfl rfl rfl rfl ?_
  refine Ie.p rfl rfl rfl rfl ?_
  refine Ie.p rfl rfl rfl rfl ?_
  refine Ie.nil ?_
  refine Ne.seq ?_
  refine Ce.seq ?_
  refine Ce.seq ?_
  refine Ce.region ?_
  refine Ie.p rfl rfl rfl rfl ?_
  refine Ie.p rfl rfl rfl rfl ?_
  refine Ie.nil ?_
  refine Ne.seq ?_
  refine Ce.cond_true rfl ?_
  refine Ce.seq ?_
  refine Ce.seq ?_
  refine Ce.region ?_
  refine Ie.p rfl rfl rfl rfl ?_
  refine Ie.bin (v := .bool false) rfl rfl rfl rfl rfl rfl (binS_neql h1) ?_
  refine Ie.p rfl rfl rfl rfl ?_
  refine Ie.p rfl rfl rfl rfl ?_
  refine Ie.bin (v := .bool false) rfl rfl rfl rfl rfl rfl (binS_neql h2) ?_
  refine Ie.p rfl rfl rfl rfl ?_
  refine Ie.nil ?_
  refine Ne.seq ?_
  refine Ce.cond_false rfl ?_
  refine Ce.skip ?_
  refine Ne.seq ?_
  refine Ce.region ?_
  refine Ie.p rfl rfl rfl rfl ?_
  refine Ie.call _ rfl rfl rfl rfl rfl rfl (fun m hm => value_ok hm.lole) ?_
  refine Ie.p rfl rfl rfl rfl ?_
  refine Ie.call _ rfl rfl rfl rfl rfl rfl (fun m hm => value_ok hm.lole) ?_
  refine Ie.p rfl rfl rfl rfl ?_
  refine Ie.p rfl rfl rfl rfl ?_
  refine Ie.call _ rfl rfl rfl rfl rfl rfl (fun m hm => value_ok hm.lole) ?_
  refine Ie.p rfl rfl rfl rfl ?_
  refine Ie.call _ rfl rfl rfl rfl rfl rfl (fun m hm => value_ok hm.lole) ?_
  refine Ie.p rfl rfl rfl rfl ?_
  refine Ie.p rfl rfl rfl rfl ?_
  refine Ie.p rfl rfl rfl rfl ?_
  refine Ie.nil ?_
  refine Ne.seq ?_
  refine Ce.seq ?_
  refine Ce.seq ?_
  refine Ce.region ?_
  refine Ie.p rfl rfl rfl rfl ?_
  refine Ie.nil ?_
  refine Ne.seq ?_
  refine Ce.block ?_
  refine Ce.seq ?_
  refine Ce.region ?_
  refine Ie.p rfl rfl rfl rfl ?_
  refine Ie.p rfl rfl rfl rfl ?_
  refine Ie.nil ?_
  refine Ne.seq ?_
  refine Ce.cond_false rfl ?_
  refine Ce.seq ?_
  refine Ce.region ?_
  refine Ie.p rfl rfl rfl rfl ?_
  refine Ie.p rfl rfl rfl rfl ?_
  refine Ie.nil ?_
  refine Ne.seq ?_
  refine Ce.cond_true rfl ?_
  refine Ce.seq ?_
  refine Ce.region ?_
  refine Ie.p rfl rfl rfl rfl ?_
  refine Ie.p rfl rfl rfl rfl ?_
  refine Ie.splitB 55 rfl (fun hs0 => ?_) (fun hs0 => ?_)
  · refine Ie.off rfl rfl rfl ?_
    refine Ie.p rfl rfl rfl rfl ?_
    refine Ie.p rfl rfl rfl rfl ?_
    refine Ie.nil ?_
    refine Ne.seq ?_
    refine Ce.ret ?_
    refine Re.blk ?_
    refine Re.seq ?_
    exact Re.end_ rfl rfl (fun m hm => ⟨by first | rfl | (rw [hs0]; rfl), hm.ext⟩)
  · refine Ie.p rfl rfl rfl rfl ?_
    refine Ie.p rfl rfl rfl rfl ?_
    refine Ie.p rfl rfl rfl rfl ?_
    refine Ie.nil ?_
    refine Ne.seq ?_
    refine Ce.ret ?_
    refine Re.blk ?_
    refine Re.seq ?_
    exact Re.end_ rfl rfl (fun m hm => ⟨by first | rfl | (rw [hs0]; rfl), hm.ext⟩)

theorem RCompare_nan1_11 {a b : Int} {m : AW} (hm : m.lo ≤ m.next) (ha : Fit .i64 a) (hb : Fit .i64 b) (h1 : w4 a = 9221120237041090561) : Fc Tryz.prog 31 [.int .i64 4, .int .i64 11, .int .i64 a, .int .i64 b] m fun v m' => v = .bool true ∧ Ext m m' := by
  refine Fc.body (c := _) Tryz.func31 rfl rfl rfl rfl hm ?_
  refine Ce.seq ?_
  refine Ce.region ?_
  refine Ie.p rfl rfl rfl rfl ?_
  refine Ie.nil ?_
  refine Ne.seq ?_
  refine Ce.seq ?_
  refine Ce.region ?_
  refine Ie.p rfl rfl rfl rfl ?_
  refine Ie.p rfl rfl rfl rfl ?_
  refine Ie.call _ rfl rfl rfl rfl rfl rfl (fun m hm => RWrap_real hm.lole ha) ?_
  refine Ie.p rfl rfl rfl rfl ?_
  refine Ie.p rfl rfl rfl rfl ?_
  refine Ie.call _ rfl rfl rfl rfl rfl rfl (fun m hm => RWrap_real hm.lole hb) ?_
  refine Ie.p rfl rfl rfl rfl ?_
  refine Ie.p rfl rfl rfl rfl ?_
  refine Ie.nil ?_
  refine Ne.seq ?_
  refine Ce.seq ?_
  refine Ce.region ?_
  refine Ie.p rfl rfl rfl rfl ?_
  refine Ie.p rfl rfl rfl rfl ?_
  refine Ie.p rfl rfl rfl rfl ?_
  refine Ie.p rfl rfl rfl rfl ?_
  refine Ie.p rfl rfl rfl rfl ?_
  refine Ie.p rfl rfl rfl rfl ?_
  refine Ie.p rfl rfl rfl rfl ?_
  refine Ie.p rfl rfl rfl rfl ?_
  refine Ie.nil ?_
  refine Ne.seq ?_
  refine Ce.seq ?_
  refine Ce.seq ?_
  refine Ce.region ?_
  refine Ie.p rfl rfl rfl rfl ?_
  refine Ie.p rfl rfl rfl rfl ?_
  refine Ie.nil ?_
  refine Ne.seq ?_
  refine Ce.cond_true rfl ?_
  refine Ce.seq ?_
  refine Ce.seq ?_
  refine Ce.region ?_
  refine Ie.p rfl rfl rfl rfl ?_
  refine Ie.bin (v := .bool true) rfl rfl rfl rfl rfl rfl (binS_eql (h1)) ?_
  refine Ie.p rfl rfl rfl rfl ?_
  refine Ie.off rfl rfl rfl ?_
  refine Ie.off rfl rfl rfl ?_
  refine Ie.p rfl rfl rfl rfl ?_
  refine Ie.nil ?_
  refine Ne.seq ?_
  refine Ce.cond_true rfl ?_
  refine Ce.seq ?_
  refine Ce.region ?_
  refine Ie.p rfl rfl rfl rfl ?_
  refine Ie.p rfl rfl rfl rfl ?_
  refine Ie.p rfl rfl rfl rfl ?_
  refine Ie.nil ?_
  refine Ne.seq ?_
  refine Ce.ret ?_
  refine Re.seq ?_
  refine Re.seq ?_
  exact Re.end_ rfl rfl (fun m hm => ⟨rfl, hm.ext⟩)

theorem RCompare_nan2_11 {a b : Int} {m : AW} (hm : m.lo ≤ m.next) (ha : Fit .i64 a) (hb : Fit .i64 b) (h1 : w4 a ≠ 9221120237041090561) (h2 : w4 b = 9221120237041090561) : Fc Tryz.prog 31 [.int .i64 4, .int .i64 11, .int .i64 a, .int .i64 b] m fun v m' => v = .bool true ∧ Ext m m' := by
  refine Fc.body (c := _) Tryz.func31 rfl rfl rfl rfl hm ?_
  refine Ce.seq ?_
  refine Ce.region ?_
  refine Ie.p rfl rfl rfl rfl ?_
  refine Ie.nil ?_
  refine Ne.seq ?_
  refine Ce.seq ?_
  refine Ce.region ?_
  refine Ie.p rfl rfl rfl rfl ?_
  refine Ie.p rfl rfl rfl rfl ?_
  refine Ie.call _ rfl rfl rfl rfl rfl rfl (fun m hm => RWrap_real hm.lole ha) ?_
  refine Ie.p rfl rfl rfl rfl ?_
  refine Ie.p rfl rfl rfl rfl ?_
  refine Ie.call _ rfl rfl rfl rfl rfl rfl (fun m hm => RWrap_real hm.lole hb) ?_
  refine Ie.p rfl rfl rfl rfl ?_
  refine Ie.p rfl rfl rfl rfl ?_
  refine Ie.nil ?_
  refine Ne.seq ?_
  refine Ce.seq ?_
  refine Ce.region ?_
  refine Ie.p rfl rfl rfl rfl ?_
  refine Ie.p rfl rfl rfl rfl ?_
  refine Ie.p rfl rfl rfl rfl ?_
  refine Ie.p rfl rfl rfl rfl ?_
  refine Ie.p rfl rfl rfl rfl ?_
  refine Ie.p rfl rfl rfl rfl ?_
  refine Ie.p rfl rfl rfl rfl ?_
  refine Ie.p rfl rfl rfl rfl ?_
  refine Ie.nil ?_
  refine Ne.seq ?_
  refine Ce.seq ?_
  refine Ce.seq ?_
  refine Ce.region ?_
  refine Ie.p rfl rfl rfl rfl ?_
  refine Ie.p rfl rfl rfl rfl ?_
  refine Ie.nil ?_
  refine Ne.seq ?_
  refine Ce.cond_true rfl ?_
  refine Ce.seq ?_
  refine Ce.seq ?_
  refine Ce.region ?_
  refine Ie.p rfl rfl rfl rfl ?_
  refine Ie.bin (v := .bool false) rfl rfl rfl rfl rfl rfl (binS_neql h1) ?_
  refine Ie.p rfl rfl rfl rfl ?_
  refine Ie.p rfl rfl rfl rfl ?_
  refine Ie.bin (v := .bool true) rfl rfl rfl rfl rfl rfl (binS_eql (h2)) ?_
  refine Ie.p rfl rfl rfl rfl ?_
  refine Ie.nil ?_
  refine Ne.seq ?_
  refine Ce.cond_true rfl ?_
  refine Ce.seq ?_
  refine Ce.region ?_
  refine Ie.p rfl rfl rfl rfl ?_
  refine Ie.p rfl rfl rfl rfl ?_
  refine Ie.p rfl rfl rfl rfl ?_
  refine Ie.nil ?_
  refine Ne.seq ?_
  refine Ce.ret ?_
  refine Re.seq ?_
  refine Re.seq ?_
  exact Re.end_ rfl rfl (fun m hm => ⟨rfl, hm.ext⟩)

theorem Compare_real_12 {a b : Int} {m : AW} (hm : m.lo ≤ m.next) (ha : Fit .i64 a) (hb : Fit .i64 b) : Fc Tryz.prog 29 [.int .i64 4, .int .i64 12, .int .i64 a, .int .i64 b] m fun v m' => v = .tuple ⟨[.bool ((FloatKind.f64.format.order (flb (w4 a)) (flb (w4 b)) == some .lt)), .int .i64 0]⟩ ∧ Ext m m' := by
  refine Fc.body (c := _) Tryz.func29 rfl rfl rfl rfl hm ?_
  refine Ce.seq ?_
  refine Ce.region ?_
  refine Ie.p rfl rfl rfl rfl ?_
  refine Ie.p rfl rfl rfl rfl ?_
  refine Ie.nil ?_
  refine Ne.seq ?_
  refine Ce.seq ?_
  refine Ce.region ?_
  refine Ie.p rfl rfl rfl rfl ?_
  refine Ie.call _ rfl rfl rfl rfl rfl rfl (fun m hm => of_real hm.lole) ?_
  refine Ie.p rfl rfl rfl rfl ?_
  refine Ie.p rfl rfl rfl rfl ?_
  refine Ie.p rfl rfl rfl rfl ?_
  refine Ie.alloc rfl rfl rfl rfl zr59 (fun b10 hb10 => ?_)
  refine Ie.store rfl rfl rfl rfl rfl sz59 rfl (by first | exact .head | exact .tail .head | exact .tail (.tail .head) | exact .tail (.tail (.tail .head))) rfl ?_
  refine Ie.p rfl rfl rfl rfl ?_
  refine Ie.nil ?_
  refine Ne.seq ?_
  refine Ce.seq ?_
  refine Ce.seq ?_
  refine Ce.region ?_
  refine Ie.p rfl rfl rfl rfl ?_
  refine Ie.p rfl rfl rfl rfl ?_
  refine Ie.nil ?_
  refine Ne.seq ?_
  refine Ce.cond_false rfl ?_
  refine Ce.skip ?_
  refine Ne.seq ?_
  refine Ce.seq ?_
  refine Ce.draw [⟨0, .p, true, true, 0⟩, ⟨1, .l, true, true, 1⟩, ⟨2, .p, true, true, 0⟩, ⟨3, .h, true, true, 7⟩, ⟨4, .p, false, false, 0⟩, ⟨5, .l, false, false, 16⟩, ⟨6, .p, false, false, 0⟩, ⟨7, .h, true, true, 127⟩, ⟨8, .p, true, true, 255⟩, ⟨9, .p, true, true, 511⟩] (by kernel_rfl) (by kernel_rfl) (fun base hbase hB => ?_)
  refine De.fieldAddr rfl rfl rfl rfl rfl rfl fa59_0 ?_
  refine De.load rfl rfl rfl rfl rfl rfl rfl rfl ag54 (by first | exact .head | exact .tail .head | exact .tail (.tail .head) | exact .tail (.tail (.tail .head)) | exact .base ‹_› ‹_› (by simp)) rfl ?_
  refine De.p rfl rfl rfl rfl rfl ?_
  refine De.call _ rfl rfl rfl rfl rfl rfl rfl rfl rfl (fun m hm => clr_1 hm.lole ha) ?_
  refine De.fieldAddr rfl rfl rfl rfl rfl rfl fa59_0 ?_
  refine De.loadOld rfl rfl rfl rfl rfl rfl ag54 (by first | exact .head | exact .tail .head | exact .tail (.tail .head) | exact .tail (.tail (.tail .head)) | exact .base ‹_› ‹_› (by simp)) rfl (by first | exact hB _ _ (.head _) | exact hB _ _ (.tail _ (.head _)) | exact hB _ _ (.tail _ (.tail _ (.head _))) | exact hB _ _ (.tail _ (.tail _ (.tail _ (.head _)))) | exact Nat.lt_of_lt_of_le ‹_› hbase) (fun _ => ?_)
  refine De.p rfl rfl rfl rfl rfl ?_
  refine De.call _ rfl rfl rfl rfl rfl rfl rfl rfl rfl (fun m hm => clr_1 hm.lole hb) ?_
  refine De.p rfl rfl rfl rfl rfl ?_
  refine De.p rfl rfl rfl rfl rfl ?_
  refine De.nil ?_
  refine Ne.seq ?_
  refine Ce.seq ?_
  refine Ce.seq ?_
  refine Ce.region ?_
  refine Ie.p rfl rfl rfl rfl ?_
  refine Ie.nil ?_
  refine Ne.seq ?_
  refine Ce.block ?_
  refine Ce.seq ?_
  refine Ce.region ?_
  refine Ie.p rfl rfl rfl rfl ?_
  refine Ie.p rfl rfl rfl rfl ?_
  refine Ie.nil ?_
  refine Ne.seq ?_
  refine Ce.cond_false rfl ?_
  refine Ce.seq ?_
  refine Ce.region ?_
  refine Ie.p rfl rfl rfl rfl ?_
  refine Ie.p rfl rfl rfl rfl ?_
  refine Ie.nil ?_
  refine Ne.seq ?_
  refine Ce.cond_false rfl ?_
  refine Ce.seq ?_
  refine Ce.region ?_
  refine Ie.p rfl rfl rfl rfl ?_
  refine Ie.p rfl rfl rfl rfl ?_
  refine Ie.nil ?_
  refine Ne.seq ?_
  refine Ce.cond_true rfl ?_
  refine Ce.seq ?_
  refine Ce.region ?_
  refine Ie.fieldAddr rfl rfl rfl rfl rfl fa59_6 ?_
  refine Ie.load rfl rfl rfl rfl rfl ag57 (by first | exact .head | exact .tail .head | exact .tail (.tail .head) | exact .tail (.tail (.tail .head)) | exact .base ‹_› ‹_› (by simp)) rfl ?_
  refine Ie.p rfl rfl rfl rfl ?_
  refine Ie.p rfl rfl rfl rfl ?_
  refine Ie.call _ rfl rfl rfl rfl rfl rfl (fun m hm => clr_less hm.lole) ?_
  refine Ie.p rfl rfl rfl rfl ?_
  refine Ie.p rfl rfl rfl rfl ?_
  refine Ie.nil ?_
  refine Ne.seq ?_
  refine Ce.ret ?_
  refine Re.blk ?_
  refine Re.seq ?_
  exact Re.end_ rfl rfl (fun m hm => ⟨rfl, hm.ext⟩)

theorem RCompare_real_12 {a b : Int} {m : AW} (hm : m.lo ≤ m.next) (ha : Fit .i64 a) (hb : Fit .i64 b) (h1 : w4 a ≠ 9221120237041090561) (h2 : w4 b ≠ 9221120237041090561) : Fc Tryz.prog 31 [.int .i64 4, .int .i64 12, .int .i64 a, .int .i64 b] m fun v m' => v = .bool ((FloatKind.f64.format.order (flb (w4 a)) (flb (w4 b)) == some .lt)) ∧ Ext m m' := by
  refine Fc.body (c := _) Tryz.func31 rfl rfl rfl rfl hm ?_
  refine Ce.seq ?_
  refine Ce.region ?_
  refine Ie.p rfl rfl rfl rfl ?_
  refine Ie.nil ?_
  refine Ne.seq ?_
  refine Ce.seq ?_
  refine Ce.region ?_
  refine Ie.p rfl rfl rfl rfl ?_
  refine Ie.p rfl rfl rfl rfl ?_
  refine Ie.call _ rfl rfl rfl rfl rfl rfl (fun m hm => RWrap_real hm.lole ha) ?_
  refine Ie.p rfl rfl rfl rfl ?_
  refine Ie.p rfl rfl rfl rfl ?_
  refine Ie.call _ rfl rfl rfl rfl rfl rfl (fun m hm => RWrap_real hm.lole hb) ?_
  refine Ie.p rfl rfl rfl rfl ?_
  refine Ie.p rfl rfl rfl rfl ?_
  refine Ie.nil ?_
  refine Ne.seq ?_
  refine Ce.seq ?_
  refine Ce.region ?_
  refine Ie.p rfl rfl rfl rfl ?_
  refine Ie.p rfl rfl rfl rfl ?_
  refine Ie.p rfl rfl rfl rfl ?_
  refine Ie.p rfl rfl rfl rfl ?_
  refine Ie.p rfl rfl rfl rfl ?_
  refine Ie.p rfl rfl rfl rfl ?_
  refine Ie.p rfl rfl rfl rfl ?_
  refine Ie.p rfl rfl rfl rfl ?_
  refine Ie.nil ?_
  refine Ne.seq ?_
  refine Ce.seq ?_
  refine Ce.seq ?_
  refine Ce.region ?_
  refine Ie.p rfl rfl rfl rfl ?_
  refine Ie.p rfl rfl rfl rfl ?_
  refine Ie.nil ?_
  refine Ne.seq ?_
  refine Ce.cond_true rfl ?_
  refine Ce.seq ?_
  refine Ce.seq ?_
  refine Ce.region ?_
  refine Ie.p rfl rfl rfl rfl ?_
  refine Ie.bin (v := .bool false) rfl rfl rfl rfl rfl rfl (binS_neql h1) ?_
  refine Ie.p rfl rfl rfl rfl ?_
  refine Ie.p rfl rfl rfl rfl ?_
  refine Ie.bin (v := .bool false) rfl rfl rfl rfl rfl rfl (binS_neql h2) ?_
  refine Ie.p rfl rfl rfl rfl ?_
  refine Ie.nil ?_
  refine Ne.seq ?_
  refine Ce.cond_false rfl ?_
  refine Ce.skip ?_
  refine Ne.seq ?_
  refine Ce.region ?_
  refine Ie.p rfl rfl rfl rfl ?_
  refine Ie.call _ rfl rfl rfl rfl rfl rfl (fun m hm => value_ok hm.lole) ?_
  refine Ie.p rfl rfl rfl rfl ?_
  refine Ie.call _ rfl rfl rfl rfl rfl rfl (fun m hm => value_ok hm.lole) ?_
  refine Ie.p rfl rfl rfl rfl ?_
  refine Ie.p rfl rfl rfl rfl ?_
  refine Ie.call _ rfl rfl rfl rfl rfl rfl (fun m hm => value_ok hm.lole) ?_
  refine Ie.p rfl rfl rfl rfl ?_
  refine Ie.call _ rfl rfl rfl rfl rfl rfl (fun m hm => value_ok hm.lole) ?_
  refine Ie.p rfl rfl rfl rfl ?_
  refine Ie.p rfl rfl rfl rfl ?_
  refine Ie.p rfl rfl rfl rfl ?_
  refine Ie.nil ?_
  refine Ne.seq ?_
  refine Ce.seq ?_
  refine Ce.seq ?_
  refine Ce.region ?_
  refine Ie.p rfl rfl rfl rfl ?_
  refine Ie.nil ?_
  refine Ne.seq ?_
  refine Ce.block ?_
  refine Ce.seq ?_
  refine Ce.region ?_
  refine Ie.p rfl rfl rfl rfl ?_
  refine Ie.p rfl rfl rfl rfl ?_
  refine Ie.nil ?_
  refine Ne.seq ?_
  refine Ce.cond_false rfl ?_
  refine Ce.seq ?_
  refine Ce.region ?_
  refine Ie.p rfl rfl rfl rfl ?_
  refine Ie.p rfl rfl rfl rfl ?_
  refine Ie.nil ?_
  refine Ne.seq ?_
  refine Ce.cond_false rfl ?_
  refine Ce.seq ?_
  refine Ce.region ?_
  refine Ie.p rfl rfl rfl rfl ?_
  refine Ie.p rfl rfl rfl rfl ?_
  refine Ie.nil ?_
  refine Ne.seq ?_
  refine Ce.cond_true rfl ?_
  refine Ce.seq ?_
  refine Ce.region ?_
  refine Ie.p rfl rfl rfl rfl ?_
  refine Ie.p rfl rfl rfl rfl ?_
  refine Ie.nil ?_
  refine Ne.seq ?_
  refine Ce.ret ?_
  refine Re.blk ?_
  refine Re.seq ?_
  exact Re.end_ rfl rfl (fun m hm => ⟨rfl, hm.ext⟩)

theorem RCompare_nan1_12 {a b : Int} {m : AW} (hm : m.lo ≤ m.next) (ha : Fit .i64 a) (hb : Fit .i64 b) (h1 : w4 a = 9221120237041090561) : Fc Tryz.prog 31 [.int .i64 4, .int .i64 12, .int .i64 a, .int .i64 b] m fun v m' => v = .bool false ∧ Ext m m' := by
  refine Fc.body (c := _) Tryz.func31 rfl rfl rfl rfl hm ?_
  refine Ce.seq ?_
  refine Ce.region ?_
  refine Ie.p rfl rfl rfl rfl ?_
  refine Ie.nil ?_
  refine Ne.seq ?_
  refine Ce.seq ?_
  refine Ce.region ?_
  refine Ie.p rfl rfl rfl rfl ?_
  refine Ie.p rfl rfl rfl rfl ?_
  refine Ie.call _ rfl rfl rfl rfl rfl rfl (fun m hm => RWrap_real hm.lole ha) ?_
  refine Ie.p rfl rfl rfl rfl ?_
  refine Ie.p rfl rfl rfl rfl ?_
  refine Ie.call _ rfl rfl rfl rfl rfl rfl (fun m hm => RWrap_real hm.lole hb) ?_
  refine Ie.p rfl rfl rfl rfl ?_
  refine Ie.p rfl rfl rfl rfl ?_
  refine Ie.nil ?_
  refine Ne.seq ?_
  refine Ce.seq ?_
  refine Ce.region ?_
  refine Ie.p rfl rfl rfl rfl ?_
  refine Ie.p rfl rfl rfl rfl ?_
  refine Ie.p rfl rfl rfl rfl ?_
  refine Ie.p rfl rfl rfl rfl ?_
  refine Ie.p rfl rfl rfl rfl ?_
  refine Ie.p rfl rfl rfl rfl ?_
  refine Ie.p rfl rfl rfl rfl ?_
  refine Ie.p rfl rfl rfl rfl ?_
  refine Ie.nil ?_
  refine Ne.seq ?_
  refine Ce.seq ?_
  refine Ce.seq ?_
  refine Ce.region ?_
  refine Ie.p rfl rfl rfl rfl ?_
  refine Ie.p rfl rfl rfl rfl ?_
  refine Ie.nil ?_
  refine Ne.seq ?_
  refine Ce.cond_true rfl ?_
  refine Ce.seq ?_
  refine Ce.seq ?_
  refine Ce.region ?_
  refine Ie.p rfl rfl rfl rfl ?_
  refine Ie.bin (v := .bool true) rfl rfl rfl rfl rfl rfl (binS_eql (h1)) ?_
  refine Ie.p rfl rfl rfl rfl ?_
  refine Ie.off rfl rfl rfl ?_
  refine Ie.off rfl rfl rfl ?_
  refine Ie.p rfl rfl rfl rfl ?_
  refine Ie.nil ?_
  refine Ne.seq ?_
  refine Ce.cond_true rfl ?_
  refine Ce.seq ?_
  refine Ce.region ?_
  refine Ie.p rfl rfl rfl rfl ?_
  refine Ie.p rfl rfl rfl rfl ?_
  refine Ie.p rfl rfl rfl rfl ?_
  refine Ie.nil ?_
  refine Ne.seq ?_
  refine Ce.ret ?_
  refine Re.seq ?_
  refine Re.seq ?_
  exact Re.end_ rfl rfl (fun m hm => ⟨rfl, hm.ext⟩)

theorem RCompare_nan2_12 {a b : Int} {m : AW} (hm : m.lo ≤ m.next) (ha : Fit .i64 a) (hb : Fit .i64 b) (h1 : w4 a ≠ 9221120237041090561) (h2 : w4 b = 9221120237041090561) : Fc Tryz.prog 31 [.int .i64 4, .int .i64 12, .int .i64 a, .int .i64 b] m fun v m' => v = .bool false ∧ Ext m m' := by
  refine Fc.body (c := _) Tryz.func31 rfl rfl rfl rfl hm ?_
  refine Ce.seq ?_
  refine Ce.region ?_
  refine Ie.p rfl rfl rfl rfl ?_
  refine Ie.nil ?_
  refine Ne.seq ?_
  refine Ce.seq ?_
  refine Ce.region ?_
  refine Ie.p rfl rfl rfl rfl ?_
  refine Ie.p rfl rfl rfl rfl ?_
  refine Ie.call _ rfl rfl rfl rfl rfl rfl (fun m hm => RWrap_real hm.lole ha) ?_
  refine Ie.p rfl rfl rfl rfl ?_
  refine Ie.p rfl rfl rfl rfl ?_
  refine Ie.call _ rfl rfl rfl rfl rfl rfl (fun m hm => RWrap_real hm.lole hb) ?_
  refine Ie.p rfl rfl rfl rfl ?_
  refine Ie.p rfl rfl rfl rfl ?_
  refine Ie.nil ?_
  refine Ne.seq ?_
  refine Ce.seq ?_
  refine Ce.region ?_
  refine Ie.p rfl rfl rfl rfl ?_
  refine Ie.p rfl rfl rfl rfl ?_
  refine Ie.p rfl rfl rfl rfl ?_
  refine Ie.p rfl rfl rfl rfl ?_
  refine Ie.p rfl rfl rfl rfl ?_
  refine Ie.p rfl rfl rfl rfl ?_
  refine Ie.p rfl rfl rfl rfl ?_
  refine Ie.p rfl rfl rfl rfl ?_
  refine Ie.nil ?_
  refine Ne.seq ?_
  refine Ce.seq ?_
  refine Ce.seq ?_
  refine Ce.region ?_
  refine Ie.p rfl rfl rfl rfl ?_
  refine Ie.p rfl rfl rfl rfl ?_
  refine Ie.nil ?_
  refine Ne.seq ?_
  refine Ce.cond_true rfl ?_
  refine Ce.seq ?_
  refine Ce.seq ?_
  refine Ce.region ?_
  refine Ie.p rfl rfl rfl rfl ?_
  refine Ie.bin (v := .bool false) rfl rfl rfl rfl rfl rfl (binS_neql h1) ?_
  refine Ie.p rfl rfl rfl rfl ?_
  refine Ie.p rfl rfl rfl rfl ?_
  refine Ie.bin (v := .bool true) rfl rfl rfl rfl rfl rfl (binS_eql (h2)) ?_
  refine Ie.p rfl rfl rfl rfl ?_
  refine Ie.nil ?_
  refine Ne.seq ?_
  refine Ce.cond_true rfl ?_
  refine Ce.seq ?_
  refine Ce.region ?_
  refine Ie.p rfl rfl rfl rfl ?_
  refine Ie.p rfl rfl rfl rfl ?_
  refine Ie.p rfl rfl rfl rfl ?_
  refine Ie.nil ?_
  refine Ne.seq ?_
  refine Ce.ret ?_
  refine Re.seq ?_
  refine Re.seq ?_
  exact Re.end_ rfl rfl (fun m hm => ⟨rfl, hm.ext⟩)

theorem Compare_real_13 {a b : Int} {m : AW} (hm : m.lo ≤ m.next) (ha : Fit .i64 a) (hb : Fit .i64 b) : Fc Tryz.prog 29 [.int .i64 4, .int .i64 13, .int .i64 a, .int .i64 b] m fun v m' => v = .tuple ⟨[.bool (((FloatKind.f64.format.order (flb (w4 a)) (flb (w4 b)) == some .lt) || (FloatKind.f64.format.order (flb (w4 a)) (flb (w4 b)) == some .eq))), .int .i64 0]⟩ ∧ Ext m m' := by
  refine Fc.body (c := _) Tryz.func29 rfl rfl rfl rfl hm ?_
  refine Ce.seq ?_
  refine Ce.region ?_
  refine Ie.p rfl rfl rfl rfl ?_
  refine Ie.p rfl rfl rfl rfl ?_
  refine Ie.nil ?_
  refine Ne.seq ?_
  refine Ce.seq ?_
  refine Ce.region ?_
  refine Ie.p rfl rfl rfl rfl ?_
  refine Ie.call _ rfl rfl rfl rfl rfl rfl (fun m hm => of_real hm.lole) ?_
  refine Ie.p rfl rfl rfl rfl ?_
  refine Ie.p rfl rfl rfl rfl ?_
  refine Ie.p rfl rfl rfl rfl ?_
  refine Ie.alloc rfl rfl rfl rfl zr59 (fun b10 hb10 => ?_)
  refine Ie.store rfl rfl rfl rfl rfl sz59 rfl (by first | exact .head | exact .tail .head | exact .tail (.tail .head) | exact .tail (.tail (.tail .head))) rfl ?_
  refine Ie.p rfl rfl rfl rfl ?_
  refine Ie.nil ?_
  refine Ne.seq ?_
  refine Ce.seq ?_
  refine Ce.seq ?_
  refine Ce.region ?_
  refine Ie.p rfl rfl rfl rfl ?_
  refine Ie.p rfl rfl rfl rfl ?_
  refine Ie.nil ?_
  refine Ne.seq ?_
  refine Ce.cond_false rfl ?_
  refine Ce.skip ?_
  refine Ne.seq ?_
  refine Ce.seq ?_
  refine Ce.draw [⟨0, .p, true, true, 0⟩, ⟨1, .l, true, true, 1⟩, ⟨2, .p, true, true, 0⟩, ⟨3, .h, true, true, 7⟩, ⟨4, .p, false, false, 0⟩, ⟨5, .l, false, false, 16⟩, ⟨6, .p, false, false, 0⟩, ⟨7, .h, true, true, 127⟩, ⟨8, .p, true, true, 255⟩, ⟨9, .p, true, true, 511⟩] (by kernel_rfl) (by kernel_rfl) (fun base hbase hB => ?_)
  refine De.fieldAddr rfl rfl rfl rfl rfl rfl fa59_0 ?_
  refine De.load rfl rfl rfl rfl rfl rfl rfl rfl ag54 (by first | exact .head | exact .tail .head | exact .tail (.tail .head) | exact .tail (.tail (.tail .head)) | exact .base ‹_› ‹_› (by simp)) rfl ?_
  refine De.p rfl rfl rfl rfl rfl ?_
  refine De.call _ rfl rfl rfl rfl rfl rfl rfl rfl rfl (fun m hm => clr_1 hm.lole ha) ?_
  refine De.fieldAddr rfl rfl rfl rfl rfl rfl fa59_0 ?_
  refine De.loadOld rfl rfl rfl rfl rfl rfl ag54 (by first | exact .head | exact .tail .head | exact .tail (.tail .head) | exact .tail (.tail (.tail .head)) | exact .base ‹_› ‹_› (by simp)) rfl (by first | exact hB _ _ (.head _) | exact hB _ _ (.tail _ (.head _)) | exact hB _ _ (.tail _ (.tail _ (.head _))) | exact hB _ _ (.tail _ (.tail _ (.tail _ (.head _)))) | exact Nat.lt_of_lt_of_le ‹_› hbase) (fun _ => ?_)
  refine De.p rfl rfl rfl rfl rfl ?_
  refine De.call _ rfl rfl rfl rfl rfl rfl rfl rfl rfl (fun m hm => clr_1 hm.lole hb) ?_
  refine De.p rfl rfl rfl rfl rfl ?_
  refine De.p rfl rfl rfl rfl rfl ?_
  refine De.nil ?_
  refine Ne.seq ?_
  refine Ce.seq ?_
  refine Ce.seq ?_
  refine Ce.region ?_
  refine Ie.p rfl rfl rfl rfl ?_
  refine Ie.nil ?_
  refine Ne.seq ?_
  refine Ce.block ?_
  refine Ce.seq ?_
  refine Ce.region ?_
  refine Ie.p rfl rfl rfl rfl ?_
  refine Ie.p rfl rfl rfl rfl ?_
  refine Ie.nil ?_
  refine Ne.seq ?_
  refine Ce.cond_false rfl ?_
  refine Ce.seq ?_
  refine Ce.region ?_
  refine Ie.p rfl rfl rfl rfl ?_
  refine Ie.p rfl rfl rfl rfl ?_
  refine Ie.nil ?_
  refine Ne.seq ?_
  refine Ce.cond_false rfl ?_
  refine Ce.seq ?_
  refine Ce.region ?_
  refine Ie.p rfl rfl rfl rfl ?_
  refine Ie.p rfl rfl rfl rfl ?_
  refine Ie.nil ?_
  refine Ne.seq ?_
  refine Ce.cond_false rfl ?_
  refine Ce.seq ?_
  refine Ce.region ?_
  refine Ie.p rfl rfl rfl rfl ?_
  refine Ie.p rfl rfl rfl rfl ?_
  refine Ie.nil ?_
  refine Ne.seq ?_
  refine Ce.cond_true rfl ?_
  refine Ce.seq ?_
  refine Ce.region ?_
  refine Ie.fieldAddr rfl rfl rfl rfl rfl fa59_6 ?_
  refine Ie.load rfl rfl rfl rfl rfl ag57 (by first | exact .head | exact .tail .head | exact .tail (.tail .head) | exact .tail (.tail (.tail .head)) | exact .base ‹_› ‹_› (by simp)) rfl ?_
  refine Ie.p rfl rfl rfl rfl ?_
  refine Ie.p rfl rfl rfl rfl ?_
  refine Ie.call _ rfl rfl rfl rfl rfl rfl (fun m hm => clr_less hm.lole) ?_
  refine Ie.p rfl rfl rfl rfl ?_
  refine Ie.splitB 58 rfl (fun hs0 => ?_) (fun hs0 => ?_)
  · refine Ie.off rfl rfl rfl ?_
    refine Ie.off rfl rfl rfl ?_
    refine Ie.off rfl rfl rfl ?_
    refine Ie.off rfl rfl rfl ?_
    refine Ie.off rfl rfl rfl ?_
    refine Ie.p rfl rfl rfl rfl ?_
    refine Ie.p rfl rfl rfl rfl ?_
    refine Ie.p rfl rfl rfl rfl ?_
    refine Ie.nil ?_
    refine Ne.seq ?_
    refine Ce.ret ?_
    refine Re.blk ?_
    refine Re.seq ?_
    exact Re.end_ rfl rfl (fun m hm => ⟨by first | rfl | (rw [hs0]; rfl), hm.ext⟩)
  · refine Ie.fieldAddr rfl rfl rfl rfl rfl fa59_7 ?_
    refine Ie.load rfl rfl rfl rfl rfl ag57 (by first | exact .head | exact .tail .head | exact .tail (.tail .head) | exact .tail (.tail (.tail .head)) | exact .base ‹_› ‹_› (by simp)) rfl ?_
    refine Ie.p rfl rfl rfl rfl ?_
    refine Ie.p rfl rfl rfl rfl ?_
    refine Ie.call _ rfl rfl rfl rfl rfl rfl (fun m hm => clr_same hm.lole) ?_
    refine Ie.p rfl rfl rfl rfl ?_
    refine Ie.p rfl rfl rfl rfl ?_
    refine Ie.p rfl rfl rfl rfl ?_
    refine Ie.nil ?_
    refine Ne.seq ?_
    refine Ce.ret ?_
    refine Re.blk ?_
    refine Re.seq ?_
    exact Re.end_ rfl rfl (fun m hm => ⟨by first | rfl | (rw [hs0]; rfl), hm.ext⟩)

theorem RCompare_real_13 {a b : Int} {m : AW} (hm : m.lo ≤ m.next) (ha : Fit .i64 a) (hb : Fit .i64 b) (h1 : w4 a ≠ 9221120237041090561) (h2 : w4 b ≠ 9221120237041090561) : Fc Tryz.prog 31 [.int .i64 4, .int .i64 13, .int .i64 a, .int .i64 b] m fun v m' => v = .bool ((!(FloatKind.f64.format.order (flb (w4 a)) (flb (w4 b)) == some .gt))) ∧ Ext m m' := by
  refine Fc.body (c := _) Tryz.func31 rfl rfl rfl rfl hm ?_
  refine Ce.seq ?_
  refine Ce.region ?_
  refine Ie.p rfl rfl rfl rfl ?_
  refine Ie.nil ?_
  refine Ne.seq ?_
  refine Ce.seq ?_
  refine Ce.region ?_
  refine Ie.p rfl rfl rfl rfl ?_
  refine Ie.p rfl rfl rfl rfl ?_
  refine Ie.call _ rfl rfl rfl rfl rfl rfl (fun m hm => RWrap_real hm.lole ha) ?_
  refine Ie.p rfl rfl rfl rfl ?_
  refine Ie.p rfl rfl rfl rfl ?_
  refine Ie.call _ rfl rfl rfl rfl rfl rfl (fun m hm => RWrap_real hm.lole hb) ?_
  refine Ie.p rfl rfl rfl rfl ?_
  refine Ie.p rfl rfl rfl rfl ?_
  refine Ie.nil ?_
  refine Ne.seq ?_
  refine Ce.seq ?_
  refine Ce.region ?_
  refine Ie.p rfl rfl rfl rfl ?_
  refine Ie.p rfl rfl rfl rfl ?_
  refine Ie.p rfl rfl rfl rfl ?_
  refine Ie.p rfl rfl rfl rfl ?_
  refine Ie.p rfl rfl rfl rfl ?_
  refine Ie.p rfl rfl rfl rfl ?_
  refine Ie.p rfl rfl rfl rfl ?_
  refine Ie.p rfl rfl rfl rfl ?_
  refine Ie.nil ?_
  refine Ne.seq ?_
  refine Ce.seq ?_
  refine Ce.seq ?_
  refine Ce.region ?_
  refine Ie.p rfl rfl rfl rfl ?_
  refine Ie.p rfl rfl rfl rfl ?_
  refine Ie.nil ?_
  refine Ne.seq ?_
  refine Ce.cond_true rfl ?_
  refine Ce.seq ?_
  refine Ce.seq ?_
  refine Ce.region ?_
  refine Ie.p rfl rfl rfl rfl ?_
  refine Ie.bin (v := .bool false) rfl rfl rfl rfl rfl rfl (binS_neql h1) ?_
  refine Ie.p rfl rfl rfl rfl ?_
  refine Ie.p rfl rfl rfl rfl ?_
  refine Ie.bin (v := .bool false) rfl rfl rfl rfl rfl rfl (binS_neql h2) ?_
  refine Ie.p rfl rfl rfl rfl ?_
  refine Ie.nil ?_
  refine Ne.seq ?_
  refine Ce.cond_false rfl ?_
  refine Ce.skip ?_
  refine Ne.seq ?_
  refine Ce.region ?_
  refine Ie.p rfl rfl rfl rfl ?_
  refine Ie.call _ rfl rfl rfl rfl rfl rfl (fun m hm => value_ok hm.lole) ?_
  refine Ie.p rfl rfl rfl rfl ?_
  refine Ie.call _ rfl rfl rfl rfl rfl rfl (fun m hm => value_ok hm.lole) ?_
  refine Ie.p rfl rfl rfl rfl ?_
  refine Ie.p rfl rfl rfl rfl ?_
  refine Ie.call _ rfl rfl rfl rfl rfl rfl (fun m hm => value_ok hm.lole) ?_
  refine Ie.p rfl rfl rfl rfl ?_
  refine Ie.call _ rfl rfl rfl rfl rfl rfl (fun m hm => value_ok hm.lole) ?_
  refine Ie.p rfl rfl rfl rfl ?_
  refine Ie.p rfl rfl rfl rfl ?_
  refine Ie.p rfl rfl rfl rfl ?_
  refine Ie.nil ?_
  refine Ne.seq ?_
  refine Ce.seq ?_
  refine Ce.seq ?_
  refine Ce.region ?_
  refine Ie.p rfl rfl rfl rfl ?_
  refine Ie.nil ?_
  refine Ne.seq ?_
  refine Ce.block ?_
  refine Ce.seq ?_
  refine Ce.region ?_
  refine Ie.p rfl rfl rfl rfl ?_
  refine Ie.p rfl rfl rfl rfl ?_
  refine Ie.nil ?_
  refine Ne.seq ?_
  refine Ce.cond_false rfl ?_
  refine Ce.seq ?_
  refine Ce.region ?_
  refine Ie.p rfl rfl rfl rfl ?_
  refine Ie.p rfl rfl rfl rfl ?_
  refine Ie.nil ?_
  refine Ne.seq ?_
  refine Ce.cond_false rfl ?_
  refine Ce.seq ?_
  refine Ce.region ?_
  refine Ie.p rfl rfl rfl rfl ?_
  refine Ie.p rfl rfl rfl rfl ?_
  refine Ie.nil ?_
  refine Ne.seq ?_
  refine Ce.cond_false rfl ?_
  refine Ce.seq ?_
  refine Ce.region ?_
  refine Ie.p rfl rfl rfl rfl ?_
  refine Ie.p rfl rfl rfl rfl ?_
  refine Ie.nil ?_
  refine Ne.seq ?_
  refine Ce.cond_true rfl ?_
  refine Ce.seq ?_
  refine Ce.region ?_
  refine Ie.p rfl rfl rfl rfl ?_
  refine Ie.p rfl rfl rfl rfl ?_
  refine Ie.p rfl rfl rfl rfl ?_
  refine Ie.nil ?_
  refine Ne.seq ?_
  refine Ce.ret ?_
  refine Re.blk ?_
  refine Re.seq ?_
  exact Re.end_ rfl rfl (fun m hm => ⟨rfl, hm.ext⟩)

theorem RCompare_nan1_13 {a b : Int} {m : AW} (hm : m.lo ≤ m.next) (ha : Fit .i64 a) (hb : Fit .i64 b) (h1 : w4 a = 9221120237041090561) : Fc Tryz.prog 31 [.int .i64 4, .int .i64 13, .int .i64 a, .int .i64 b] m fun v m' => v = .bool false ∧ Ext m m' := by
  refine Fc.body (c := _) Tryz.func31 rfl rfl rfl rfl hm ?_
  refine Ce.seq ?_
  refine Ce.region ?_
  refine Ie.p rfl rfl rfl rfl ?_
  refine Ie.nil ?_
  refine Ne.seq ?_
  refine Ce.seq ?_
  refine Ce.region ?_
  refine Ie.p rfl rfl rfl rfl ?_
  refine Ie.p rfl rfl rfl rfl ?_
  refine Ie.call _ rfl rfl rfl rfl rfl rfl (fun m hm => RWrap_real hm.lole ha) ?_
  refine Ie.p rfl rfl rfl rfl ?_
  refine Ie.p rfl rfl rfl rfl ?_
  refine Ie.call _ rfl rfl rfl rfl rfl rfl (fun m hm => RWrap_real hm.lole hb) ?_
  refine Ie.p rfl rfl rfl rfl ?_
  refine Ie.p rfl rfl rfl rfl ?_
  refine Ie.nil ?_
  refine Ne.seq ?_
  refine Ce.seq ?_
  refine Ce.region ?_
  refine Ie.p rfl rfl rfl rfl ?_
  refine Ie.p rfl rfl rfl rfl ?_
  refine Ie.p rfl rfl rfl rfl ?_
  refine Ie.p rfl rfl rfl rfl ?_
  refine Ie.p rfl rfl rfl rfl ?_
  refine Ie.p rfl rfl rfl rfl ?_
  refine Ie.p rfl rfl rfl rfl ?_
  refine Ie.p rfl rfl rfl rfl ?_
  refine Ie.nil ?_
  refine Ne.seq ?_
  refine Ce.seq ?_
  refine Ce.seq ?_
  refine Ce.region ?_
  refine Ie.p rfl rfl rfl rfl ?_
  refine Ie.p rfl rfl rfl rfl ?_
  refine Ie.nil ?_
  refine Ne.seq ?_
  refine Ce.cond_true rfl ?_
  refine Ce.seq ?_
  refine Ce.seq ?_
  refine Ce.region ?_
  refine Ie.p rfl rfl rfl rfl ?_
  refine Ie.bin (v := .bool true) rfl rfl rfl rfl rfl rfl (binS_eql (h1)) ?_
  refine Ie.p rfl rfl rfl rfl ?_
  refine Ie.off rfl rfl rfl ?_
  refine Ie.off rfl rfl rfl ?_
  refine Ie.p rfl rfl rfl rfl ?_
  refine Ie.nil ?_
  refine Ne.seq ?_
  refine Ce.cond_true rfl ?_
  refine Ce.seq ?_
  refine Ce.region ?_
  refine Ie.p rfl rfl rfl rfl ?_
  refine Ie.p rfl rfl rfl rfl ?_
  refine Ie.p rfl rfl rfl rfl ?_
  refine Ie.nil ?_
  refine Ne.seq ?_
  refine Ce.ret ?_
  refine Re.seq ?_
  refine Re.seq ?_
  exact Re.end_ rfl rfl (fun m hm => ⟨rfl, hm.ext⟩)

end Go.Proofs.YtmcjihhfgmfcpaaGreatDoor
