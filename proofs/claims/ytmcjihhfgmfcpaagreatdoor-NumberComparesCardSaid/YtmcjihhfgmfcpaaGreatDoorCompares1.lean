/-
  NumberCompares: the functions that it calls, followed, 1. Conditions: none.
-/
import Derived.Test.YtmcjihhfgmfcpaaGreatDoorAwk
import Derived.Test.YtmcjihhfgmfcpaaGreatDoorPla
import Derived.Test.YtmcjihhfgmfcpaaGreatDoorCompares0
namespace Go.Proofs.YtmcjihhfgmfcpaaGreatDoor
open Go Go.Ab
theorem RCompare_nan2_13 {a b : Int} {m : AW} (hm : m.lo ≤ m.next) (ha : Fit .i64 a) (hb : Fit .i64 b) (h1 : w4 a ≠ 9221120237041090561) (h2 : w4 b = 9221120237041090561) : Fc Tryz.prog 31 [.int .i64 4, .int .i64 13, .int .i64 a, .int .i64 b] m fun v m' => v = .bool false ∧ Ext m m' := by
  refine Fc.body (c := _) Tryz.func31 rfl rfl rfl rfl hm ?_
  refine Ce.seq ?_
  refine Ce.region ?_
  refine Ie.p rfl rfl rfl rfl ?_
  refine Ie.nil ?_
  refine Ne.seq ?_
  refine Ce.seq ?_
  refine Ce.region ?_
  refine Ie.p rfl rfl rfl rfl ?_
  refine Ie.p rfl rfl rfl rfl ?_
  refine Ie.call _ rfl rfl rfl rfl rfl rfl (fun m hm => RWrap_real hm.lole ha) ?_
  refine Ie.p rfl rfl rfl rfl ?_
  refine Ie.p rfl rfl rfl rfl ?_
  refine Ie.call _ rfl rfl rfl rfl rfl rfl (fun m hm => RWrap_real hm.lole hb) ?_
  refine Ie.p rfl rfl rfl rfl ?_
  refine Ie.p rfl rfl rfl rfl ?_
  refine Ie.nil ?_
  refine Ne.seq ?_
  refine Ce.seq ?_
  refine Ce.region ?_
  refine Ie.p rfl rfl rfl rfl ?_
  refine Ie.p rfl rfl rfl rfl ?_
  refine Ie.p rfl rfl rfl rfl ?_
  refine Ie.p rfl rfl rfl rfl ?_
  refine Ie.p rfl rfl rfl rfl ?_
  refine Ie.p rfl rfl rfl rfl ?_
  refine Ie.p rfl rfl rfl rfl ?_
  refine Ie.p rfl rfl rfl rfl ?_
  refine Ie.nil ?_
  refine Ne.seq ?_
  refine Ce.seq ?_
  refine Ce.seq ?_
  refine Ce.region ?_
  refine Ie.p rfl rfl rfl rfl ?_
  refine Ie.p rfl rfl rfl rfl ?_
  refine Ie.nil ?_
  refine Ne.seq ?_
  refine Ce.cond_true rfl ?_
  refine Ce.seq ?_
  refine Ce.seq ?_
  refine Ce.region ?_
  refine Ie.p rfl rfl rfl rfl ?_
  refine Ie.bin (v := .bool false) rfl rfl rfl rfl rfl rfl (binS_neql h1) ?_
  refine Ie.p rfl rfl rfl rfl ?_
  refine Ie.p rfl rfl rfl rfl ?_
  refine Ie.bin (v := .bool true) rfl rfl rfl rfl rfl rfl (binS_eql (h2)) ?_
  refine Ie.p rfl rfl rfl rfl ?_
  refine Ie.nil ?_
  refine Ne.seq ?_
  refine Ce.cond_true rfl ?_
  refine Ce.seq ?_
  refine Ce.region ?_
  refine Ie.p rfl rfl rfl rfl ?_
  refine Ie.p rfl rfl rfl rfl ?_
  refine Ie.p rfl rfl rfl rfl ?_
  refine Ie.nil ?_
  refine Ne.seq ?_
  refine Ce.ret ?_
  refine Re.seq ?_
  refine Re.seq ?_
  exact Re.end_ rfl rfl (fun m hm => ⟨rfl, hm.ext⟩)

theorem Compare_real_14 {a b : Int} {m : AW} (hm : m.lo ≤ m.next) (ha : Fit .i64 a) (hb : Fit .i64 b) : Fc Tryz.prog 29 [.int .i64 4, .int .i64 14, .int .i64 a, .int .i64 b] m fun v m' => v = .tuple ⟨[.bool ((FloatKind.f64.format.order (flb (w4 b)) (flb (w4 a)) == some .lt)), .int .i64 0]⟩ ∧ Ext m m' := by
  refine Fc.body (c := _) Tryz.func29 rfl rfl rfl rfl hm ?_
  refine Ce.seq ?_
  refine Ce.region ?_
  refine Ie.p rfl rfl rfl rfl ?_
  refine Ie.p rfl rfl rfl rfl ?_
  refine Ie.nil ?_
  refine Ne.seq ?_
  refine Ce.seq ?_
  refine Ce.region ?_
  refine Ie.p rfl rfl rfl rfl ?_
  refine Ie.call _ rfl rfl rfl rfl rfl rfl (fun m hm => of_real hm.lole) ?_
  refine Ie.p rfl rfl rfl rfl ?_
  refine Ie.p rfl rfl rfl rfl ?_
  refine Ie.p rfl rfl rfl rfl ?_
  refine Ie.alloc rfl rfl rfl rfl zr59 (fun b10 hb10 => ?_)
  refine Ie.store rfl rfl rfl rfl rfl sz59 rfl (by first | exact .head | exact .tail .head | exact .tail (.tail .head) | exact .tail (.tail (.tail .head))) rfl ?_
  refine Ie.p rfl rfl rfl rfl ?_
  refine Ie.nil ?_
  refine Ne.seq ?_
  refine Ce.seq ?_
  refine Ce.seq ?_
  refine Ce.region ?_
  refine Ie.p rfl rfl rfl rfl ?_
  refine Ie.p rfl rfl rfl rfl ?_
  refine Ie.nil ?_
  refine Ne.seq ?_
  refine Ce.cond_false rfl ?_
  refine Ce.skip ?_
  refine Ne.seq ?_
  refine Ce.seq ?_
  refine Ce.draw [⟨0, .p, true, true, 0⟩, ⟨1, .l, true, true, 1⟩, ⟨2, .p, true, true, 0⟩, ⟨3, .h, true, true, 7⟩, ⟨4, .p, false, false, 0⟩, ⟨5, .l, false, false, 16⟩, ⟨6, .p, false, false, 0⟩, ⟨7, .h, true, true, 127⟩, ⟨8, .p, true, true, 255⟩, ⟨9, .p, true, true, 511⟩] (by kernel_rfl) (by kernel_rfl) (fun base hbase hB => ?_)
  refine De.fieldAddr rfl rfl rfl rfl rfl rfl fa59_0 ?_
  refine De.load rfl rfl rfl rfl rfl rfl rfl rfl ag54 (by first | exact .head | exact .tail .head | exact .tail (.tail .head) | exact .tail (.tail (.tail .head)) | exact .base ‹_› ‹_› (by simp)) rfl ?_
  refine De.p rfl rfl rfl rfl rfl ?_
  refine De.call _ rfl rfl rfl rfl rfl rfl rfl rfl rfl (fun m hm => clr_1 hm.lole ha) ?_
  refine De.fieldAddr rfl rfl rfl rfl rfl rfl fa59_0 ?_
  refine De.loadOld rfl rfl rfl rfl rfl rfl ag54 (by first | exact .head | exact .tail .head | exact .tail (.tail .head) | exact .tail (.tail (.tail .head)) | exact .base ‹_› ‹_› (by simp)) rfl (by first | exact hB _ _ (.head _) | exact hB _ _ (.tail _ (.head _)) | exact hB _ _ (.tail _ (.tail _ (.head _))) | exact hB _ _ (.tail _ (.tail _ (.tail _ (.head _)))) | exact Nat.lt_of_lt_of_le ‹_› hbase) (fun _ => ?_)
  refine De.p rfl rfl rfl rfl rfl ?_
  refine De.call _ rfl rfl rfl rfl rfl rfl rfl rfl rfl (fun m hm => clr_1 hm.lole hb) ?_
  refine De.p rfl rfl rfl rfl rfl ?_
  refine De.p rfl rfl rfl rfl rfl ?_
  refine De.nil ?_
  refine Ne.seq ?_
  refine Ce.seq ?_
  refine Ce.seq ?_
  refine Ce.region ?_
  refine Ie.p rfl rfl rfl rfl ?_
  refine Ie.nil ?_
  refine Ne.seq ?_
  refine Ce.block ?_
  refine Ce.seq ?_
  refine Ce.region ?_
  refine Ie.p rfl rfl rfl rfl ?_
  refine Ie.p rfl rfl rfl rfl ?_
  refine Ie.nil ?_
  refine Ne.seq ?_
  refine Ce.cond_false rfl ?_
  refine Ce.seq ?_
  refine Ce.region ?_
  refine Ie.p rfl rfl rfl rfl ?_
  refine Ie.p rfl rfl rfl rfl ?_
  refine Ie.nil ?_
  refine Ne.seq ?_
  refine Ce.cond_false rfl ?_
  refine Ce.seq ?_
  refine Ce.region ?_
  refine Ie.p rfl rfl rfl rfl ?_
  refine Ie.p rfl rfl rfl rfl ?_
  refine Ie.nil ?_
  refine Ne.seq ?_
  refine Ce.cond_false rfl ?_
  refine Ce.seq ?_
  refine Ce.region ?_
  refine Ie.p rfl rfl rfl rfl ?_
  refine Ie.p rfl rfl rfl rfl ?_
  refine Ie.nil ?_
  refine Ne.seq ?_
  refine Ce.cond_false rfl ?_
  refine Ce.seq ?_
  refine Ce.region ?_
  refine Ie.p rfl rfl rfl rfl ?_
  refine Ie.p rfl rfl rfl rfl ?_
  refine Ie.nil ?_
  refine Ne.seq ?_
  refine Ce.cond_true rfl ?_
  refine Ce.seq ?_
  refine Ce.region ?_
  refine Ie.fieldAddr rfl rfl rfl rfl rfl fa59_6 ?_
  refine Ie.load rfl rfl rfl rfl rfl ag57 (by first | exact .head | exact .tail .head | exact .tail (.tail .head) | exact .tail (.tail (.tail .head)) | exact .base ‹_› ‹_› (by simp)) rfl ?_
  refine Ie.p rfl rfl rfl rfl ?_
  refine Ie.p rfl rfl rfl rfl ?_
  refine Ie.call _ rfl rfl rfl rfl rfl rfl (fun m hm => clr_less hm.lole) ?_
  refine Ie.p rfl rfl rfl rfl ?_
  refine Ie.p rfl rfl rfl rfl ?_
  refine Ie.nil ?_
  refine Ne.seq ?_
  refine Ce.ret ?_
  refine Re.blk ?_
  refine Re.seq ?_
  exact Re.end_ rfl rfl (fun m hm => ⟨rfl, hm.ext⟩)

theorem RCompare_real_14 {a b : Int} {m : AW} (hm : m.lo ≤ m.next) (ha : Fit .i64 a) (hb : Fit .i64 b) (h1 : w4 a ≠ 9221120237041090561) (h2 : w4 b ≠ 9221120237041090561) : Fc Tryz.prog 31 [.int .i64 4, .int .i64 14, .int .i64 a, .int .i64 b] m fun v m' => v = .bool ((FloatKind.f64.format.order (flb (w4 a)) (flb (w4 b)) == some .gt)) ∧ Ext m m' := by
  refine Fc.body (c := _) Tryz.func31 rfl rfl rfl rfl hm ?_
  refine Ce.seq ?_
  refine Ce.region ?_
  refine Ie.p rfl rfl rfl rfl ?_
  refine Ie.nil ?_
  refine Ne.seq ?_
  refine Ce.seq ?_
  refine Ce.region ?_
  refine Ie.p rfl rfl rfl rfl ?_
  refine Ie.p rfl rfl rfl rfl ?_
  refine Ie.call _ rfl rfl rfl rfl rfl rfl (fun m hm => RWrap_real hm.lole ha) ?_
  refine Ie.p rfl rfl rfl rfl ?_
  refine Ie.p rfl rfl rfl rfl ?_
  refine Ie.call _ rfl rfl rfl rfl rfl rfl (fun m hm => RWrap_real hm.lole hb) ?_
  refine Ie.p rfl rfl rfl rfl ?_
  refine Ie.p rfl rfl rfl rfl ?_
  refine Ie.nil ?_
  refine Ne.seq ?_
  refine Ce.seq ?_
  refine Ce.region ?_
  refine Ie.p rfl rfl rfl rfl ?_
  refine Ie.p rfl rfl rfl rfl ?_
  refine Ie.p rfl rfl rfl rfl ?_
  refine Ie.p rfl rfl rfl rfl ?_
  refine Ie.p rfl rfl rfl rfl ?_
  refine Ie.p rfl rfl rfl rfl ?_
  refine Ie.p rfl rfl rfl rfl ?_
  refine Ie.p rfl rfl rfl rfl ?_
  refine Ie.nil ?_
  refine Ne.seq ?_
  refine Ce.seq ?_
  refine Ce.seq ?_
  refine Ce.region ?_
  refine Ie.p rfl rfl rfl rfl ?_
  refine Ie.p rfl rfl rfl rfl ?_
  refine Ie.nil ?_
  refine Ne.seq ?_
  refine Ce.cond_true rfl ?_
  refine Ce.seq ?_
  refine Ce.seq ?_
  refine Ce.region ?_
  refine Ie.p rfl rfl rfl rfl ?_
  refine Ie.bin (v := .bool false) rfl rfl rfl rfl rfl rfl (binS_neql h1) ?_
  refine Ie.p rfl rfl rfl rfl ?_
  refine Ie.p rfl rfl rfl rfl ?_
  refine Ie.bin (v := .bool false) rfl rfl rfl rfl rfl rfl (binS_neql h2) ?_
  refine Ie.p rfl rfl rfl rfl ?_
  refine Ie.nil ?_
  refine Ne.seq ?_
  refine Ce.cond_false rfl ?_
  refine Ce.skip ?_
  refine Ne.seq ?_
  refine Ce.region ?_
  refine Ie.p rfl rfl rfl rfl ?_
  refine Ie.call _ rfl rfl rfl rfl rfl rfl (fun m hm => value_ok hm.lole) ?_
  refine Ie.p rfl rfl rfl rfl ?_
  refine Ie.call _ rfl rfl rfl rfl rfl rfl (fun m hm => value_ok hm.lole) ?_
  refine Ie.p rfl rfl rfl rfl ?_
  refine Ie.p rfl rfl rfl rfl ?_
  refine Ie.call _ rfl rfl rfl rfl rfl rfl (fun m hm => value_ok hm.lole) ?_
  refine Ie.p rfl rfl rfl rfl ?_
  refine Ie.call _ rfl rfl rfl rfl rfl rfl (fun m hm => value_ok hm.lole) ?_
  refine Ie.p rfl rfl rfl rfl ?_
  refine Ie.p rfl rfl rfl rfl ?_
  refine Ie.p rfl rfl rfl rfl ?_
  refine Ie.nil ?_
  refine Ne.seq ?_
  refine Ce.seq ?_
  refine Ce.seq ?_
  refine Ce.region ?_
  refine Ie.p rfl rfl rfl rfl ?_
  refine Ie.nil ?_
  refine Ne.seq ?_
  refine Ce.block ?_
  refine Ce.seq ?_
  refine Ce.region ?_
  refine Ie.p rfl rfl rfl rfl ?_
  refine Ie.p rfl rfl rfl rfl ?_
  refine Ie.nil ?_
  refine Ne.seq ?_
  refine Ce.cond_false rfl ?_
  refine Ce.seq ?_
  refine Ce.region ?_
  refine Ie.p rfl rfl rfl rfl ?_
  refine Ie.p rfl rfl rfl rfl ?_
  refine Ie.nil ?_
  refine Ne.seq ?_
  refine Ce.cond_false rfl ?_
  refine Ce.seq ?_
  refine Ce.region ?_
  refine Ie.p rfl rfl rfl rfl ?_
  refine Ie.p rfl rfl rfl rfl ?_
  refine Ie.nil ?_
  refine Ne.seq ?_
  refine Ce.cond_false rfl ?_
  refine Ce.seq ?_
  refine Ce.region ?_
  refine Ie.p rfl rfl rfl rfl ?_
  refine Ie.p rfl rfl rfl rfl ?_
  refine Ie.nil ?_
  refine Ne.seq ?_
  refine Ce.cond_false rfl ?_
  refine Ce.seq ?_
  refine Ce.region ?_
  refine Ie.p rfl rfl rfl rfl ?_
  refine Ie.p rfl rfl rfl rfl ?_
  refine Ie.nil ?_
  refine Ne.seq ?_
  refine Ce.cond_true rfl ?_
  refine Ce.seq ?_
  refine Ce.region ?_
  refine Ie.p rfl rfl rfl rfl ?_
  refine Ie.p rfl rfl rfl rfl ?_
  refine Ie.nil ?_
  refine Ne.seq ?_
  refine Ce.ret ?_
  refine Re.blk ?_
  refine Re.seq ?_
  exact Re.end_ rfl rfl (fun m hm => ⟨rfl, hm.ext⟩)

theorem RCompare_nan1_14 {a b : Int} {m : AW} (hm : m.lo ≤ m.next) (ha : Fit .i64 a) (hb : Fit .i64 b) (h1 : w4 a = 9221120237041090561) : Fc Tryz.prog 31 [.int .i64 4, .int .i64 14, .int .i64 a, .int .i64 b] m fun v m' => v = .bool false ∧ Ext m m' := by
  refine Fc.body (c := _) Tryz.func31 rfl rfl rfl rfl hm ?_
  refine Ce.seq ?_
  refine Ce.region ?_
  refine Ie.p rfl rfl rfl rfl ?_
  refine Ie.nil ?_
  refine Ne.seq ?_
  refine Ce.seq ?_
  refine Ce.region ?_
  refine Ie.p rfl rfl rfl rfl ?_
  refine Ie.p rfl rfl rfl rfl ?_
  refine Ie.call _ rfl rfl rfl rfl rfl rfl (fun m hm => RWrap_real hm.lole ha) ?_
  refine Ie.p rfl rfl rfl rfl ?_
  refine Ie.p rfl rfl rfl rfl ?_
  refine Ie.call _ rfl rfl rfl rfl rfl rfl (fun m hm => RWrap_real hm.lole hb) ?_
  refine Ie.p rfl rfl rfl rfl ?_
  refine Ie.p rfl rfl rfl rfl ?_
  refine Ie.nil ?_
  refine Ne.seq ?_
  refine Ce.seq ?_
  refine Ce.region ?_
  refine Ie.p rfl rfl rfl rfl ?_
  refine Ie.p rfl rfl rfl rfl ?_
  refine Ie.p rfl rfl rfl rfl ?_
  refine Ie.p rfl rfl rfl rfl ?_
  refine Ie.p rfl rfl rfl rfl ?_
  refine Ie.p rfl rfl rfl rfl ?_
  refine Ie.p rfl rfl rfl rfl ?_
  refine Ie.p rfl rfl rfl rfl ?_
  refine Ie.nil ?_
  refine Ne.seq ?_
  refine Ce.seq ?_
  refine Ce.seq ?_
  refine Ce.region ?_
  refine Ie.p rfl rfl rfl rfl ?_
  refine Ie.p rfl rfl rfl rfl ?_
  refine Ie.nil ?_
  refine Ne.seq ?_
  refine Ce.cond_true rfl ?_
  refine Ce.seq ?_
  refine Ce.seq ?_
  refine Ce.region ?_
  refine Ie.p rfl rfl rfl rfl ?_
  refine Ie.bin (v := .bool true) rfl rfl rfl rfl rfl rfl (binS_eql (h1)) ?_
  refine Ie.p rfl rfl rfl rfl ?_
  refine Ie.off rfl rfl rfl ?_
  refine Ie.off rfl rfl rfl ?_
  refine Ie.p rfl rfl rfl rfl ?_
  refine Ie.nil ?_
  refine Ne.seq ?_
  refine Ce.cond_true rfl ?_
  refine Ce.seq ?_
  refine Ce.region ?_
  refine Ie.p rfl rfl rfl rfl ?_
  refine Ie.p rfl rfl rfl rfl ?_
  refine Ie.p rfl rfl rfl rfl ?_
  refine Ie.nil ?_
  refine Ne.seq ?_
  refine Ce.ret ?_
  refine Re.seq ?_
  refine Re.seq ?_
  exact Re.end_ rfl rfl (fun m hm => ⟨rfl, hm.ext⟩)

theorem RCompare_nan2_14 {a b : Int} {m : AW} (hm : m.lo ≤ m.next) (ha : Fit .i64 a) (hb : Fit .i64 b) (h1 : w4 a ≠ 9221120237041090561) (h2 : w4 b = 9221120237041090561) : Fc Tryz.prog 31 [.int .i64 4, .int .i64 14, .int .i64 a, .int .i64 b] m fun v m' => v = .bool false ∧ Ext m m' := by
  refine Fc.body (c := _) Tryz.func31 rfl rfl rfl rfl hm ?_
  refine Ce.seq ?_
  refine Ce.region ?_
  refine Ie.p rfl rfl rfl rfl ?_
  refine Ie.nil ?_
  refine Ne.seq ?_
  refine Ce.seq ?_
  refine Ce.region ?_
  refine Ie.p rfl rfl rfl rfl ?_
  refine Ie.p rfl rfl rfl rfl ?_
  refine Ie.call _ rfl rfl rfl rfl rfl rfl (fun m hm => RWrap_real hm.lole ha) ?_
  refine Ie.p rfl rfl rfl rfl ?_
  refine Ie.p rfl rfl rfl rfl ?_
  refine Ie.call _ rfl rfl rfl rfl rfl rfl (fun m hm => RWrap_real hm.lole hb) ?_
  refine Ie.p rfl rfl rfl rfl ?_
  refine Ie.p rfl rfl rfl rfl ?_
  refine Ie.nil ?_
  refine Ne.seq ?_
  refine Ce.seq ?_
  refine Ce.region ?_
  refine Ie.p rfl rfl rfl rfl ?_
  refine Ie.p rfl rfl rfl rfl ?_
  refine Ie.p rfl rfl rfl rfl ?_
  refine Ie.p rfl rfl rfl rfl ?_
  refine Ie.p rfl rfl rfl rfl ?_
  refine Ie.p rfl rfl rfl rfl ?_
  refine Ie.p rfl rfl rfl rfl ?_
  refine Ie.p rfl rfl rfl rfl ?_
  refine Ie.nil ?_
  refine Ne.seq ?_
  refine Ce.seq ?_
  refine Ce.seq ?_
  refine Ce.region ?_
  refine Ie.p rfl rfl rfl rfl ?_
  refine Ie.p rfl rfl rfl rfl ?_
  refine Ie.nil ?_
  refine Ne.seq ?_
  refine Ce.cond_true rfl ?_
  refine Ce.seq ?_
  refine Ce.seq ?_
  refine Ce.region ?_
  refine Ie.p rfl rfl rfl rfl ?_
  refine Ie.bin (v := .bool false) rfl rfl rfl rfl rfl rfl (binS_neql h1) ?_
  refine Ie.p rfl rfl rfl rfl ?_
  refine Ie.p rfl rfl rfl rfl ?_
  refine Ie.bin (v := .bool true) rfl rfl rfl rfl rfl rfl (binS_eql (h2)) ?_
  refine Ie.p rfl rfl rfl rfl ?_
  refine Ie.nil ?_
  refine Ne.seq ?_
  refine Ce.cond_true rfl ?_
  refine Ce.seq ?_
  refine Ce.region ?_
  refine Ie.p rfl rfl rfl rfl ?_
  refine Ie.p rfl rfl rfl rfl ?_
  refine Ie.p rfl rfl rfl rfl ?_
  refine Ie.nil ?_
  refine Ne.seq ?_
  refine Ce.ret ?_
  refine Re.seq ?_
  refine Re.seq ?_
  exact Re.end_ rfl rfl (fun m hm => ⟨rfl, hm.ext⟩)

theorem Compare_real_15 {a b : Int} {m : AW} (hm : m.lo ≤ m.next) (ha : Fit .i64 a) (hb : Fit .i64 b) : Fc Tryz.prog 29 [.int .i64 4, .int .i64 15, .int .i64 a, .int .i64 b] m fun v m' => v = .tuple ⟨[.bool (((FloatKind.f64.format.order (flb (w4 b)) (flb (w4 a)) == some .lt) || (FloatKind.f64.format.order (flb (w4 a)) (flb (w4 b)) == some .eq))), .int .i64 0]⟩ ∧ Ext m m' := by
  refine Fc.body (c := _) Tryz.func29 rfl rfl rfl rfl hm ?_
  refine Ce.seq ?_
  refine Ce.region ?_
  refine Ie.p rfl rfl rfl rfl ?_
  refine Ie.p rfl rfl rfl rfl ?_
  refine Ie.nil ?_
  refine Ne.seq ?_
  refine Ce.seq ?_
  refine Ce.region ?_
  refine Ie.p rfl rfl rfl rfl ?_
  refine Ie.call _ rfl rfl rfl rfl rfl rfl (fun m hm => of_real hm.lole) ?_
  refine Ie.p rfl rfl rfl rfl ?_
  refine Ie.p rfl rfl rfl rfl ?_
  refine Ie.p rfl rfl rfl rfl ?_
  refine Ie.alloc rfl rfl rfl rfl zr59 (fun b10 hb10 => ?_)
  refine Ie.store rfl rfl rfl rfl rfl sz59 rfl (by first | exact .head | exact .tail .head | exact .tail (.tail .head) | exact .tail (.tail (.tail .head))) rfl ?_
  refine Ie.p rfl rfl rfl rfl ?_
  refine Ie.nil ?_
  refine Ne.seq ?_
  refine Ce.seq ?_
  refine Ce.seq ?_
  refine Ce.region ?_
  refine Ie.p rfl rfl rfl rfl ?_
  refine Ie.p rfl rfl rfl rfl ?_
  refine Ie.nil ?_
  refine Ne.seq ?_
  refine Ce.cond_false rfl ?_
  refine Ce.skip ?_
  refine Ne.seq ?_
  refine Ce.seq ?_
  refine Ce.draw [⟨0, .p, true, true, 0⟩, ⟨1, .l, true, true, 1⟩, ⟨2, .p, true, true, 0⟩, ⟨3, .h, true, true, 7⟩, ⟨4, .p, false, false, 0⟩, ⟨5, .l, false, false, 16⟩, ⟨6, .p, false, false, 0⟩, ⟨7, .h, true, true, 127⟩, ⟨8, .p, true, true, 255⟩, ⟨9, .p, true, true, 511⟩] (by kernel_rfl) (by kernel_rfl) (fun base hbase hB => ?_)
  refine De.fieldAddr rfl rfl rfl rfl rfl rfl fa59_0 ?_
  refine De.load rfl rfl rfl rfl rfl rfl rfl rfl ag54 (by first | exact .head | exact .tail .head | exact .tail (.tail .head) | exact .tail (.tail (.tail .head)) | exact .base ‹_› ‹_› (by simp)) rfl ?_
  refine De.p rfl rfl rfl rfl rfl ?_
  refine De.call _ rfl rfl rfl rfl rfl rfl rfl rfl rfl (fun m hm => clr_1 hm.lole ha) ?_
  refine De.fieldAddr rfl rfl rfl rfl rfl rfl fa59_0 ?_
  refine De.loadOld rfl rfl rfl rfl rfl rfl ag54 (by first | exact .head | exact .tail .head | exact .tail (.tail .head) | exact .tail (.tail (.tail .head)) | exact .base ‹_› ‹_› (by simp)) rfl (by first | exact hB _ _ (.head _) | exact hB _ _ (.tail _ (.head _)) | exact hB _ _ (.tail _ (.tail _ (.head _))) | exact hB _ _ (.tail _ (.tail _ (.tail _ (.head _)))) | exact Nat.lt_of_lt_of_le ‹_› hbase) (fun _ => ?_)
  refine De.p rfl rfl rfl rfl rfl ?_
  refine De.call _ rfl rfl rfl rfl rfl rfl rfl rfl rfl (fun m hm => clr_1 hm.lole hb) ?_
  refine De.p rfl rfl rfl rfl rfl ?_
  refine De.p rfl rfl rfl rfl rfl ?_
  refine De.nil ?_
  refine Ne.seq ?_
  refine Ce.seq ?_
  refine Ce.seq ?_
  refine Ce.region ?_
  refine Ie.p rfl rfl rfl rfl ?_
  refine Ie.nil ?_
  refine Ne.seq ?_
  refine Ce.block ?_
  refine Ce.seq ?_
  refine Ce.region ?_
  refine Ie.p rfl rfl rfl rfl ?_
  refine Ie.p rfl rfl rfl rfl ?_
  refine Ie.nil ?_
  refine Ne.seq ?_
  refine Ce.cond_false rfl ?_
  refine Ce.seq ?_
  refine Ce.region ?_
  refine Ie.p rfl rfl rfl rfl ?_
  refine Ie.p rfl rfl rfl rfl ?_
  refine Ie.nil ?_
  refine Ne.seq ?_
  refine Ce.cond_false rfl ?_
  refine Ce.seq ?_
  refine Ce.region ?_
  refine Ie.p rfl rfl rfl rfl ?_
  refine Ie.p rfl rfl rfl rfl ?_
  refine Ie.nil ?_
  refine Ne.seq ?_
  refine Ce.cond_false rfl ?_
  refine Ce.seq ?_
  refine Ce.region ?_
  refine Ie.p rfl rfl rfl rfl ?_
  refine Ie.p rfl rfl rfl rfl ?_
  refine Ie.nil ?_
  refine Ne.seq ?_
  refine Ce.cond_false rfl ?_
  refine Ce.seq ?_
  refine Ce.region ?_
  refine Ie.p rfl rfl rfl rfl ?_
  refine Ie.p rfl rfl rfl rfl ?_
  refine Ie.nil ?_
  refine Ne.seq ?_
  refine Ce.cond_false rfl ?_
  refine Ce.seq ?_
  refine Ce.region ?_
  refine Ie.p rfl rfl rfl rfl ?_
  refine Ie.p rfl rfl rfl rfl ?_
  refine Ie.nil ?_
  refine Ne.seq ?_
  refine Ce.cond_true rfl ?_
  refine Ce.seq ?_
  refine Ce.region ?_
  refine Ie.fieldAddr rfl rfl rfl rfl rfl fa59_6 ?_
  refine Ie.load rfl rfl rfl rfl rfl ag57 (by first | exact .head | exact .tail .head | exact .tail (.tail .head) | exact .tail (.tail (.tail .head)) | exact .base ‹_› ‹_› (by simp)) rfl ?_
  refine Ie.p rfl rfl rfl rfl ?_
  refine Ie.p rfl rfl rfl rfl ?_
  refine Ie.call _ rfl rfl rfl rfl rfl rfl (fun m hm => clr_less hm.lole) ?_
  refine Ie.p rfl rfl rfl rfl ?_
  refine Ie.splitB 79 rfl (fun hs0 => ?_) (fun hs0 => ?_)
  · refine Ie.off rfl rfl rfl ?_
    refine Ie.off rfl rfl rfl ?_
    refine Ie.off rfl rfl rfl ?_
    refine Ie.off rfl rfl rfl ?_
    refine Ie.off rfl rfl rfl ?_
    refine Ie.p rfl rfl rfl rfl ?_
    refine Ie.p rfl rfl rfl rfl ?_
    refine Ie.p rfl rfl rfl rfl ?_
    refine Ie.nil ?_
    refine Ne.seq ?_
    refine Ce.ret ?_
    refine Re.blk ?_
    refine Re.seq ?_
    exact Re.end_ rfl rfl (fun m hm => ⟨by first | rfl | (rw [hs0]; rfl), hm.ext⟩)
  · refine Ie.fieldAddr rfl rfl rfl rfl rfl fa59_7 ?_
    refine Ie.load rfl rfl rfl rfl rfl ag57 (by first | exact .head | exact .tail .head | exact .tail (.tail .head) | exact .tail (.tail (.tail .head)) | exact .base ‹_› ‹_› (by simp)) rfl ?_
    refine Ie.p rfl rfl rfl rfl ?_
    refine Ie.p rfl rfl rfl rfl ?_
    refine Ie.call _ rfl rfl rfl rfl rfl rfl (fun m hm => clr_same hm.lole) ?_
    refine Ie.p rfl rfl rfl rfl ?_
    refine Ie.p rfl rfl rfl rfl ?_
    refine Ie.p rfl rfl rfl rfl ?_
    refine Ie.nil ?_
    refine Ne.seq ?_
    refine Ce.ret ?_
    refine Re.blk ?_
    refine Re.seq ?_
    exact Re.end_ rfl rfl (fun m hm => ⟨by first | rfl | (rw [hs0]; rfl), hm.ext⟩)

theorem RCompare_real_15 {a b : Int} {m : AW} (hm : m.lo ≤ m.next) (ha : Fit .i64 a) (hb : Fit .i64 b) (h1 : w4 a ≠ 9221120237041090561) (h2 : w4 b ≠ 9221120237041090561) : Fc Tryz.prog 31 [.int .i64 4, .int .i64 15, .int .i64 a, .int .i64 b] m fun v m' => v = .bool ((!(FloatKind.f64.format.order (flb (w4 a)) (flb (w4 b)) == some .lt))) ∧ Ext m m' := by
  refine Fc.body (c := _) Tryz.func31 rfl rfl rfl rfl hm ?_
  refine Ce.seq ?_
  refine Ce.region ?_
  refine Ie.p rfl rfl rfl rfl ?_
  refine Ie.nil ?_
  refine Ne.seq ?_
  refine Ce.seq ?_
  refine Ce.region ?_
  refine Ie.p rfl rfl rfl rfl ?_
  refine Ie.p rfl rfl rfl rfl ?_
  refine Ie.call _ rfl rfl rfl rfl rfl rfl (fun m hm => RWrap_real hm.lole ha) ?_
  refine Ie.p rfl rfl rfl rfl ?_
  refine Ie.p rfl rfl rfl rfl ?_
  refine Ie.call _ rfl rfl rfl rfl rfl rfl (fun m hm => RWrap_real hm.lole hb) ?_
  refine Ie.p rfl rfl rfl rfl ?_
  refine Ie.p rfl rfl rfl rfl ?_
  refine Ie.nil ?_
  refine Ne.seq ?_
  refine Ce.seq ?_
  refine Ce.region ?_
  refine Ie.p rfl rfl rfl rfl ?_
  refine Ie.p rfl rfl rfl rfl ?_
  refine Ie.p rfl rfl rfl rfl ?_
  refine Ie.p rfl rfl rfl rfl ?_
  refine Ie.p rfl rfl rfl rfl ?_
  refine Ie.p rfl rfl rfl rfl ?_
  refine Ie.p rfl rfl rfl rfl ?_
  refine Ie.p rfl rfl rfl rfl ?_
  refine Ie.nil ?_
  refine Ne.seq ?_
  refine Ce.seq ?_
  refine Ce.seq ?_
  refine Ce.region ?_
  refine Ie.p rfl rfl rfl rfl ?_
  refine Ie.p rfl rfl rfl rfl ?_
  refine Ie.nil ?_
  refine Ne.seq ?_
  refine Ce.cond_true rfl ?_
  refine Ce.seq ?_
  refine Ce.seq ?_
  refine Ce.region ?_
  refine Ie.p rfl rfl rfl rfl ?_
  refine Ie.bin (v := .bool false) rfl rfl rfl rfl rfl rfl (binS_neql h1) ?_
  refine Ie.p rfl rfl rfl rfl ?_
  refine Ie.p rfl rfl rfl rfl ?_
  refine Ie.bin (v := .bool false) rfl rfl rfl rfl rfl rfl (binS_neql h2) ?_
  refine Ie.p rfl rfl rfl rfl ?_
  refine Ie.nil ?_
  refine Ne.seq ?_
  refine Ce.cond_false rfl ?_
  refine Ce.skip ?_
  refine Ne.seq ?_
  refine Ce.region ?_
  refine Ie.p rfl rfl rfl rfl ?_
  refine Ie.call _ rfl rfl rfl rfl rfl rfl (fun m hm => value_ok hm.lole) ?_
  refine Ie.p rfl rfl rfl rfl ?_
  refine Ie.call _ rfl rfl rfl rfl rfl rfl (fun m hm => value_ok hm.lole) ?_
  refine Ie.p rfl rfl rfl rfl ?_
  refine Ie.p rfl rfl rfl rfl ?_
  refine Ie.call _ rfl rfl rfl rfl rfl rfl (fun m hm => value_ok hm.lole) ?_
  refine Ie.p rfl rfl rfl rfl ?_
  refine Ie.call _ rfl rfl rfl rfl rfl rfl (fun m hm => value_ok hm.lole) ?_
  refine Ie.p rfl rfl rfl rfl ?_
  refine Ie.p rfl rfl rfl rfl ?_
  refine Ie.p rfl rfl rfl rfl ?_
  refine Ie.nil ?_
  refine Ne.seq ?_
  refine Ce.seq ?_
  refine Ce.seq ?_
  refine Ce.region ?_
  refine Ie.p rfl rfl rfl rfl ?_
  refine Ie.nil ?_
  refine Ne.seq ?_
  refine Ce.block ?_
  refine Ce.seq ?_
  refine Ce.region ?_
  refine Ie.p rfl rfl rfl rfl ?_
  refine Ie.p rfl rfl rfl rfl ?_
  refine Ie.nil ?_
  refine Ne.seq ?_
  refine Ce.cond_false rfl ?_
  refine Ce.seq ?_
  refine Ce.region ?_
  refine Ie.p rfl rfl rfl rfl ?_
  refine Ie.p rfl rfl rfl rfl ?_
  refine Ie.nil ?_
  refine Ne.seq ?_
  refine Ce.cond_false rfl ?_
  refine Ce.seq ?_
  refine Ce.region ?_
  refine Ie.p rfl rfl rfl rfl ?_
  refine Ie.p rfl rfl rfl rfl ?_
  refine Ie.nil ?_
  refine Ne.seq ?_
  refine Ce.cond_false rfl ?_
  refine Ce.seq ?_
  refine Ce.region ?_
  refine Ie.p rfl rfl rfl rfl ?_
  refine Ie.p rfl rfl rfl rfl ?_
  refine Ie.nil ?_
  refine Ne.seq ?_
  refine Ce.cond_false rfl ?_
  refine Ce.seq ?_
  refine Ce.region ?_
  refine Ie.p rfl rfl rfl rfl ?_
  refine Ie.p rfl rfl rfl rfl ?_
  refine Ie.nil ?_
  refine Ne.seq ?_
  refine Ce.cond_false rfl ?_
  refine Ce.skip ?_
  refine Ne.blk ?_
  refine Ne.seq ?_
  refine Ce.seq ?_
  refine Ce.region ?_
  refine Ie.p rfl rfl rfl rfl ?_
  refine Ie.p rfl rfl rfl rfl ?_
  refine Ie.p rfl rfl rfl rfl ?_
  refine Ie.nil ?_
  refine Ne.seq ?_
  refine Ce.ret ?_
  exact Re.end_ rfl rfl (fun m hm => ⟨rfl, hm.ext⟩)

theorem RCompare_nan1_15 {a b : Int} {m : AW} (hm : m.lo ≤ m.next) (ha : Fit .i64 a) (hb : Fit .i64 b) (h1 : w4 a = 9221120237041090561) : Fc Tryz.prog 31 [.int .i64 4, .int .i64 15, .int .i64 a, .int .i64 b] m fun v m' => v = .bool false ∧ Ext m m' := by
  refine Fc.body (c := _) Tryz.func31 rfl rfl rfl rfl hm ?_
  refine Ce.seq ?_
  refine Ce.region ?_
  refine Ie.p rfl rfl rfl rfl ?_
  refine Ie.nil ?_
  refine Ne.seq ?_
  refine Ce.seq ?_
  refine Ce.region ?_
  refine Ie.p rfl rfl rfl rfl ?_
  refine Ie.p rfl rfl rfl rfl ?_
  refine Ie.call _ rfl rfl rfl rfl rfl rfl (fun m hm => RWrap_real hm.lole ha) ?_
  refine Ie.p rfl rfl rfl rfl ?_
  refine Ie.p rfl rfl rfl rfl ?_
  refine Ie.call _ rfl rfl rfl rfl rfl rfl (fun m hm => RWrap_real hm.lole hb) ?_
  refine Ie.p rfl rfl rfl rfl ?_
  refine Ie.p rfl rfl rfl rfl ?_
  refine Ie.nil ?_
  refine Ne.seq ?_
  refine Ce.seq ?_
  refine Ce.region ?_
  refine Ie.p rfl rfl rfl rfl ?_
  refine Ie.p rfl rfl rfl rfl ?_
  refine Ie.p rfl rfl rfl rfl ?_
  refine Ie.p rfl rfl rfl rfl ?_
  refine Ie.p rfl rfl rfl rfl ?_
  refine Ie.p rfl rfl rfl rfl ?_
  refine Ie.p rfl rfl rfl rfl ?_
  refine Ie.p rfl rfl rfl rfl ?_
  refine Ie.nil ?_
  refine Ne.seq ?_
  refine Ce.seq ?_
  refine Ce.seq ?_
  refine Ce.region ?_
  refine Ie.p rfl rfl rfl rfl ?_
  refine Ie.p rfl rfl rfl rfl ?_
  refine Ie.nil ?_
  refine Ne.seq ?_
  refine Ce.cond_true rfl ?_
  refine Ce.seq ?_
  refine Ce.seq ?_
  refine Ce.region ?_
  refine Ie.p rfl rfl rfl rfl ?_
  refine Ie.bin (v := .bool true) rfl rfl rfl rfl rfl rfl (binS_eql (h1)) ?_
  refine Ie.p rfl rfl rfl rfl ?_
  refine Ie.off rfl rfl rfl ?_
  refine Ie.off rfl rfl rfl ?_
  refine Ie.p rfl rfl rfl rfl ?_
  refine Ie.nil ?_
  refine Ne.seq ?_
  refine Ce.cond_true rfl ?_
  refine Ce.seq ?_
  refine Ce.region ?_
  refine Ie.p rfl rfl rfl rfl ?_
  refine Ie.p rfl rfl rfl rfl ?_
  refine Ie.p rfl rfl rfl rfl ?_
  refine Ie.nil ?_
  refine Ne.seq ?_
  refine Ce.ret ?_
  refine Re.seq ?_
  refine Re.seq ?_
  exact Re.end_ rfl rfl (fun m hm => ⟨rfl, hm.ext⟩)

theorem RCompare_nan2_15 {a b : Int} {m : AW} (hm : m.lo ≤ m.next) (ha : Fit .i64 a) (hb : Fit .i64 b) (h1 : w4 a ≠ 9221120237041090561) (h2 : w4 b = 9221120237041090561) : Fc Tryz.prog 31 [.int .i64 4, .int .i64 15, .int .i64 a, .int .i64 b] m fun v m' => v = .bool false ∧ Ext m m' := by
  refine Fc.body (c := _) Tryz.func31 rfl rfl rfl rfl hm ?_
  refine Ce.seq ?_
  refine Ce.region ?_
  refine Ie.p rfl rfl rfl rfl ?_
  refine Ie.nil ?_
  refine Ne.seq ?_
  refine Ce.seq ?_
  refine Ce.region ?_
  refine Ie.p rfl rfl rfl rfl ?_
  refine Ie.p rfl rfl rfl rfl ?_
  refine Ie.call _ rfl rfl rfl rfl rfl rfl (fun m hm => RWrap_real hm.lole ha) ?_
  refine Ie.p rfl rfl rfl rfl ?_
  refine Ie.p rfl rfl rfl rfl ?_
  refine Ie.call _ rfl rfl rfl rfl rfl rfl (fun m hm => RWrap_real hm.lole hb) ?_
  refine Ie.p rfl rfl rfl rfl ?_
  refine Ie.p rfl rfl rfl rfl ?_
  refine Ie.nil ?_
  refine Ne.seq ?_
  refine Ce.seq ?_
  refine Ce.region ?_
  refine Ie.p rfl rfl rfl rfl ?_
  refine Ie.p rfl rfl rfl rfl ?_
  refine Ie.p rfl rfl rfl rfl ?_
  refine Ie.p rfl rfl rfl rfl ?_
  refine Ie.p rfl rfl rfl rfl ?_
  refine Ie.p rfl rfl rfl rfl ?_
  refine Ie.p rfl rfl rfl rfl ?_
  refine Ie.p rfl rfl rfl rfl ?_
  refine Ie.nil ?_
  refine Ne.seq ?_
  refine Ce.seq ?_
  refine Ce.seq ?_
  refine Ce.region ?_
  refine Ie.p rfl rfl rfl rfl ?_
  refine Ie.p rfl rfl rfl rfl ?_
  refine Ie.nil ?_
  refine Ne.seq ?_
  refine Ce.cond_true rfl ?_
  refine Ce.seq ?_
  refine Ce.seq ?_
  refine Ce.region ?_
  refine Ie.p rfl rfl rfl rfl ?_
  refine Ie.bin (v := .bool false) rfl rfl rfl rfl rfl rfl (binS_neql h1) ?_
  refine Ie.p rfl rfl rfl rfl ?_
  refine Ie.p rfl rfl rfl rfl ?_
  refine Ie.bin (v := .bool true) rfl rfl rfl rfl rfl rfl (binS_eql (h2)) ?_
  refine Ie.p rfl rfl rfl rfl ?_
  refine Ie.nil ?_
  refine Ne.seq ?_
  refine Ce.cond_true rfl ?_
  refine Ce.seq ?_
  refine Ce.region ?_
  refine Ie.p rfl rfl rfl rfl ?_
  refine Ie.p rfl rfl rfl rfl ?_
  refine Ie.p rfl rfl rfl rfl ?_
  refine Ie.nil ?_
  refine Ne.seq ?_
  refine Ce.ret ?_
  refine Re.seq ?_
  refine Re.seq ?_
  exact Re.end_ rfl rfl (fun m hm => ⟨rfl, hm.ext⟩)

theorem Compare_real_other {op a b : Int} {m : AW} (hm : m.lo ≤ m.next) (ha : Fit .i64 a) (hb : Fit .i64 b) (hop : op < 10 ∨ 15 < op) : Fc Tryz.prog 29 [.int .i64 4, .int .i64 op, .int .i64 a, .int .i64 b] m fun v m' => v = .tuple ⟨[.bool false, .int .i64 2]⟩ ∧ Ext m m' := by
  refine Fc.body (c := _) Tryz.func29 rfl rfl rfl rfl hm ?_
  refine Ce.seq ?_
  refine Ce.region ?_
  refine Ie.p rfl rfl rfl rfl ?_
  refine Ie.p rfl rfl rfl rfl ?_
  refine Ie.nil ?_
  refine Ne.seq ?_
  refine Ce.seq ?_
  refine Ce.region ?_
  refine Ie.p rfl rfl rfl rfl ?_
  refine Ie.call _ rfl rfl rfl rfl rfl rfl (fun m hm => of_real hm.lole) ?_
  refine Ie.p rfl rfl rfl rfl ?_
  refine Ie.p rfl rfl rfl rfl ?_
  refine Ie.p rfl rfl rfl rfl ?_
  refine Ie.alloc rfl rfl rfl rfl zr59 (fun b10 hb10 => ?_)
  refine Ie.store rfl rfl rfl rfl rfl sz59 rfl (by first | exact .head | exact .tail .head | exact .tail (.tail .head) | exact .tail (.tail (.tail .head))) rfl ?_
  refine Ie.p rfl rfl rfl rfl ?_
  refine Ie.nil ?_
  refine Ne.seq ?_
  refine Ce.seq ?_
  refine Ce.seq ?_
  refine Ce.region ?_
  refine Ie.p rfl rfl rfl rfl ?_
  refine Ie.p rfl rfl rfl rfl ?_
  refine Ie.nil ?_
  refine Ne.seq ?_
  refine Ce.cond_false rfl ?_
  refine Ce.skip ?_
  refine Ne.seq ?_
  refine Ce.seq ?_
  refine Ce.draw [⟨0, .p, true, true, 0⟩, ⟨1, .l, true, true, 1⟩, ⟨2, .p, true, true, 0⟩, ⟨3, .h, true, true, 7⟩, ⟨4, .p, false, false, 0⟩, ⟨5, .l, false, false, 16⟩, ⟨6, .p, false, false, 0⟩, ⟨7, .h, true, true, 127⟩, ⟨8, .p, true, true, 255⟩, ⟨9, .p, true, true, 511⟩] (by kernel_rfl) (by kernel_rfl) (fun base hbase hB => ?_)
  refine De.fieldAddr rfl rfl rfl rfl rfl rfl fa59_0 ?_
  refine De.load rfl rfl rfl rfl rfl rfl rfl rfl ag54 (by first | exact .head | exact .tail .head | exact .tail (.tail .head) | exact .tail (.tail (.tail .head)) | exact .base ‹_› ‹_› (by simp)) rfl ?_
  refine De.p rfl rfl rfl rfl rfl ?_
  refine De.call _ rfl rfl rfl rfl rfl rfl rfl rfl rfl (fun m hm => clr_1 hm.lole ha) ?_
  refine De.fieldAddr rfl rfl rfl rfl rfl rfl fa59_0 ?_
  refine De.loadOld rfl rfl rfl rfl rfl rfl ag54 (by first | exact .head | exact .tail .head | exact .tail (.tail .head) | exact .tail (.tail (.tail .head)) | exact .base ‹_› ‹_› (by simp)) rfl (by first | exact hB _ _ (.head _) | exact hB _ _ (.tail _ (.head _)) | exact hB _ _ (.tail _ (.tail _ (.head _))) | exact hB _ _ (.tail _ (.tail _ (.tail _ (.head _)))) | exact Nat.lt_of_lt_of_le ‹_› hbase) (fun _ => ?_)
  refine De.p rfl rfl rfl rfl rfl ?_
  refine De.call _ rfl rfl rfl rfl rfl rfl rfl rfl rfl (fun m hm => clr_1 hm.lole hb) ?_
  refine De.p rfl rfl rfl rfl rfl ?_
  refine De.p rfl rfl rfl rfl rfl ?_
  refine De.nil ?_
  refine Ne.seq ?_
  refine Ce.seq ?_
  refine Ce.seq ?_
  refine Ce.region ?_
  refine Ie.p rfl rfl rfl rfl ?_
  refine Ie.nil ?_
  refine Ne.seq ?_
  refine Ce.block ?_
  refine Ce.seq ?_
  refine Ce.region ?_
  refine Ie.p rfl rfl rfl rfl ?_
  refine Ie.p rfl rfl rfl rfl ?_
  refine Ie.nil ?_
  refine Ne.seq ?_
  refine Ce.cond_false (by rw [eqI_eq, decide_eq_false (by omega)]; rfl) ?_
  refine Ce.seq ?_
  refine Ce.region ?_
  refine Ie.p rfl rfl rfl rfl ?_
  refine Ie.p rfl rfl rfl rfl ?_
  refine Ie.nil ?_
  refine Ne.seq ?_
  refine Ce.cond_false (by rw [eqI_eq, decide_eq_false (by omega)]; rfl) ?_
  refine Ce.seq ?_
  refine Ce.region ?_
  refine Ie.p rfl rfl rfl rfl ?_
  refine Ie.p rfl rfl rfl rfl ?_
  refine Ie.nil ?_
  refine Ne.seq ?_
  refine Ce.cond_false (by rw [eqI_eq, decide_eq_false (by omega)]; rfl) ?_
  refine Ce.seq ?_
  refine Ce.region ?_
  refine Ie.p rfl rfl rfl rfl ?_
  refine Ie.p rfl rfl rfl rfl ?_
  refine Ie.nil ?_
  refine Ne.seq ?_
  refine Ce.cond_false (by rw [eqI_eq, decide_eq_false (by omega)]; rfl) ?_
  refine Ce.seq ?_
  refine Ce.region ?_
  refine Ie.p rfl rfl rfl rfl ?_
  refine Ie.p rfl rfl rfl rfl ?_
  refine Ie.nil ?_
  refine Ne.seq ?_
  refine Ce.cond_false (by rw [eqI_eq, decide_eq_false (by omega)]; rfl) ?_
  refine Ce.seq ?_
  refine Ce.region ?_
  refine Ie.p rfl rfl rfl rfl ?_
  refine Ie.p rfl rfl rfl rfl ?_
  refine Ie.nil ?_
  refine Ne.seq ?_
  refine Ce.cond_false (by rw [eqI_eq, decide_eq_false (by omega)]; rfl) ?_
  refine Ce.skip ?_
  refine Ne.blk ?_
  refine Ne.seq ?_
  refine Ce.seq ?_
  refine Ce.region ?_
  refine Ie.p rfl rfl rfl rfl ?_
  refine Ie.p rfl rfl rfl rfl ?_
  refine Ie.nil ?_
  refine Ne.seq ?_
  refine Ce.ret ?_
  exact Re.end_ rfl rfl (fun m hm => ⟨rfl, hm.ext⟩)

theorem Compare_none {kind op a b : Int} {m : AW} (hm : m.lo ≤ m.next) (h1 : kind ≠ 1) (h2 : kind ≠ 2) (h3 : kind ≠ 3) (h4 : kind ≠ 4) : Fc Tryz.prog 29 [.int .i64 kind, .int .i64 op, .int .i64 a, .int .i64 b] m fun v m' => v = .tuple ⟨[.bool false, .int .i64 13]⟩ ∧ Ext m m' := by
  refine Fc.body (c := _) Tryz.func29 rfl rfl rfl rfl hm ?_
  refine Ce.seq ?_
  refine Ce.region ?_
  refine Ie.p rfl rfl rfl rfl ?_
  refine Ie.p rfl rfl rfl rfl ?_
  refine Ie.nil ?_
  refine Ne.seq ?_
  refine Ce.seq ?_
  refine Ce.region ?_
  refine Ie.p rfl rfl rfl rfl ?_
  refine Ie.call _ rfl rfl rfl rfl rfl rfl (fun m hm => of_none hm.lole h1 h2 h3 h4) ?_
  refine Ie.p rfl rfl rfl rfl ?_
  refine Ie.p rfl rfl rfl rfl ?_
  refine Ie.p rfl rfl rfl rfl ?_
  refine Ie.alloc rfl rfl rfl rfl zr59 (fun b10 hb10 => ?_)
  refine Ie.store rfl rfl rfl rfl rfl sz59 rfl (by first | exact .head | exact .tail .head | exact .tail (.tail .head) | exact .tail (.tail (.tail .head))) rfl ?_
  refine Ie.p rfl rfl rfl rfl ?_
  refine Ie.nil ?_
  refine Ne.seq ?_
  refine Ce.seq ?_
  refine Ce.seq ?_
  refine Ce.region ?_
  refine Ie.p rfl rfl rfl rfl ?_
  refine Ie.p rfl rfl rfl rfl ?_
  refine Ie.nil ?_
  refine Ne.seq ?_
  refine Ce.cond_true rfl ?_
  refine Ce.seq ?_
  refine Ce.region ?_
  refine Ie.p rfl rfl rfl rfl ?_
  refine Ie.p rfl rfl rfl rfl ?_
  refine Ie.p rfl rfl rfl rfl ?_
  refine Ie.nil ?_
  refine Ne.seq ?_
  refine Ce.ret ?_
  refine Re.seq ?_
  exact Re.end_ rfl rfl (fun m hm => ⟨rfl, hm.ext⟩)

theorem FitsCompare_10 {m : AW} (hm : m.lo ≤ m.next) : Fc Tryz.prog 30 [.int .i64 10] m fun v m' => v = .bool true ∧ Ext m m' := by
  refine Fc.body (c := _) Tryz.func30 rfl rfl rfl rfl hm ?_
  refine Ce.seq ?_
  refine Ce.region ?_
  refine Ie.p rfl rfl rfl rfl ?_
  refine Ie.nil ?_
  refine Ne.seq ?_
  refine Ce.seq ?_
  refine Ce.region ?_
  refine Ie.p rfl rfl rfl rfl ?_
  refine Ie.p rfl rfl rfl rfl ?_
  refine Ie.p rfl rfl rfl rfl ?_
  refine Ie.p rfl rfl rfl rfl ?_
  refine Ie.p rfl rfl rfl rfl ?_
  refine Ie.p rfl rfl rfl rfl ?_
  refine Ie.p rfl rfl rfl rfl ?_
  refine Ie.nil ?_
  refine Ne.seq ?_
  refine Ce.ret ?_
  exact Re.end_ rfl rfl (fun m hm => ⟨rfl, hm.ext⟩)

theorem FitsCompare_11 {m : AW} (hm : m.lo ≤ m.next) : Fc Tryz.prog 30 [.int .i64 11] m fun v m' => v = .bool true ∧ Ext m m' := by
  refine Fc.body (c := _) Tryz.func30 rfl rfl rfl rfl hm ?_
  refine Ce.seq ?_
  refine Ce.region ?_
  refine Ie.p rfl rfl rfl rfl ?_
  refine Ie.nil ?_
  refine Ne.seq ?_
  refine Ce.seq ?_
  refine Ce.region ?_
  refine Ie.p rfl rfl rfl rfl ?_
  refine Ie.p rfl rfl rfl rfl ?_
  refine Ie.p rfl rfl rfl rfl ?_
  refine Ie.p rfl rfl rfl rfl ?_
  refine Ie.p rfl rfl rfl rfl ?_
  refine Ie.p rfl rfl rfl rfl ?_
  refine Ie.p rfl rfl rfl rfl ?_
  refine Ie.nil ?_
  refine Ne.seq ?_
  refine Ce.ret ?_
  exact Re.end_ rfl rfl (fun m hm => ⟨rfl, hm.ext⟩)

theorem FitsCompare_12 {m : AW} (hm : m.lo ≤ m.next) : Fc Tryz.prog 30 [.int .i64 12] m fun v m' => v = .bool true ∧ Ext m m' := by
  refine Fc.body (c := _) Tryz.func30 rfl rfl rfl rfl hm ?_
  refine Ce.seq ?_
  refine Ce.region ?_
  refine Ie.p rfl rfl rfl rfl ?_
  refine Ie.nil ?_
  refine Ne.seq ?_
  refine Ce.seq ?_
  refine Ce.region ?_
  refine Ie.p rfl rfl rfl rfl ?_
  refine Ie.p rfl rfl rfl rfl ?_
  refine Ie.p rfl rfl rfl rfl ?_
  refine Ie.p rfl rfl rfl rfl ?_
  refine Ie.p rfl rfl rfl rfl ?_
  refine Ie.p rfl rfl rfl rfl ?_
  refine Ie.p rfl rfl rfl rfl ?_
  refine Ie.nil ?_
  refine Ne.seq ?_
  refine Ce.ret ?_
  exact Re.end_ rfl rfl (fun m hm => ⟨rfl, hm.ext⟩)

theorem FitsCompare_13 {m : AW} (hm : m.lo ≤ m.next) : Fc Tryz.prog 30 [.int .i64 13] m fun v m' => v = .bool true ∧ Ext m m' := by
  refine Fc.body (c := _) Tryz.func30 rfl rfl rfl rfl hm ?_
  refine Ce.seq ?_
  refine Ce.region ?_
  refine Ie.p rfl rfl rfl rfl ?_
  refine Ie.nil ?_
  refine Ne.seq ?_
  refine Ce.seq ?_
  refine Ce.region ?_
  refine Ie.p rfl rfl rfl rfl ?_
  refine Ie.p rfl rfl rfl rfl ?_
  refine Ie.p rfl rfl rfl rfl ?_
  refine Ie.p rfl rfl rfl rfl ?_
  refine Ie.p rfl rfl rfl rfl ?_
  refine Ie.p rfl rfl rfl rfl ?_
  refine Ie.p rfl rfl rfl rfl ?_
  refine Ie.nil ?_
  refine Ne.seq ?_
  refine Ce.ret ?_
  exact Re.end_ rfl rfl (fun m hm => ⟨rfl, hm.ext⟩)

theorem FitsCompare_14 {m : AW} (hm : m.lo ≤ m.next) : Fc Tryz.prog 30 [.int .i64 14] m fun v m' => v = .bool true ∧ Ext m m' := by
  refine Fc.body (c := _) Tryz.func30 rfl rfl rfl rfl hm ?_
  refine Ce.seq ?_
  refine Ce.region ?_
  refine Ie.p rfl rfl rfl rfl ?_
  refine Ie.nil ?_
  refine Ne.seq ?_
  refine Ce.seq ?_
  refine Ce.region ?_
  refine Ie.p rfl rfl rfl rfl ?_
  refine Ie.p rfl rfl rfl rfl ?_
  refine Ie.p rfl rfl rfl rfl ?_
  refine Ie.p rfl rfl rfl rfl ?_
  refine Ie.p rfl rfl rfl rfl ?_
  refine Ie.p rfl rfl rfl rfl ?_
  refine Ie.p rfl rfl rfl rfl ?_
  refine Ie.nil ?_
  refine Ne.seq ?_
  refine Ce.ret ?_
  exact Re.end_ rfl rfl (fun m hm => ⟨rfl, hm.ext⟩)

theorem FitsCompare_15 {m : AW} (hm : m.lo ≤ m.next) : Fc Tryz.prog 30 [.int .i64 15] m fun v m' => v = .bool true ∧ Ext m m' := by
  refine Fc.body (c := _) Tryz.func30 rfl rfl rfl rfl hm ?_
  refine Ce.seq ?_
  refine Ce.region ?_
  refine Ie.p rfl rfl rfl rfl ?_
  refine Ie.nil ?_
  refine Ne.seq ?_
  refine Ce.seq ?_
  refine Ce.region ?_
  refine Ie.p rfl rfl rfl rfl ?_
  refine Ie.p rfl rfl rfl rfl ?_
  refine Ie.p rfl rfl rfl rfl ?_
  refine Ie.p rfl rfl rfl rfl ?_
  refine Ie.p rfl rfl rfl rfl ?_
  refine Ie.p rfl rfl rfl rfl ?_
  refine Ie.p rfl rfl rfl rfl ?_
  refine Ie.nil ?_
  refine Ne.seq ?_
  refine Ce.ret ?_
  exact Re.end_ rfl rfl (fun m hm => ⟨rfl, hm.ext⟩)

theorem FitsCompare_lo {op : Int} {m : AW} (hm : m.lo ≤ m.next) (h : op < 10) : Fc Tryz.prog 30 [.int .i64 op] m fun v m' => v = .bool false ∧ Ext m m' := by
  refine Fc.body (c := _) Tryz.func30 rfl rfl rfl rfl hm ?_
  refine Ce.seq ?_
  refine Ce.region ?_
  refine Ie.p rfl rfl rfl rfl ?_
  refine Ie.nil ?_
  refine Ne.seq ?_
  refine Ce.seq ?_
  refine Ce.region ?_
  refine Ie.p rfl rfl rfl rfl ?_
  refine Ie.bin (v := .bool false) rfl rfl rfl rfl rfl rfl (binS_ngeq (by omega)) ?_
  refine Ie.p rfl rfl rfl rfl ?_
  refine Ie.off rfl rfl rfl ?_
  refine Ie.off rfl rfl rfl ?_
  refine Ie.p rfl rfl rfl rfl ?_
  refine Ie.p rfl rfl rfl rfl ?_
  refine Ie.nil ?_
  refine Ne.seq ?_
  refine Ce.ret ?_
  exact Re.end_ rfl rfl (fun m hm => ⟨rfl, hm.ext⟩)

theorem FitsCompare_hi {op : Int} {m : AW} (hm : m.lo ≤ m.next) (h : 15 < op) : Fc Tryz.prog 30 [.int .i64 op] m fun v m' => v = .bool false ∧ Ext m m' := by
  refine Fc.body (c := _) Tryz.func30 rfl rfl rfl rfl hm ?_
  refine Ce.seq ?_
  refine Ce.region ?_
  refine Ie.p rfl rfl rfl rfl ?_
  refine Ie.nil ?_
  refine Ne.seq ?_
  refine Ce.seq ?_
  refine Ce.region ?_
  refine Ie.p rfl rfl rfl rfl ?_
  refine Ie.bin (v := .bool true) rfl rfl rfl rfl rfl rfl (binS_geq (by omega)) ?_
  refine Ie.p rfl rfl rfl rfl ?_
  refine Ie.p rfl rfl rfl rfl ?_
  refine Ie.bin (v := .bool false) rfl rfl rfl rfl rfl rfl (binS_nleq (by omega)) ?_
  refine Ie.p rfl rfl rfl rfl ?_
  refine Ie.p rfl rfl rfl rfl ?_
  refine Ie.nil ?_
  refine Ne.seq ?_
  refine Ce.ret ?_
  exact Re.end_ rfl rfl (fun m hm => ⟨rfl, hm.ext⟩)

theorem FitsCompare_other {op : Int} {m : AW} (hm : m.lo ≤ m.next) (h : op < 10 ∨ 15 < op) : Fc Tryz.prog 30 [.int .i64 op] m fun v m' => v = .bool false ∧ Ext m m' :=
  h.elim (fun h => FitsCompare_lo hm h) (fun h => FitsCompare_hi hm h)

theorem compares_u8_10 {a b : Int} {m : AW} (hm : m.lo ≤ m.next) (hlay : LaidAt lays m) (ha : Fit .i64 a) (hb : Fit .i64 b)  (hc : eqI (wr .u8 a) (wr .u8 b) = (!ltI (wr .u8 a) (wr .u8 b) && !ltI (wr .u8 b) (wr .u8 a))) : Fc Tryz.prog 9 [.agg ⟨[.int .i64 1, .int .i64 10, .int .i64 a, .int .i64 b]⟩] m fun v m' => v = .bool true ∧ Ext m m' := by
  refine Fc.body (c := _) Tryz.func9 rfl rfl rfl rfl hm ?_
  refine Ce.seq ?_
  refine Ce.region ?_
  refine Ie.box rfl rfl rfl rfl rfl (fun b1 hb1 => ?_)
  refine Ie.p rfl rfl rfl rfl ?_
  refine Ie.nil ?_
  refine Ne.seq ?_
  refine Ce.seq ?_
  refine Ce.region ?_
  refine Ie.fieldAddr rfl rfl rfl rfl rfl fa43_0 ?_
  refine Ie.load rfl rfl rfl rfl rfl ag3 (by first | exact .head | exact .tail .head | exact .tail (.tail .head) | exact .tail (.tail (.tail .head)) | exact .base ‹_› ‹_› (by simp)) rfl ?_
  refine Ie.fieldAddr rfl rfl rfl rfl rfl fa43_1 ?_
  refine Ie.load rfl rfl rfl rfl rfl ag3 (by first | exact .head | exact .tail .head | exact .tail (.tail .head) | exact .tail (.tail (.tail .head)) | exact .base ‹_› ‹_› (by simp)) rfl ?_
  refine Ie.fieldAddr rfl rfl rfl rfl rfl fa43_2 ?_
  refine Ie.load rfl rfl rfl rfl rfl ag2 (by first | exact .head | exact .tail .head | exact .tail (.tail .head) | exact .tail (.tail (.tail .head)) | exact .base ‹_› ‹_› (by simp)) rfl ?_
  refine Ie.fieldAddr rfl rfl rfl rfl rfl fa43_3 ?_
  refine Ie.load rfl rfl rfl rfl rfl ag2 (by first | exact .head | exact .tail .head | exact .tail (.tail .head) | exact .tail (.tail (.tail .head)) | exact .base ‹_› ‹_› (by simp)) rfl ?_
  refine Ie.call _ rfl rfl rfl rfl rfl rfl (fun m hm => Compare_u8_10 hm.lole ha hb) ?_
  refine Ie.p rfl rfl rfl rfl ?_
  refine Ie.p rfl rfl rfl rfl ?_
  refine Ie.p rfl rfl rfl rfl ?_
  refine Ie.p rfl rfl rfl rfl ?_
  refine Ie.p rfl rfl rfl rfl ?_
  refine Ie.nil ?_
  refine Ne.seq ?_
  refine Ce.seq ?_
  refine Ce.block ?_
  refine Ce.seq ?_
  refine Ce.region ?_
  refine Ie.call _ rfl rfl rfl rfl rfl rfl (fun m hm => awake_ok (hlay.kr hm)) ?_
  refine Ie.p rfl rfl rfl rfl ?_
  refine Ie.p rfl rfl rfl rfl ?_
  refine Ie.nil ?_
  refine Ne.seq ?_
  refine Ce.cond_false rfl ?_
  refine Ce.seq ?_
  refine Ce.region ?_
  refine Ie.fieldAddr rfl rfl rfl rfl rfl fa43_0 ?_
  refine Ie.load rfl rfl rfl rfl rfl ag3 (by first | exact .head | exact .tail .head | exact .tail (.tail .head) | exact .tail (.tail (.tail .head)) | exact .base ‹_› ‹_› (by simp)) rfl ?_
  refine Ie.call _ rfl rfl rfl rfl rfl rfl (fun m hm => Kind_u8 hm.lole) ?_
  refine Ie.p rfl rfl rfl rfl ?_
  refine Ie.p rfl rfl rfl rfl ?_
  refine Ie.nil ?_
  refine Ne.seq ?_
  refine Ce.cond_false rfl ?_
  refine Ce.seq ?_
  refine Ce.region ?_
  refine Ie.fieldAddr rfl rfl rfl rfl rfl fa43_1 ?_
  refine Ie.load rfl rfl rfl rfl rfl ag3 (by first | exact .head | exact .tail .head | exact .tail (.tail .head) | exact .tail (.tail (.tail .head)) | exact .base ‹_› ‹_› (by simp)) rfl ?_
  refine Ie.call _ rfl rfl rfl rfl rfl rfl (fun m hm => FitsCompare_10 hm.lole) ?_
  refine Ie.p rfl rfl rfl rfl ?_
  refine Ie.p rfl rfl rfl rfl ?_
  refine Ie.nil ?_
  refine Ne.seq ?_
  refine Ce.cond_false rfl ?_
  refine Ce.skip ?_
  refine Ne.blk ?_
  refine Ne.seq ?_
  refine Ce.seq ?_
  refine Ce.region ?_
  refine Ie.p rfl rfl rfl rfl ?_
  refine Ie.p rfl rfl rfl rfl ?_
  refine Ie.p rfl rfl rfl rfl ?_
  refine Ie.p rfl rfl rfl rfl ?_
  refine Ie.fieldAddr rfl rfl rfl rfl rfl fa43_0 ?_
  refine Ie.load rfl rfl rfl rfl rfl ag3 (by first | exact .head | exact .tail .head | exact .tail (.tail .head) | exact .tail (.tail (.tail .head)) | exact .base ‹_› ‹_› (by simp)) rfl ?_
  refine Ie.fieldAddr rfl rfl rfl rfl rfl fa43_1 ?_
  refine Ie.load rfl rfl rfl rfl rfl ag3 (by first | exact .head | exact .tail .head | exact .tail (.tail .head) | exact .tail (.tail (.tail .head)) | exact .base ‹_› ‹_› (by simp)) rfl ?_
  refine Ie.fieldAddr rfl rfl rfl rfl rfl fa43_2 ?_
  refine Ie.load rfl rfl rfl rfl rfl ag2 (by first | exact .head | exact .tail .head | exact .tail (.tail .head) | exact .tail (.tail (.tail .head)) | exact .base ‹_› ‹_› (by simp)) rfl ?_
  refine Ie.fieldAddr rfl rfl rfl rfl rfl fa43_3 ?_
  refine Ie.load rfl rfl rfl rfl rfl ag2 (by first | exact .head | exact .tail .head | exact .tail (.tail .head) | exact .tail (.tail (.tail .head)) | exact .base ‹_› ‹_› (by simp)) rfl ?_
  refine Ie.call _ rfl rfl rfl rfl rfl rfl (fun m hm => RCompare_u8_10 hm.lole ha hb) ?_
  refine Ie.eqBool rfl rfl rfl rfl Tryz.underlying4 rfl rfl ?_
  refine Ie.as 55 (.bool true) rfl (by rw [hc]; exact congrArg Value.bool (beq_self_eq_true _)) ?_
  refine Ie.p rfl rfl rfl rfl ?_
  refine Ie.p rfl rfl rfl rfl ?_
  refine Ie.nil ?_
  refine Ne.seq ?_
  refine Ce.ret ?_
  exact Re.end_ rfl rfl (fun m hm => ⟨rfl, hm.ext⟩)

theorem compares_u8_11 {a b : Int} {m : AW} (hm : m.lo ≤ m.next) (hlay : LaidAt lays m) (ha : Fit .i64 a) (hb : Fit .i64 b)  (hc : (!eqI (wr .u8 a) (wr .u8 b)) = (ltI (wr .u8 a) (wr .u8 b) || ltI (wr .u8 b) (wr .u8 a))) : Fc Tryz.prog 9 [.agg ⟨[.int .i64 1, .int .i64 11, .int .i64 a, .int .i64 b]⟩] m fun v m' => v = .bool true ∧ Ext m m' := by
  refine Fc.body (c := _) Tryz.func9 rfl rfl rfl rfl hm ?_
  refine Ce.seq ?_
  refine Ce.region ?_
  refine Ie.box rfl rfl rfl rfl rfl (fun b1 hb1 => ?_)
  refine Ie.p rfl rfl rfl rfl ?_
  refine Ie.nil ?_
  refine Ne.seq ?_
  refine Ce.seq ?_
  refine Ce.region ?_
  refine Ie.fieldAddr rfl rfl rfl rfl rfl fa43_0 ?_
  refine Ie.load rfl rfl rfl rfl rfl ag3 (by first | exact .head | exact .tail .head | exact .tail (.tail .head) | exact .tail (.tail (.tail .head)) | exact .base ‹_› ‹_› (by simp)) rfl ?_
  refine Ie.fieldAddr rfl rfl rfl rfl rfl fa43_1 ?_
  refine Ie.load rfl rfl rfl rfl rfl ag3 (by first | exact .head | exact .tail .head | exact .tail (.tail .head) | exact .tail (.tail (.tail .head)) | exact .base ‹_› ‹_› (by simp)) rfl ?_
  refine Ie.fieldAddr rfl rfl rfl rfl rfl fa43_2 ?_
  refine Ie.load rfl rfl rfl rfl rfl ag2 (by first | exact .head | exact .tail .head | exact .tail (.tail .head) | exact .tail (.tail (.tail .head)) | exact .base ‹_› ‹_› (by simp)) rfl ?_
  refine Ie.fieldAddr rfl rfl rfl rfl rfl fa43_3 ?_
  refine Ie.load rfl rfl rfl rfl rfl ag2 (by first | exact .head | exact .tail .head | exact .tail (.tail .head) | exact .tail (.tail (.tail .head)) | exact .base ‹_› ‹_› (by simp)) rfl ?_
  refine Ie.call _ rfl rfl rfl rfl rfl rfl (fun m hm => Compare_u8_11 hm.lole ha hb) ?_
  refine Ie.p rfl rfl rfl rfl ?_
  refine Ie.p rfl rfl rfl rfl ?_
  refine Ie.p rfl rfl rfl rfl ?_
  refine Ie.p rfl rfl rfl rfl ?_
  refine Ie.p rfl rfl rfl rfl ?_
  refine Ie.nil ?_
  refine Ne.seq ?_
  refine Ce.seq ?_
  refine Ce.block ?_
  refine Ce.seq ?_
  refine Ce.region ?_
  refine Ie.call _ rfl rfl rfl rfl rfl rfl (fun m hm => awake_ok (hlay.kr hm)) ?_
  refine Ie.p rfl rfl rfl rfl ?_
  refine Ie.p rfl rfl rfl rfl ?_
  refine Ie.nil ?_
  refine Ne.seq ?_
  refine Ce.cond_false rfl ?_
  refine Ce.seq ?_
  refine Ce.region ?_
  refine Ie.fieldAddr rfl rfl rfl rfl rfl fa43_0 ?_
  refine Ie.load rfl rfl rfl rfl rfl ag3 (by first | exact .head | exact .tail .head | exact .tail (.tail .head) | exact .tail (.tail (.tail .head)) | exact .base ‹_› ‹_› (by simp)) rfl ?_
  refine Ie.call _ rfl rfl rfl rfl rfl rfl (fun m hm => Kind_u8 hm.lole) ?_
  refine Ie.p rfl rfl rfl rfl ?_
  refine Ie.p rfl rfl rfl rfl ?_
  refine Ie.nil ?_
  refine Ne.seq ?_
  refine Ce.cond_false rfl ?_
  refine Ce.seq ?_
  refine Ce.region ?_
  refine Ie.fieldAddr rfl rfl rfl rfl rfl fa43_1 ?_
  refine Ie.load rfl rfl rfl rfl rfl ag3 (by first | exact .head | exact .tail .head | exact .tail (.tail .head) | exact .tail (.tail (.tail .head)) | exact .base ‹_› ‹_› (by simp)) rfl ?_
  refine Ie.call _ rfl rfl rfl rfl rfl rfl (fun m hm => FitsCompare_11 hm.lole) ?_
  refine Ie.p rfl rfl rfl rfl ?_
  refine Ie.p rfl rfl rfl rfl ?_
  refine Ie.nil ?_
  refine Ne.seq ?_
  refine Ce.cond_false rfl ?_
  refine Ce.skip ?_
  refine Ne.blk ?_
  refine Ne.seq ?_
  refine Ce.seq ?_
  refine Ce.region ?_
  refine Ie.p rfl rfl rfl rfl ?_
  refine Ie.p rfl rfl rfl rfl ?_
  refine Ie.p rfl rfl rfl rfl ?_
  refine Ie.p rfl rfl rfl rfl ?_
  refine Ie.fieldAddr rfl rfl rfl rfl rfl fa43_0 ?_
  refine Ie.load rfl rfl rfl rfl rfl ag3 (by first | exact .head | exact .tail .head | exact .tail (.tail .head) | exact .tail (.tail (.tail .head)) | exact .base ‹_› ‹_› (by simp)) rfl ?_
  refine Ie.fieldAddr rfl rfl rfl rfl rfl fa43_1 ?_
  refine Ie.load rfl rfl rfl rfl rfl ag3 (by first | exact .head | exact .tail .head | exact .tail (.tail .head) | exact .tail (.tail (.tail .head)) | exact .base ‹_› ‹_› (by simp)) rfl ?_
  refine Ie.fieldAddr rfl rfl rfl rfl rfl fa43_2 ?_
  refine Ie.load rfl rfl rfl rfl rfl ag2 (by first | exact .head | exact .tail .head | exact .tail (.tail .head) | exact .tail (.tail (.tail .head)) | exact .base ‹_› ‹_› (by simp)) rfl ?_
  refine Ie.fieldAddr rfl rfl rfl rfl rfl fa43_3 ?_
  refine Ie.load rfl rfl rfl rfl rfl ag2 (by first | exact .head | exact .tail .head | exact .tail (.tail .head) | exact .tail (.tail (.tail .head)) | exact .base ‹_› ‹_› (by simp)) rfl ?_
  refine Ie.call _ rfl rfl rfl rfl rfl rfl (fun m hm => RCompare_u8_11 hm.lole ha hb) ?_
  refine Ie.eqBool rfl rfl rfl rfl Tryz.underlying4 rfl rfl ?_
  refine Ie.as 55 (.bool true) rfl (by rw [hc]; exact congrArg Value.bool (beq_self_eq_true _)) ?_
  refine Ie.p rfl rfl rfl rfl ?_
  refine Ie.p rfl rfl rfl rfl ?_
  refine Ie.nil ?_
  refine Ne.seq ?_
  refine Ce.ret ?_
  exact Re.end_ rfl rfl (fun m hm => ⟨rfl, hm.ext⟩)

theorem compares_u8_12 {a b : Int} {m : AW} (hm : m.lo ≤ m.next) (hlay : LaidAt lays m) (ha : Fit .i64 a) (hb : Fit .i64 b)  (hc : ltI (wr .u8 a) (wr .u8 b) = ltI (wr .u8 a) (wr .u8 b)) : Fc Tryz.prog 9 [.agg ⟨[.int .i64 1, .int .i64 12, .int .i64 a, .int .i64 b]⟩] m fun v m' => v = .bool true ∧ Ext m m' := by
  refine Fc.body (c := _) Tryz.func9 rfl rfl rfl rfl hm ?_
  refine Ce.seq ?_
  refine Ce.region ?_
  refine Ie.box rfl rfl rfl rfl rfl (fun b1 hb1 => ?_)
  refine Ie.p rfl rfl rfl rfl ?_
  refine Ie.nil ?_
  refine Ne.seq ?_
  refine Ce.seq ?_
  refine Ce.region ?_
  refine Ie.fieldAddr rfl rfl rfl rfl rfl fa43_0 ?_
  refine Ie.load rfl rfl rfl rfl rfl ag3 (by first | exact .head | exact .tail .head | exact .tail (.tail .head) | exact .tail (.tail (.tail .head)) | exact .base ‹_› ‹_› (by simp)) rfl ?_
  refine Ie.fieldAddr rfl rfl rfl rfl rfl fa43_1 ?_
  refine Ie.load rfl rfl rfl rfl rfl ag3 (by first | exact .head | exact .tail .head | exact .tail (.tail .head) | exact .tail (.tail (.tail .head)) | exact .base ‹_› ‹_› (by simp)) rfl ?_
  refine Ie.fieldAddr rfl rfl rfl rfl rfl fa43_2 ?_
  refine Ie.load rfl rfl rfl rfl rfl ag2 (by first | exact .head | exact .tail .head | exact .tail (.tail .head) | exact .tail (.tail (.tail .head)) | exact .base ‹_› ‹_› (by simp)) rfl ?_
  refine Ie.fieldAddr rfl rfl rfl rfl rfl fa43_3 ?_
  refine Ie.load rfl rfl rfl rfl rfl ag2 (by first | exact .head | exact .tail .head | exact .tail (.tail .head) | exact .tail (.tail (.tail .head)) | exact .base ‹_› ‹_› (by simp)) rfl ?_
  refine Ie.call _ rfl rfl rfl rfl rfl rfl (fun m hm => Compare_u8_12 hm.lole ha hb) ?_
  refine Ie.p rfl rfl rfl rfl ?_
  refine Ie.p rfl rfl rfl rfl ?_
  refine Ie.p rfl rfl rfl rfl ?_
  refine Ie.p rfl rfl rfl rfl ?_
  refine Ie.p rfl rfl rfl rfl ?_
  refine Ie.nil ?_
  refine Ne.seq ?_
  refine Ce.seq ?_
  refine Ce.block ?_
  refine Ce.seq ?_
  refine Ce.region ?_
  refine Ie.call _ rfl rfl rfl rfl rfl rfl (fun m hm => awake_ok (hlay.kr hm)) ?_
  refine Ie.p rfl rfl rfl rfl ?_
  refine Ie.p rfl rfl rfl rfl ?_
  refine Ie.nil ?_
  refine Ne.seq ?_
  refine Ce.cond_false rfl ?_
  refine Ce.seq ?_
  refine Ce.region ?_
  refine Ie.fieldAddr rfl rfl rfl rfl rfl fa43_0 ?_
  refine Ie.load rfl rfl rfl rfl rfl ag3 (by first | exact .head | exact .tail .head | exact .tail (.tail .head) | exact .tail (.tail (.tail .head)) | exact .base ‹_› ‹_› (by simp)) rfl ?_
  refine Ie.call _ rfl rfl rfl rfl rfl rfl (fun m hm => Kind_u8 hm.lole) ?_
  refine Ie.p rfl rfl rfl rfl ?_
  refine Ie.p rfl rfl rfl rfl ?_
  refine Ie.nil ?_
  refine Ne.seq ?_
  refine Ce.cond_false rfl ?_
  refine Ce.seq ?_
  refine Ce.region ?_
  refine Ie.fieldAddr rfl rfl rfl rfl rfl fa43_1 ?_
  refine Ie.load rfl rfl rfl rfl rfl ag3 (by first | exact .head | exact .tail .head | exact .tail (.tail .head) | exact .tail (.tail (.tail .head)) | exact .base ‹_› ‹_› (by simp)) rfl ?_
  refine Ie.call _ rfl rfl rfl rfl rfl rfl (fun m hm => FitsCompare_12 hm.lole) ?_
  refine Ie.p rfl rfl rfl rfl ?_
  refine Ie.p rfl rfl rfl rfl ?_
  refine Ie.nil ?_
  refine Ne.seq ?_
  refine Ce.cond_false rfl ?_
  refine Ce.skip ?_
  refine Ne.blk ?_
  refine Ne.seq ?_
  refine Ce.seq ?_
  refine Ce.region ?_
  refine Ie.p rfl rfl rfl rfl ?_
  refine Ie.p rfl rfl rfl rfl ?_
  refine Ie.p rfl rfl rfl rfl ?_
  refine Ie.p rfl rfl rfl rfl ?_
  refine Ie.fieldAddr rfl rfl rfl rfl rfl fa43_0 ?_
  refine Ie.load rfl rfl rfl rfl rfl ag3 (by first | exact .head | exact .tail .head | exact .tail (.tail .head) | exact .tail (.tail (.tail .head)) | exact .base ‹_› ‹_› (by simp)) rfl ?_
  refine Ie.fieldAddr rfl rfl rfl rfl rfl fa43_1 ?_
  refine Ie.load rfl rfl rfl rfl rfl ag3 (by first | exact .head | exact .tail .head | exact .tail (.tail .head) | exact .tail (.tail (.tail .head)) | exact .base ‹_› ‹_› (by simp)) rfl ?_
  refine Ie.fieldAddr rfl rfl rfl rfl rfl fa43_2 ?_
  refine Ie.load rfl rfl rfl rfl rfl ag2 (by first | exact .head | exact .tail .head | exact .tail (.tail .head) | exact .tail (.tail (.tail .head)) | exact .base ‹_› ‹_› (by simp)) rfl ?_
  refine Ie.fieldAddr rfl rfl rfl rfl rfl fa43_3 ?_
  refine Ie.load rfl rfl rfl rfl rfl ag2 (by first | exact .head | exact .tail .head | exact .tail (.tail .head) | exact .tail (.tail (.tail .head)) | exact .base ‹_› ‹_› (by simp)) rfl ?_
  refine Ie.call _ rfl rfl rfl rfl rfl rfl (fun m hm => RCompare_u8_12 hm.lole ha hb) ?_
  refine Ie.eqBool rfl rfl rfl rfl Tryz.underlying4 rfl rfl ?_
  refine Ie.as 55 (.bool true) rfl (by rw [hc]; exact congrArg Value.bool (beq_self_eq_true _)) ?_
  refine Ie.p rfl rfl rfl rfl ?_
  refine Ie.p rfl rfl rfl rfl ?_
  refine Ie.nil ?_
  refine Ne.seq ?_
  refine Ce.ret ?_
  exact Re.end_ rfl rfl (fun m hm => ⟨rfl, hm.ext⟩)

theorem compares_u8_13 {a b : Int} {m : AW} (hm : m.lo ≤ m.next) (hlay : LaidAt lays m) (ha : Fit .i64 a) (hb : Fit .i64 b)  (hc : (ltI (wr .u8 a) (wr .u8 b) || eqI (wr .u8 a) (wr .u8 b)) = (!ltI (wr .u8 b) (wr .u8 a))) : Fc Tryz.prog 9 [.agg ⟨[.int .i64 1, .int .i64 13, .int .i64 a, .int .i64 b]⟩] m fun v m' => v = .bool true ∧ Ext m m' := by
  refine Fc.body (c := _) Tryz.func9 rfl rfl rfl rfl hm ?_
  refine Ce.seq ?_
  refine Ce.region ?_
  refine Ie.box rfl rfl rfl rfl rfl (fun b1 hb1 => ?_)
  refine Ie.p rfl rfl rfl rfl ?_
  refine Ie.nil ?_
  refine Ne.seq ?_
  refine Ce.seq ?_
  refine Ce.region ?_
  refine Ie.fieldAddr rfl rfl rfl rfl rfl fa43_0 ?_
  refine Ie.load rfl rfl rfl rfl rfl ag3 (by first | exact .head | exact .tail .head | exact .tail (.tail .head) | exact .tail (.tail (.tail .head)) | exact .base ‹_› ‹_› (by simp)) rfl ?_
  refine Ie.fieldAddr rfl rfl rfl rfl rfl fa43_1 ?_
  refine Ie.load rfl rfl rfl rfl rfl ag3 (by first | exact .head | exact .tail .head | exact .tail (.tail .head) | exact .tail (.tail (.tail .head)) | exact .base ‹_› ‹_› (by simp)) rfl ?_
  refine Ie.fieldAddr rfl rfl rfl rfl rfl fa43_2 ?_
  refine Ie.load rfl rfl rfl rfl rfl ag2 (by first | exact .head | exact .tail .head | exact .tail (.tail .head) | exact .tail (.tail (.tail .head)) | exact .base ‹_› ‹_› (by simp)) rfl ?_
  refine Ie.fieldAddr rfl rfl rfl rfl rfl fa43_3 ?_
  refine Ie.load rfl rfl rfl rfl rfl ag2 (by first | exact .head | exact .tail .head | exact .tail (.tail .head) | exact .tail (.tail (.tail .head)) | exact .base ‹_› ‹_› (by simp)) rfl ?_
  refine Ie.call _ rfl rfl rfl rfl rfl rfl (fun m hm => Compare_u8_13 hm.lole ha hb) ?_
  refine Ie.p rfl rfl rfl rfl ?_
  refine Ie.p rfl rfl rfl rfl ?_
  refine Ie.p rfl rfl rfl rfl ?_
  refine Ie.p rfl rfl rfl rfl ?_
  refine Ie.p rfl rfl rfl rfl ?_
  refine Ie.nil ?_
  refine Ne.seq ?_
  refine Ce.seq ?_
  refine Ce.block ?_
  refine Ce.seq ?_
  refine Ce.region ?_
  refine Ie.call _ rfl rfl rfl rfl rfl rfl (fun m hm => awake_ok (hlay.kr hm)) ?_
  refine Ie.p rfl rfl rfl rfl ?_
  refine Ie.p rfl rfl rfl rfl ?_
  refine Ie.nil ?_
  refine Ne.seq ?_
  refine Ce.cond_false rfl ?_
  refine Ce.seq ?_
  refine Ce.region ?_
  refine Ie.fieldAddr rfl rfl rfl rfl rfl fa43_0 ?_
  refine Ie.load rfl rfl rfl rfl rfl ag3 (by first | exact .head | exact .tail .head | exact .tail (.tail .head) | exact .tail (.tail (.tail .head)) | exact .base ‹_› ‹_› (by simp)) rfl ?_
  refine Ie.call _ rfl rfl rfl rfl rfl rfl (fun m hm => Kind_u8 hm.lole) ?_
  refine Ie.p rfl rfl rfl rfl ?_
  refine Ie.p rfl rfl rfl rfl ?_
  refine Ie.nil ?_
  refine Ne.seq ?_
  refine Ce.cond_false rfl ?_
  refine Ce.seq ?_
  refine Ce.region ?_
  refine Ie.fieldAddr rfl rfl rfl rfl rfl fa43_1 ?_
  refine Ie.load rfl rfl rfl rfl rfl ag3 (by first | exact .head | exact .tail .head | exact .tail (.tail .head) | exact .tail (.tail (.tail .head)) | exact .base ‹_› ‹_› (by simp)) rfl ?_
  refine Ie.call _ rfl rfl rfl rfl rfl rfl (fun m hm => FitsCompare_13 hm.lole) ?_
  refine Ie.p rfl rfl rfl rfl ?_
  refine Ie.p rfl rfl rfl rfl ?_
  refine Ie.nil ?_
  refine Ne.seq ?_
  refine Ce.cond_false rfl ?_
  refine Ce.skip ?_
  refine Ne.blk ?_
  refine Ne.seq ?_
  refine Ce.seq ?_
  refine Ce.region ?_
  refine Ie.p rfl rfl rfl rfl ?_
  refine Ie.p rfl rfl rfl rfl ?_
  refine Ie.p rfl rfl rfl rfl ?_
  refine Ie.p rfl rfl rfl rfl ?_
  refine Ie.fieldAddr rfl rfl rfl rfl rfl fa43_0 ?_
  refine Ie.load rfl rfl rfl rfl rfl ag3 (by first | exact .head | exact .tail .head | exact .tail (.tail .head) | exact .tail (.tail (.tail .head)) | exact .base ‹_› ‹_› (by simp)) rfl ?_
  refine Ie.fieldAddr rfl rfl rfl rfl rfl fa43_1 ?_
  refine Ie.load rfl rfl rfl rfl rfl ag3 (by first | exact .head | exact .tail .head | exact .tail (.tail .head) | exact .tail (.tail (.tail .head)) | exact .base ‹_› ‹_› (by simp)) rfl ?_
  refine Ie.fieldAddr rfl rfl rfl rfl rfl fa43_2 ?_
  refine Ie.load rfl rfl rfl rfl rfl ag2 (by first | exact .head | exact .tail .head | exact .tail (.tail .head) | exact .tail (.tail (.tail .head)) | exact .base ‹_› ‹_› (by simp)) rfl ?_
  refine Ie.fieldAddr rfl rfl rfl rfl rfl fa43_3 ?_
  refine Ie.load rfl rfl rfl rfl rfl ag2 (by first | exact .head | exact .tail .head | exact .tail (.tail .head) | exact .tail (.tail (.tail .head)) | exact .base ‹_› ‹_› (by simp)) rfl ?_
  refine Ie.call _ rfl rfl rfl rfl rfl rfl (fun m hm => RCompare_u8_13 hm.lole ha hb) ?_
  refine Ie.eqBool rfl rfl rfl rfl Tryz.underlying4 rfl rfl ?_
  refine Ie.as 55 (.bool true) rfl (by rw [hc]; exact congrArg Value.bool (beq_self_eq_true _)) ?_
  refine Ie.p rfl rfl rfl rfl ?_
  refine Ie.p rfl rfl rfl rfl ?_
  refine Ie.nil ?_
  refine Ne.seq ?_
  refine Ce.ret ?_
  exact Re.end_ rfl rfl (fun m hm => ⟨rfl, hm.ext⟩)

theorem compares_u8_14 {a b : Int} {m : AW} (hm : m.lo ≤ m.next) (hlay : LaidAt lays m) (ha : Fit .i64 a) (hb : Fit .i64 b)  (hc : ltI (wr .u8 b) (wr .u8 a) = ltI (wr .u8 b) (wr .u8 a)) : Fc Tryz.prog 9 [.agg ⟨[.int .i64 1, .int .i64 14, .int .i64 a, .int .i64 b]⟩] m fun v m' => v = .bool true ∧ Ext m m' := by
  refine Fc.body (c := _) Tryz.func9 rfl rfl rfl rfl hm ?_
  refine Ce.seq ?_
  refine Ce.region ?_
  refine Ie.box rfl rfl rfl rfl rfl (fun b1 hb1 => ?_)
  refine Ie.p rfl rfl rfl rfl ?_
  refine Ie.nil ?_
  refine Ne.seq ?_
  refine Ce.seq ?_
  refine Ce.region ?_
  refine Ie.fieldAddr rfl rfl rfl rfl rfl fa43_0 ?_
  refine Ie.load rfl rfl rfl rfl rfl ag3 (by first | exact .head | exact .tail .head | exact .tail (.tail .head) | exact .tail (.tail (.tail .head)) | exact .base ‹_› ‹_› (by simp)) rfl ?_
  refine Ie.fieldAddr rfl rfl rfl rfl rfl fa43_1 ?_
  refine Ie.load rfl rfl rfl rfl rfl ag3 (by first | exact .head | exact .tail .head | exact .tail (.tail .head) | exact .tail (.tail (.tail .head)) | exact .base ‹_› ‹_› (by simp)) rfl ?_
  refine Ie.fieldAddr rfl rfl rfl rfl rfl fa43_2 ?_
  refine Ie.load rfl rfl rfl rfl rfl ag2 (by first | exact .head | exact .tail .head | exact .tail (.tail .head) | exact .tail (.tail (.tail .head)) | exact .base ‹_› ‹_› (by simp)) rfl ?_
  refine Ie.fieldAddr rfl rfl rfl rfl rfl fa43_3 ?_
  refine Ie.load rfl rfl rfl rfl rfl ag2 (by first | exact .head | exact .tail .head | exact .tail (.tail .head) | exact .tail (.tail (.tail .head)) | exact .base ‹_› ‹_› (by simp)) rfl ?_
  refine Ie.call _ rfl rfl rfl rfl rfl rfl (fun m hm => Compare_u8_14 hm.lole ha hb) ?_
  refine Ie.p rfl rfl rfl rfl ?_
  refine Ie.p rfl rfl rfl rfl ?_
  refine Ie.p rfl rfl rfl rfl ?_
  refine Ie.p rfl rfl rfl rfl ?_
  refine Ie.p rfl rfl rfl rfl ?_
  refine Ie.nil ?_
  refine Ne.seq ?_
  refine Ce.seq ?_
  refine Ce.block ?_
  refine Ce.seq ?_
  refine Ce.region ?_
  refine Ie.call _ rfl rfl rfl rfl rfl rfl (fun m hm => awake_ok (hlay.kr hm)) ?_
  refine Ie.p rfl rfl rfl rfl ?_
  refine Ie.p rfl rfl rfl rfl ?_
  refine Ie.nil ?_
  refine Ne.seq ?_
  refine Ce.cond_false rfl ?_
  refine Ce.seq ?_
  refine Ce.region ?_
  refine Ie.fieldAddr rfl rfl rfl rfl rfl fa43_0 ?_
  refine Ie.load rfl rfl rfl rfl rfl ag3 (by first | exact .head | exact .tail .head | exact .tail (.tail .head) | exact .tail (.tail (.tail .head)) | exact .base ‹_› ‹_› (by simp)) rfl ?_
  refine Ie.call _ rfl rfl rfl rfl rfl rfl (fun m hm => Kind_u8 hm.lole) ?_
  refine Ie.p rfl rfl rfl rfl ?_
  refine Ie.p rfl rfl rfl rfl ?_
  refine Ie.nil ?_
  refine Ne.seq ?_
  refine Ce.cond_false rfl ?_
  refine Ce.seq ?_
  refine Ce.region ?_
  refine Ie.fieldAddr rfl rfl rfl rfl rfl fa43_1 ?_
  refine Ie.load rfl rfl rfl rfl rfl ag3 (by first | exact .head | exact .tail .head | exact .tail (.tail .head) | exact .tail (.tail (.tail .head)) | exact .base ‹_› ‹_› (by simp)) rfl ?_
  refine Ie.call _ rfl rfl rfl rfl rfl rfl (fun m hm => FitsCompare_14 hm.lole) ?_
  refine Ie.p rfl rfl rfl rfl ?_
  refine Ie.p rfl rfl rfl rfl ?_
  refine Ie.nil ?_
  refine Ne.seq ?_
  refine Ce.cond_false rfl ?_
  refine Ce.skip ?_
  refine Ne.blk ?_
  refine Ne.seq ?_
  refine Ce.seq ?_
  refine Ce.region ?_
  refine Ie.p rfl rfl rfl rfl ?_
  refine Ie.p rfl rfl rfl rfl ?_
  refine Ie.p rfl rfl rfl rfl ?_
  refine Ie.p rfl rfl rfl rfl ?_
  refine Ie.fieldAddr rfl rfl rfl rfl rfl fa43_0 ?_
  refine Ie.load rfl rfl rfl rfl rfl ag3 (by first | exact .head | exact .tail .head | exact .tail (.tail .head) | exact .tail (.tail (.tail .head)) | exact .base ‹_› ‹_› (by simp)) rfl ?_
  refine Ie.fieldAddr rfl rfl rfl rfl rfl fa43_1 ?_
  refine Ie.load rfl rfl rfl rfl rfl ag3 (by first | exact .head | exact .tail .head | exact .tail (.tail .head) | exact .tail (.tail (.tail .head)) | exact .base ‹_› ‹_› (by simp)) rfl ?_
  refine Ie.fieldAddr rfl rfl rfl rfl rfl fa43_2 ?_
  refine Ie.load rfl rfl rfl rfl rfl ag2 (by first | exact .head | exact .tail .head | exact .tail (.tail .head) | exact .tail (.tail (.tail .head)) | exact .base ‹_› ‹_› (by simp)) rfl ?_
  refine Ie.fieldAddr rfl rfl rfl rfl rfl fa43_3 ?_
  refine Ie.load rfl rfl rfl rfl rfl ag2 (by first | exact .head | exact .tail .head | exact .tail (.tail .head) | exact .tail (.tail (.tail .head)) | exact .base ‹_› ‹_› (by simp)) rfl ?_
  refine Ie.call _ rfl rfl rfl rfl rfl rfl (fun m hm => RCompare_u8_14 hm.lole ha hb) ?_
  refine Ie.eqBool rfl rfl rfl rfl Tryz.underlying4 rfl rfl ?_
  refine Ie.as 55 (.bool true) rfl (by rw [hc]; exact congrArg Value.bool (beq_self_eq_true _)) ?_
  refine Ie.p rfl rfl rfl rfl ?_
  refine Ie.p rfl rfl rfl rfl ?_
  refine Ie.nil ?_
  refine Ne.seq ?_
  refine Ce.ret ?_
  exact Re.end_ rfl rfl (fun m hm => ⟨rfl, hm.ext⟩)

theorem compares_u8_15 {a b : Int} {m : AW} (hm : m.lo ≤ m.next) (hlay : LaidAt lays m) (ha : Fit .i64 a) (hb : Fit .i64 b)  (hc : (ltI (wr .u8 b) (wr .u8 a) || eqI (wr .u8 a) (wr .u8 b)) = (!ltI (wr .u8 a) (wr .u8 b))) : Fc Tryz.prog 9 [.agg ⟨[.int .i64 1, .int .i64 15, .int .i64 a, .int .i64 b]⟩] m fun v m' => v = .bool true ∧ Ext m m' := by
  refine Fc.body (c := _) Tryz.func9 rfl rfl rfl rfl hm ?_
  refine Ce.seq ?_
  refine Ce.region ?_
  refine Ie.box rfl rfl rfl rfl rfl (fun b1 hb1 => ?_)
  refine Ie.p rfl rfl rfl rfl ?_
  refine Ie.nil ?_
  refine Ne.seq ?_
  refine Ce.seq ?_
  refine Ce.region ?_
  refine Ie.fieldAddr rfl rfl rfl rfl rfl fa43_0 ?_
  refine Ie.load rfl rfl rfl rfl rfl ag3 (by first | exact .head | exact .tail .head | exact .tail (.tail .head) | exact .tail (.tail (.tail .head)) | exact .base ‹_› ‹_› (by simp)) rfl ?_
  refine Ie.fieldAddr rfl rfl rfl rfl rfl fa43_1 ?_
  refine Ie.load rfl rfl rfl rfl rfl ag3 (by first | exact .head | exact .tail .head | exact .tail (.tail .head) | exact .tail (.tail (.tail .head)) | exact .base ‹_› ‹_› (by simp)) rfl ?_
  refine Ie.fieldAddr rfl rfl rfl rfl rfl fa43_2 ?_
  refine Ie.load rfl rfl rfl rfl rfl ag2 (by first | exact .head | exact .tail .head | exact .tail (.tail .head) | exact .tail (.tail (.tail .head)) | exact .base ‹_› ‹_› (by simp)) rfl ?_
  refine Ie.fieldAddr rfl rfl rfl rfl rfl fa43_3 ?_
  refine Ie.load rfl rfl rfl rfl rfl ag2 (by first | exact .head | exact .tail .head | exact .tail (.tail .head) | exact .tail (.tail (.tail .head)) | exact .base ‹_› ‹_› (by simp)) rfl ?_
  refine Ie.call _ rfl rfl rfl rfl rfl rfl (fun m hm => Compare_u8_15 hm.lole ha hb) ?_
  refine Ie.p rfl rfl rfl rfl ?_
  refine Ie.p rfl rfl rfl rfl ?_
  refine Ie.p rfl rfl rfl rfl ?_
  refine Ie.p rfl rfl rfl rfl ?_
  refine Ie.p rfl rfl rfl rfl ?_
  refine Ie.nil ?_
  refine Ne.seq ?_
  refine Ce.seq ?_
  refine Ce.block ?_
  refine Ce.seq ?_
  refine Ce.region ?_
  refine Ie.call _ rfl rfl rfl rfl rfl rfl (fun m hm => awake_ok (hlay.kr hm)) ?_
  refine Ie.p rfl rfl rfl rfl ?_
  refine Ie.p rfl rfl rfl rfl ?_
  refine Ie.nil ?_
  refine Ne.seq ?_
  refine Ce.cond_false rfl ?_
  refine Ce.seq ?_
  refine Ce.region ?_
  refine Ie.fieldAddr rfl rfl rfl rfl rfl fa43_0 ?_
  refine Ie.load rfl rfl rfl rfl rfl ag3 (by first | exact .head | exact .tail .head | exact .tail (.tail .head) | exact .tail (.tail (.tail .head)) | exact .base ‹_› ‹_› (by simp)) rfl ?_
  refine Ie.call _ rfl rfl rfl rfl rfl rfl (fun m hm => Kind_u8 hm.lole) ?_
  refine Ie.p rfl rfl rfl rfl ?_
  refine Ie.p rfl rfl rfl rfl ?_
  refine Ie.nil ?_
  refine Ne.seq ?_
  refine Ce.cond_false rfl ?_
  refine Ce.seq ?_
  refine Ce.region ?_
  refine Ie.fieldAddr rfl rfl rfl rfl rfl fa43_1 ?_
  refine Ie.load rfl rfl rfl rfl rfl ag3 (by first | exact .head | exact .tail .head | exact .tail (.tail .head) | exact .tail (.tail (.tail .head)) | exact .base ‹_› ‹_› (by simp)) rfl ?_
  refine Ie.call _ rfl rfl rfl rfl rfl rfl (fun m hm => FitsCompare_15 hm.lole) ?_
  refine Ie.p rfl rfl rfl rfl ?_
  refine Ie.p rfl rfl rfl rfl ?_
  refine Ie.nil ?_
  refine Ne.seq ?_
  refine Ce.cond_false rfl ?_
  refine Ce.skip ?_
  refine Ne.blk ?_
  refine Ne.seq ?_
  refine Ce.seq ?_
  refine Ce.region ?_
  refine Ie.p rfl rfl rfl rfl ?_
  refine Ie.p rfl rfl rfl rfl ?_
  refine Ie.p rfl rfl rfl rfl ?_
  refine Ie.p rfl rfl rfl rfl ?_
  refine Ie.fieldAddr rfl rfl rfl rfl rfl fa43_0 ?_
  refine Ie.load rfl rfl rfl rfl rfl ag3 (by first | exact .head | exact .tail .head | exact .tail (.tail .head) | exact .tail (.tail (.tail .head)) | exact .base ‹_› ‹_› (by simp)) rfl ?_
  refine Ie.fieldAddr rfl rfl rfl rfl rfl fa43_1 ?_
  refine Ie.load rfl rfl rfl rfl rfl ag3 (by first | exact .head | exact .tail .head | exact .tail (.tail .head) | exact .tail (.tail (.tail .head)) | exact .base ‹_› ‹_› (by simp)) rfl ?_
  refine Ie.fieldAddr rfl rfl rfl rfl rfl fa43_2 ?_
  refine Ie.load rfl rfl rfl rfl rfl ag2 (by first | exact .head | exact .tail .head | exact .tail (.tail .head) | exact .tail (.tail (.tail .head)) | exact .base ‹_› ‹_› (by simp)) rfl ?_
  refine Ie.fieldAddr rfl rfl rfl rfl rfl fa43_3 ?_
  refine Ie.load rfl rfl rfl rfl rfl ag2 (by first | exact .head | exact .tail .head | exact .tail (.tail .head) | exact .tail (.tail (.tail .head)) | exact .base ‹_› ‹_› (by simp)) rfl ?_
  refine Ie.call _ rfl rfl rfl rfl rfl rfl (fun m hm => RCompare_u8_15 hm.lole ha hb) ?_
  refine Ie.eqBool rfl rfl rfl rfl Tryz.underlying4 rfl rfl ?_
  refine Ie.as 55 (.bool true) rfl (by rw [hc]; exact congrArg Value.bool (beq_self_eq_true _)) ?_
  refine Ie.p rfl rfl rfl rfl ?_
  refine Ie.p rfl rfl rfl rfl ?_
  refine Ie.nil ?_
  refine Ne.seq ?_
  refine Ce.ret ?_
  exact Re.end_ rfl rfl (fun m hm => ⟨rfl, hm.ext⟩)

theorem compares_u8_other {op a b : Int} {m : AW} (hm : m.lo ≤ m.next) (hlay : LaidAt lays m) (ha : Fit .i64 a) (hb : Fit .i64 b) (hop : op < 10 ∨ 15 < op) : Fc Tryz.prog 9 [.agg ⟨[.int .i64 1, .int .i64 op, .int .i64 a, .int .i64 b]⟩] m fun v m' => v = .bool true ∧ Ext m m' := by
  refine Fc.body (c := _) Tryz.func9 rfl rfl rfl rfl hm ?_
  refine Ce.seq ?_
  refine Ce.region ?_
  refine Ie.box rfl rfl rfl rfl rfl (fun b1 hb1 => ?_)
  refine Ie.p rfl rfl rfl rfl ?_
  refine Ie.nil ?_
  refine Ne.seq ?_
  refine Ce.seq ?_
  refine Ce.region ?_
  refine Ie.fieldAddr rfl rfl rfl rfl rfl fa43_0 ?_
  refine Ie.load rfl rfl rfl rfl rfl ag3 (by first | exact .head | exact .tail .head | exact .tail (.tail .head) | exact .tail (.tail (.tail .head)) | exact .base ‹_› ‹_› (by simp)) rfl ?_
  refine Ie.fieldAddr rfl rfl rfl rfl rfl fa43_1 ?_
  refine Ie.load rfl rfl rfl rfl rfl ag3 (by first | exact .head | exact .tail .head | exact .tail (.tail .head) | exact .tail (.tail (.tail .head)) | exact .base ‹_› ‹_› (by simp)) rfl ?_
  refine Ie.fieldAddr rfl rfl rfl rfl rfl fa43_2 ?_
  refine Ie.load rfl rfl rfl rfl rfl ag2 (by first | exact .head | exact .tail .head | exact .tail (.tail .head) | exact .tail (.tail (.tail .head)) | exact .base ‹_› ‹_› (by simp)) rfl ?_
  refine Ie.fieldAddr rfl rfl rfl rfl rfl fa43_3 ?_
  refine Ie.load rfl rfl rfl rfl rfl ag2 (by first | exact .head | exact .tail .head | exact .tail (.tail .head) | exact .tail (.tail (.tail .head)) | exact .base ‹_› ‹_› (by simp)) rfl ?_
  refine Ie.call _ rfl rfl rfl rfl rfl rfl (fun m hm => Compare_u8_other hm.lole ha hb hop) ?_
  refine Ie.p rfl rfl rfl rfl ?_
  refine Ie.p rfl rfl rfl rfl ?_
  refine Ie.p rfl rfl rfl rfl ?_
  refine Ie.p rfl rfl rfl rfl ?_
  refine Ie.p rfl rfl rfl rfl ?_
  refine Ie.nil ?_
  refine Ne.seq ?_
  refine Ce.seq ?_
  refine Ce.block ?_
  refine Ce.seq ?_
  refine Ce.region ?_
  refine Ie.call _ rfl rfl rfl rfl rfl rfl (fun m hm => awake_ok (hlay.kr hm)) ?_
  refine Ie.p rfl rfl rfl rfl ?_
  refine Ie.p rfl rfl rfl rfl ?_
  refine Ie.nil ?_
  refine Ne.seq ?_
  refine Ce.cond_false rfl ?_
  refine Ce.seq ?_
  refine Ce.region ?_
  refine Ie.fieldAddr rfl rfl rfl rfl rfl fa43_0 ?_
  refine Ie.load rfl rfl rfl rfl rfl ag3 (by first | exact .head | exact .tail .head | exact .tail (.tail .head) | exact .tail (.tail (.tail .head)) | exact .base ‹_› ‹_› (by simp)) rfl ?_
  refine Ie.call _ rfl rfl rfl rfl rfl rfl (fun m hm => Kind_u8 hm.lole) ?_
  refine Ie.p rfl rfl rfl rfl ?_
  refine Ie.p rfl rfl rfl rfl ?_
  refine Ie.nil ?_
  refine Ne.seq ?_
  refine Ce.cond_false rfl ?_
  refine Ce.seq ?_
  refine Ce.region ?_
  refine Ie.fieldAddr rfl rfl rfl rfl rfl fa43_1 ?_
  refine Ie.load rfl rfl rfl rfl rfl ag3 (by first | exact .head | exact .tail .head | exact .tail (.tail .head) | exact .tail (.tail (.tail .head)) | exact .base ‹_› ‹_› (by simp)) rfl ?_
  refine Ie.call _ rfl rfl rfl rfl rfl rfl (fun m hm => FitsCompare_other hm.lole hop) ?_
  refine Ie.p rfl rfl rfl rfl ?_
  refine Ie.p rfl rfl rfl rfl ?_
  refine Ie.nil ?_
  refine Ne.seq ?_
  refine Ce.cond_true rfl ?_
  refine Ce.seq ?_
  refine Ce.region ?_
  refine Ie.p rfl rfl rfl rfl ?_
  refine Ie.p rfl rfl rfl rfl ?_
  refine Ie.p rfl rfl rfl rfl ?_
  refine Ie.p rfl rfl rfl rfl ?_
  refine Ie.p rfl rfl rfl rfl ?_
  refine Ie.p rfl rfl rfl rfl ?_
  refine Ie.p rfl rfl rfl rfl ?_
  refine Ie.nil ?_
  refine Ne.seq ?_
  refine Ce.ret ?_
  refine Re.blk ?_
  refine Re.seq ?_
  exact Re.end_ rfl rfl (fun m hm => ⟨rfl, hm.ext⟩)

theorem compares_i32_10 {a b : Int} {m : AW} (hm : m.lo ≤ m.next) (hlay : LaidAt lays m) (ha : Fit .i64 a) (hb : Fit .i64 b)  (hc : eqI (wr .i32 a) (wr .i32 b) = (!ltI (wr .i32 a) (wr .i32 b) && !ltI (wr .i32 b) (wr .i32 a))) : Fc Tryz.prog 9 [.agg ⟨[.int .i64 2, .int .i64 10, .int .i64 a, .int .i64 b]⟩] m fun v m' => v = .bool true ∧ Ext m m' := by
  refine Fc.body (c := _) Tryz.func9 rfl rfl rfl rfl hm ?_
  refine Ce.seq ?_
  refine Ce.region ?_
  refine Ie.box rfl rfl rfl rfl rfl (fun b1 hb1 => ?_)
  refine Ie.p rfl rfl rfl rfl ?_
  refine Ie.nil ?_
  refine Ne.seq ?_
  refine Ce.seq ?_
  refine Ce.region ?_
  refine Ie.fieldAddr rfl rfl rfl rfl rfl fa43_0 ?_
  refine Ie.load rfl rfl rfl rfl rfl ag3 (by first | exact .head | exact .tail .head | exact .tail (.tail .head) | exact .tail (.tail (.tail .head)) | exact .base ‹_› ‹_› (by simp)) rfl ?_
  refine Ie.fieldAddr rfl rfl rfl rfl rfl fa43_1 ?_
  refine Ie.load rfl rfl rfl rfl rfl ag3 (by first | exact .head | exact .tail .head | exact .tail (.tail .head) | exact .tail (.tail (.tail .head)) | exact .base ‹_› ‹_› (by simp)) rfl ?_
  refine Ie.fieldAddr rfl rfl rfl rfl rfl fa43_2 ?_
  refine Ie.load rfl rfl rfl rfl rfl ag2 (by first | exact .head | exact .tail .head | exact .tail (.tail .head) | exact .tail (.tail (.tail .head)) | exact .base ‹_› ‹_› (by simp)) rfl ?_
  refine Ie.fieldAddr rfl rfl rfl rfl rfl fa43_3 ?_
  refine Ie.load rfl rfl rfl rfl rfl ag2 (by first | exact .head | exact .tail .head | exact .tail (.tail .head) | exact .tail (.tail (.tail .head)) | exact .base ‹_› ‹_› (by simp)) rfl ?_
  refine Ie.call _ rfl rfl rfl rfl rfl rfl (fun m hm => Compare_i32_10 hm.lole ha hb) ?_
  refine Ie.p rfl rfl rfl rfl ?_
  refine Ie.p rfl rfl rfl rfl ?_
  refine Ie.p rfl rfl rfl rfl ?_
  refine Ie.p rfl rfl rfl rfl ?_
  refine Ie.p rfl rfl rfl rfl ?_
  refine Ie.nil ?_
  refine Ne.seq ?_
  refine Ce.seq ?_
  refine Ce.block ?_
  refine Ce.seq ?_
  refine Ce.region ?_
  refine Ie.call _ rfl rfl rfl rfl rfl rfl (fun m hm => awake_ok (hlay.kr hm)) ?_
  refine Ie.p rfl rfl rfl rfl ?_
  refine Ie.p rfl rfl rfl rfl ?_
  refine Ie.nil ?_
  refine Ne.seq ?_
  refine Ce.cond_false rfl ?_
  refine Ce.seq ?_
  refine Ce.region ?_
  refine Ie.fieldAddr rfl rfl rfl rfl rfl fa43_0 ?_
  refine Ie.load rfl rfl rfl rfl rfl ag3 (by first | exact .head | exact .tail .head | exact .tail (.tail .head) | exact .tail (.tail (.tail .head)) | exact .base ‹_› ‹_› (by simp)) rfl ?_
  refine Ie.call _ rfl rfl rfl rfl rfl rfl (fun m hm => Kind_i32 hm.lole) ?_
  refine Ie.p rfl rfl rfl rfl ?_
  refine Ie.p rfl rfl rfl rfl ?_
  refine Ie.nil ?_
  refine Ne.seq ?_
  refine Ce.cond_false rfl ?_
  refine Ce.seq ?_
  refine Ce.region ?_
  refine Ie.fieldAddr rfl rfl rfl rfl rfl fa43_1 ?_
  refine Ie.load rfl rfl rfl rfl rfl ag3 (by first | exact .head | exact .tail .head | exact .tail (.tail .head) | exact .tail (.tail (.tail .head)) | exact .base ‹_› ‹_› (by simp)) rfl ?_
  refine Ie.call _ rfl rfl rfl rfl rfl rfl (fun m hm => FitsCompare_10 hm.lole) ?_
  refine Ie.p rfl rfl rfl rfl ?_
  refine Ie.p rfl rfl rfl rfl ?_
  refine Ie.nil ?_
  refine Ne.seq ?_
  refine Ce.cond_false rfl ?_
  refine Ce.skip ?_
  refine Ne.blk ?_
  refine Ne.seq ?_
  refine Ce.seq ?_
  refine Ce.region ?_
  refine Ie.p rfl rfl rfl rfl ?_
  refine Ie.p rfl rfl rfl rfl ?_
  refine Ie.p rfl rfl rfl rfl ?_
  refine Ie.p rfl rfl rfl rfl ?_
  refine Ie.fieldAddr rfl rfl rfl rfl rfl fa43_0 ?_
  refine Ie.load rfl rfl rfl rfl rfl ag3 (by first | exact .head | exact .tail .head | exact .tail (.tail .head) | exact .tail (.tail (.tail .head)) | exact .base ‹_› ‹_› (by simp)) rfl ?_
  refine Ie.fieldAddr rfl rfl rfl rfl rfl fa43_1 ?_
  refine Ie.load rfl rfl rfl rfl rfl ag3 (by first | exact .head | exact .tail .head | exact .tail (.tail .head) | exact .tail (.tail (.tail .head)) | exact .base ‹_› ‹_› (by simp)) rfl ?_
  refine Ie.fieldAddr rfl rfl rfl rfl rfl fa43_2 ?_
  refine Ie.load rfl rfl rfl rfl rfl ag2 (by first | exact .head | exact .tail .head | exact .tail (.tail .head) | exact .tail (.tail (.tail .head)) | exact .base ‹_› ‹_› (by simp)) rfl ?_
  refine Ie.fieldAddr rfl rfl rfl rfl rfl fa43_3 ?_
  refine Ie.load rfl rfl rfl rfl rfl ag2 (by first | exact .head | exact .tail .head | exact .tail (.tail .head) | exact .tail (.tail (.tail .head)) | exact .base ‹_› ‹_› (by simp)) rfl ?_
  refine Ie.call _ rfl rfl rfl rfl rfl rfl (fun m hm => RCompare_i32_10 hm.lole ha hb) ?_
  refine Ie.eqBool rfl rfl rfl rfl Tryz.underlying4 rfl rfl ?_
  refine Ie.as 55 (.bool true) rfl (by rw [hc]; exact congrArg Value.bool (beq_self_eq_true _)) ?_
  refine Ie.p rfl rfl rfl rfl ?_
  refine Ie.p rfl rfl rfl rfl ?_
  refine Ie.nil ?_
  refine Ne.seq ?_
  refine Ce.ret ?_
  exact Re.end_ rfl rfl (fun m hm => ⟨rfl, hm.ext⟩)

theorem compares_i32_11 {a b : Int} {m : AW} (hm : m.lo ≤ m.next) (hlay : LaidAt lays m) (ha : Fit .i64 a) (hb : Fit .i64 b)  (hc : (!eqI (wr .i32 a) (wr .i32 b)) = (ltI (wr .i32 a) (wr .i32 b) || ltI (wr .i32 b) (wr .i32 a))) : Fc Tryz.prog 9 [.agg ⟨[.int .i64 2, .int .i64 11, .int .i64 a, .int .i64 b]⟩] m fun v m' => v = .bool true ∧ Ext m m' := by
  refine Fc.body (c := _) Tryz.func9 rfl rfl rfl rfl hm ?_
  refine Ce.seq ?_
  refine Ce.region ?_
  refine Ie.box rfl rfl rfl rfl rfl (fun b1 hb1 => ?_)
  refine Ie.p rfl rfl rfl rfl ?_
  refine Ie.nil ?_
  refine Ne.seq ?_
  refine Ce.seq ?_
  refine Ce.region ?_
  refine Ie.fieldAddr rfl rfl rfl rfl rfl fa43_0 ?_
  refine Ie.load rfl rfl rfl rfl rfl ag3 (by first | exact .head | exact .tail .head | exact .tail (.tail .head) | exact .tail (.tail (.tail .head)) | exact .base ‹_› ‹_› (by simp)) rfl ?_
  refine Ie.fieldAddr rfl rfl rfl rfl rfl fa43_1 ?_
  refine Ie.load rfl rfl rfl rfl rfl ag3 (by first | exact .head | exact .tail .head | exact .tail (.tail .head) | exact .tail (.tail (.tail .head)) | exact .base ‹_› ‹_› (by simp)) rfl ?_
  refine Ie.fieldAddr rfl rfl rfl rfl rfl fa43_2 ?_
  refine Ie.load rfl rfl rfl rfl rfl ag2 (by first | exact .head | exact .tail .head | exact .tail (.tail .head) | exact .tail (.tail (.tail .head)) | exact .base ‹_› ‹_› (by simp)) rfl ?_
  refine Ie.fieldAddr rfl rfl rfl rfl rfl fa43_3 ?_
  refine Ie.load rfl rfl rfl rfl rfl ag2 (by first | exact .head | exact .tail .head | exact .tail (.tail .head) | exact .tail (.tail (.tail .head)) | exact .base ‹_› ‹_› (by simp)) rfl ?_
  refine Ie.call _ rfl rfl rfl rfl rfl rfl (fun m hm => Compare_i32_11 hm.lole ha hb) ?_
  refine Ie.p rfl rfl rfl rfl ?_
  refine Ie.p rfl rfl rfl rfl ?_
  refine Ie.p rfl rfl rfl rfl ?_
  refine Ie.p rfl rfl rfl rfl ?_
  refine Ie.p rfl rfl rfl rfl ?_
  refine Ie.nil ?_
  refine Ne.seq ?_
  refine Ce.seq ?_
  refine Ce.block ?_
  refine Ce.seq ?_
  refine Ce.region ?_
  refine Ie.call _ rfl rfl rfl rfl rfl rfl (fun m hm => awake_ok (hlay.kr hm)) ?_
  refine Ie.p rfl rfl rfl rfl ?_
  refine Ie.p rfl rfl rfl rfl ?_
  refine Ie.nil ?_
  refine Ne.seq ?_
  refine Ce.cond_false rfl ?_
  refine Ce.seq ?_
  refine Ce.region ?_
  refine Ie.fieldAddr rfl rfl rfl rfl rfl fa43_0 ?_
  refine Ie.load rfl rfl rfl rfl rfl ag3 (by first | exact .head | exact .tail .head | exact .tail (.tail .head) | exact .tail (.tail (.tail .head)) | exact .base ‹_› ‹_› (by simp)) rfl ?_
  refine Ie.call _ rfl rfl rfl rfl rfl rfl (fun m hm => Kind_i32 hm.lole) ?_
  refine Ie.p rfl rfl rfl rfl ?_
  refine Ie.p rfl rfl rfl rfl ?_
  refine Ie.nil ?_
  refine Ne.seq ?_
  refine Ce.cond_false rfl ?_
  refine Ce.seq ?_
  refine Ce.region ?_
  refine Ie.fieldAddr rfl rfl rfl rfl rfl fa43_1 ?_
  refine Ie.load rfl rfl rfl rfl rfl ag3 (by first | exact .head | exact .tail .head | exact .tail (.tail .head) | exact .tail (.tail (.tail .head)) | exact .base ‹_› ‹_› (by simp)) rfl ?_
  refine Ie.call _ rfl rfl rfl rfl rfl rfl (fun m hm => FitsCompare_11 hm.lole) ?_
  refine Ie.p rfl rfl rfl rfl ?_
  refine Ie.p rfl rfl rfl rfl ?_
  refine Ie.nil ?_
  refine Ne.seq ?_
  refine Ce.cond_false rfl ?_
  refine Ce.skip ?_
  refine Ne.blk ?_
  refine Ne.seq ?_
  refine Ce.seq ?_
  refine Ce.region ?_
  refine Ie.p rfl rfl rfl rfl ?_
  refine Ie.p rfl rfl rfl rfl ?_
  refine Ie.p rfl rfl rfl rfl ?_
  refine Ie.p rfl rfl rfl rfl ?_
  refine Ie.fieldAddr rfl rfl rfl rfl rfl fa43_0 ?_
  refine Ie.load rfl rfl rfl rfl rfl ag3 (by first | exact .head | exact .tail .head | exact .tail (.tail .head) | exact .tail (.tail (.tail .head)) | exact .base ‹_› ‹_› (by simp)) rfl ?_
  refine Ie.fieldAddr rfl rfl rfl rfl rfl fa43_1 ?_
  refine Ie.load rfl rfl rfl rfl rfl ag3 (by first | exact .head | exact .tail .head | exact .tail (.tail .head) | exact .tail (.tail (.tail .head)) | exact .base ‹_› ‹_› (by simp)) rfl ?_
  refine Ie.fieldAddr rfl rfl rfl rfl rfl fa43_2 ?_
  refine Ie.load rfl rfl rfl rfl rfl ag2 (by first | exact .head | exact .tail .head | exact .tail (.tail .head) | exact .tail (.tail (.tail .head)) | exact .base ‹_› ‹_› (by simp)) rfl ?_
  refine Ie.fieldAddr rfl rfl rfl rfl rfl fa43_3 ?_
  refine Ie.load rfl rfl rfl rfl rfl ag2 (by first | exact .head | exact .tail .head | exact .tail (.tail .head) | exact .tail (.tail (.tail .head)) | exact .base ‹_› ‹_› (by simp)) rfl ?_
  refine Ie.call _ rfl rfl rfl rfl rfl rfl (fun m hm => RCompare_i32_11 hm.lole ha hb) ?_
  refine Ie.eqBool rfl rfl rfl rfl Tryz.underlying4 rfl rfl ?_
  refine Ie.as 55 (.bool true) rfl (by rw [hc]; exact congrArg Value.bool (beq_self_eq_true _)) ?_
  refine Ie.p rfl rfl rfl rfl ?_
  refine Ie.p rfl rfl rfl rfl ?_
  refine Ie.nil ?_
  refine Ne.seq ?_
  refine Ce.ret ?_
  exact Re.end_ rfl rfl (fun m hm => ⟨rfl, hm.ext⟩)

theorem compares_i32_12 {a b : Int} {m : AW} (hm : m.lo ≤ m.next) (hlay : LaidAt lays m) (ha : Fit .i64 a) (hb : Fit .i64 b)  (hc : ltI (wr .i32 a) (wr .i32 b) = ltI (wr .i32 a) (wr .i32 b)) : Fc Tryz.prog 9 [.agg ⟨[.int .i64 2, .int .i64 12, .int .i64 a, .int .i64 b]⟩] m fun v m' => v = .bool true ∧ Ext m m' := by
  refine Fc.body (c := _) Tryz.func9 rfl rfl rfl rfl hm ?_
  refine Ce.seq ?_
  refine Ce.region ?_
  refine Ie.box rfl rfl rfl rfl rfl (fun b1 hb1 => ?_)
  refine Ie.p rfl rfl rfl rfl ?_
  refine Ie.nil ?_
  refine Ne.seq ?_
  refine Ce.seq ?_
  refine Ce.region ?_
  refine Ie.fieldAddr rfl rfl rfl rfl rfl fa43_0 ?_
  refine Ie.load rfl rfl rfl rfl rfl ag3 (by first | exact .head | exact .tail .head | exact .tail (.tail .head) | exact .tail (.tail (.tail .head)) | exact .base ‹_› ‹_› (by simp)) rfl ?_
  refine Ie.fieldAddr rfl rfl rfl rfl rfl fa43_1 ?_
  refine Ie.load rfl rfl rfl rfl rfl ag3 (by first | exact .head | exact .tail .head | exact .tail (.tail .head) | exact .tail (.tail (.tail .head)) | exact .base ‹_› ‹_› (by simp)) rfl ?_
  refine Ie.fieldAddr rfl rfl rfl rfl rfl fa43_2 ?_
  refine Ie.load rfl rfl rfl rfl rfl ag2 (by first | exact .head | exact .tail .head | exact .tail (.tail .head) | exact .tail (.tail (.tail .head)) | exact .base ‹_› ‹_› (by simp)) rfl ?_
  refine Ie.fieldAddr rfl rfl rfl rfl rfl fa43_3 ?_
  refine Ie.load rfl rfl rfl rfl rfl ag2 (by first | exact .head | exact .tail .head | exact .tail (.tail .head) | exact .tail (.tail (.tail .head)) | exact .base ‹_› ‹_› (by simp)) rfl ?_
  refine Ie.call _ rfl rfl rfl rfl rfl rfl (fun m hm => Compare_i32_12 hm.lole ha hb) ?_
  refine Ie.p rfl rfl rfl rfl ?_
  refine Ie.p rfl rfl rfl rfl ?_
  refine Ie.p rfl rfl rfl rfl ?_
  refine Ie.p rfl rfl rfl rfl ?_
  refine Ie.p rfl rfl rfl rfl ?_
  refine Ie.nil ?_
  refine Ne.seq ?_
  refine Ce.seq ?_
  refine Ce.block ?_
  refine Ce.seq ?_
  refine Ce.region ?_
  refine Ie.call _ rfl rfl rfl rfl rfl rfl (fun m hm => awake_ok (hlay.kr hm)) ?_
  refine Ie.p rfl rfl rfl rfl ?_
  refine Ie.p rfl rfl rfl rfl ?_
  refine Ie.nil ?_
  refine Ne.seq ?_
  refine Ce.cond_false rfl ?_
  refine Ce.seq ?_
  refine Ce.region ?_
  refine Ie.fieldAddr rfl rfl rfl rfl rfl fa43_0 ?_
  refine Ie.load rfl rfl rfl rfl rfl ag3 (by first | exact .head | exact .tail .head | exact .tail (.tail .head) | exact .tail (.tail (.tail .head)) | exact .base ‹_› ‹_› (by simp)) rfl ?_
  refine Ie.call _ rfl rfl rfl rfl rfl rfl (fun m hm => Kind_i32 hm.lole) ?_
  refine Ie.p rfl rfl rfl rfl ?_
  refine Ie.p rfl rfl rfl rfl ?_
  refine Ie.nil ?_
  refine Ne.seq ?_
  refine Ce.cond_false rfl ?_
  refine Ce.seq ?_
  refine Ce.region ?_
  refine Ie.fieldAddr rfl rfl rfl rfl rfl fa43_1 ?_
  refine Ie.load rfl rfl rfl rfl rfl ag3 (by first | exact .head | exact .tail .head | exact .tail (.tail .head) | exact .tail (.tail (.tail .head)) | exact .base ‹_› ‹_› (by simp)) rfl ?_
  refine Ie.call _ rfl rfl rfl rfl rfl rfl (fun m hm => FitsCompare_12 hm.lole) ?_
  refine Ie.p rfl rfl rfl rfl ?_
  refine Ie.p rfl rfl rfl rfl ?_
  refine Ie.nil ?_
  refine Ne.seq ?_
  refine Ce.cond_false rfl ?_
  refine Ce.skip ?_
  refine Ne.blk ?_
  refine Ne.seq ?_
  refine Ce.seq ?_
  refine Ce.region ?_
  refine Ie.p rfl rfl rfl rfl ?_
  refine Ie.p rfl rfl rfl rfl ?_
  refine Ie.p rfl rfl rfl rfl ?_
  refine Ie.p rfl rfl rfl rfl ?_
  refine Ie.fieldAddr rfl rfl rfl rfl rfl fa43_0 ?_
  refine Ie.load rfl rfl rfl rfl rfl ag3 (by first | exact .head | exact .tail .head | exact .tail (.tail .head) | exact .tail (.tail (.tail .head)) | exact .base ‹_› ‹_› (by simp)) rfl ?_
  refine Ie.fieldAddr rfl rfl rfl rfl rfl fa43_1 ?_
  refine Ie.load rfl rfl rfl rfl rfl ag3 (by first | exact .head | exact .tail .head | exact .tail (.tail .head) | exact .tail (.tail (.tail .head)) | exact .base ‹_› ‹_› (by simp)) rfl ?_
  refine Ie.fieldAddr rfl rfl rfl rfl rfl fa43_2 ?_
  refine Ie.load rfl rfl rfl rfl rfl ag2 (by first | exact .head | exact .tail .head | exact .tail (.tail .head) | exact .tail (.tail (.tail .head)) | exact .base ‹_› ‹_› (by simp)) rfl ?_
  refine Ie.fieldAddr rfl rfl rfl rfl rfl fa43_3 ?_
  refine Ie.load rfl rfl rfl rfl rfl ag2 (by first | exact .head | exact .tail .head | exact .tail (.tail .head) | exact .tail (.tail (.tail .head)) | exact .base ‹_› ‹_› (by simp)) rfl ?_
  refine Ie.call _ rfl rfl rfl rfl rfl rfl (fun m hm => RCompare_i32_12 hm.lole ha hb) ?_
  refine Ie.eqBool rfl rfl rfl rfl Tryz.underlying4 rfl rfl ?_
  refine Ie.as 55 (.bool true) rfl (by rw [hc]; exact congrArg Value.bool (beq_self_eq_true _)) ?_
  refine Ie.p rfl rfl rfl rfl ?_
  refine Ie.p rfl rfl rfl rfl ?_
  refine Ie.nil ?_
  refine Ne.seq ?_
  refine Ce.ret ?_
  exact Re.end_ rfl rfl (fun m hm => ⟨rfl, hm.ext⟩)

theorem compares_i32_13 {a b : Int} {m : AW} (hm : m.lo ≤ m.next) (hlay : LaidAt lays m) (ha : Fit .i64 a) (hb : Fit .i64 b)  (hc : (ltI (wr .i32 a) (wr .i32 b) || eqI (wr .i32 a) (wr .i32 b)) = (!ltI (wr .i32 b) (wr .i32 a))) : Fc Tryz.prog 9 [.agg ⟨[.int .i64 2, .int .i64 13, .int .i64 a, .int .i64 b]⟩] m fun v m' => v = .bool true ∧ Ext m m' := by
  refine Fc.body (c := _) Tryz.func9 rfl rfl rfl rfl hm ?_
  refine Ce.seq ?_
  refine Ce.region ?_
  refine Ie.box rfl rfl rfl rfl rfl (fun b1 hb1 => ?_)
  refine Ie.p rfl rfl rfl rfl ?_
  refine Ie.nil ?_
  refine Ne.seq ?_
  refine Ce.seq ?_
  refine Ce.region ?_
  refine Ie.fieldAddr rfl rfl rfl rfl rfl fa43_0 ?_
  refine Ie.load rfl rfl rfl rfl rfl ag3 (by first | exact .head | exact .tail .head | exact .tail (.tail .head) | exact .tail (.tail (.tail .head)) | exact .base ‹_› ‹_› (by simp)) rfl ?_
  refine Ie.fieldAddr rfl rfl rfl rfl rfl fa43_1 ?_
  refine Ie.load rfl rfl rfl rfl rfl ag3 (by first | exact .head | exact .tail .head | exact .tail (.tail .head) | exact .tail (.tail (.tail .head)) | exact .base ‹_› ‹_› (by simp)) rfl ?_
  refine Ie.fieldAddr rfl rfl rfl rfl rfl fa43_2 ?_
  refine Ie.load rfl rfl rfl rfl rfl ag2 (by first | exact .head | exact .tail .head | exact .tail (.tail .head) | exact .tail (.tail (.tail .head)) | exact .base ‹_› ‹_› (by simp)) rfl ?_
  refine Ie.fieldAddr rfl rfl rfl rfl rfl fa43_3 ?_
  refine Ie.load rfl rfl rfl rfl rfl ag2 (by first | exact .head | exact .tail .head | exact .tail (.tail .head) | exact .tail (.tail (.tail .head)) | exact .base ‹_› ‹_› (by simp)) rfl ?_
  refine Ie.call _ rfl rfl rfl rfl rfl rfl (fun m hm => Compare_i32_13 hm.lole ha hb) ?_
  refine Ie.p rfl rfl rfl rfl ?_
  refine Ie.p rfl rfl rfl rfl ?_
  refine Ie.p rfl rfl rfl rfl ?_
  refine Ie.p rfl rfl rfl rfl ?_
  refine Ie.p rfl rfl rfl rfl ?_
  refine Ie.nil ?_
  refine Ne.seq ?_
  refine Ce.seq ?_
  refine Ce.block ?_
  refine Ce.seq ?_
  refine Ce.region ?_
  refine Ie.call _ rfl rfl rfl rfl rfl rfl (fun m hm => awake_ok (hlay.kr hm)) ?_
  refine Ie.p rfl rfl rfl rfl ?_
  refine Ie.p rfl rfl rfl rfl ?_
  refine Ie.nil ?_
  refine Ne.seq ?_
  refine Ce.cond_false rfl ?_
  refine Ce.seq ?_
  refine Ce.region ?_
  refine Ie.fieldAddr rfl rfl rfl rfl rfl fa43_0 ?_
  refine Ie.load rfl rfl rfl rfl rfl ag3 (by first | exact .head | exact .tail .head | exact .tail (.tail .head) | exact .tail (.tail (.tail .head)) | exact .base ‹_› ‹_› (by simp)) rfl ?_
  refine Ie.call _ rfl rfl rfl rfl rfl rfl (fun m hm => Kind_i32 hm.lole) ?_
  refine Ie.p rfl rfl rfl rfl ?_
  refine Ie.p rfl rfl rfl rfl ?_
  refine Ie.nil ?_
  refine Ne.seq ?_
  refine Ce.cond_false rfl ?_
  refine Ce.seq ?_
  refine Ce.region ?_
  refine Ie.fieldAddr rfl rfl rfl rfl rfl fa43_1 ?_
  refine Ie.load rfl rfl rfl rfl rfl ag3 (by first | exact .head | exact .tail .head | exact .tail (.tail .head) | exact .tail (.tail (.tail .head)) | exact .base ‹_› ‹_› (by simp)) rfl ?_
  refine Ie.call _ rfl rfl rfl rfl rfl rfl (fun m hm => FitsCompare_13 hm.lole) ?_
  refine Ie.p rfl rfl rfl rfl ?_
  refine Ie.p rfl rfl rfl rfl ?_
  refine Ie.nil ?_
  refine Ne.seq ?_
  refine Ce.cond_false rfl ?_
  refine Ce.skip ?_
  refine Ne.blk ?_
  refine Ne.seq ?_
  refine Ce.seq ?_
  refine Ce.region ?_
  refine Ie.p rfl rfl rfl rfl ?_
  refine Ie.p rfl rfl rfl rfl ?_
  refine Ie.p rfl rfl rfl rfl ?_
  refine Ie.p rfl rfl rfl rfl ?_
  refine Ie.fieldAddr rfl rfl rfl rfl rfl fa43_0 ?_
  refine Ie.load rfl rfl rfl rfl rfl ag3 (by first | exact .head | exact .tail .head | exact .tail (.tail .head) | exact .tail (.tail (.tail .head)) | exact .base ‹_› ‹_› (by simp)) rfl ?_
  refine Ie.fieldAddr rfl rfl rfl rfl rfl fa43_1 ?_
  refine Ie.load rfl rfl rfl rfl rfl ag3 (by first | exact .head | exact .tail .head | exact .tail (.tail .head) | exact .tail (.tail (.tail .head)) | exact .base ‹_› ‹_› (by simp)) rfl ?_
  refine Ie.fieldAddr rfl rfl rfl rfl rfl fa43_2 ?_
  refine Ie.load rfl rfl rfl rfl rfl ag2 (by first | exact .head | exact .tail .head | exact .tail (.tail .head) | exact .tail (.tail (.tail .head)) | exact .base ‹_› ‹_› (by simp)) rfl ?_
  refine Ie.fieldAddr rfl rfl rfl rfl rfl fa43_3 ?_
  refine Ie.load rfl rfl rfl rfl rfl ag2 (by first | exact .head | exact .tail .head | exact .tail (.tail .head) | exact .tail (.tail (.tail .head)) | exact .base ‹_› ‹_› (by simp)) rfl ?_
  refine Ie.call _ rfl rfl rfl rfl rfl rfl (fun m hm => RCompare_i32_13 hm.lole ha hb) ?_
  refine Ie.eqBool rfl rfl rfl rfl Tryz.underlying4 rfl rfl ?_
  refine Ie.as 55 (.bool true) rfl (by rw [hc]; exact congrArg Value.bool (beq_self_eq_true _)) ?_
  refine Ie.p rfl rfl rfl rfl ?_
  refine Ie.p rfl rfl rfl rfl ?_
  refine Ie.nil ?_
  refine Ne.seq ?_
  refine Ce.ret ?_
  exact Re.end_ rfl rfl (fun m hm => ⟨rfl, hm.ext⟩)

theorem compares_i32_14 {a b : Int} {m : AW} (hm : m.lo ≤ m.next) (hlay : LaidAt lays m) (ha : Fit .i64 a) (hb : Fit .i64 b)  (hc : ltI (wr .i32 b) (wr .i32 a) = ltI (wr .i32 b) (wr .i32 a)) : Fc Tryz.prog 9 [.agg ⟨[.int .i64 2, .int .i64 14, .int .i64 a, .int .i64 b]⟩] m fun v m' => v = .bool true ∧ Ext m m' := by
  refine Fc.body (c := _) Tryz.func9 rfl rfl rfl rfl hm ?_
  refine Ce.seq ?_
  refine Ce.region ?_
  refine Ie.box rfl rfl rfl rfl rfl (fun b1 hb1 => ?_)
  refine Ie.p rfl rfl rfl rfl ?_
  refine Ie.nil ?_
  refine Ne.seq ?_
  refine Ce.seq ?_
  refine Ce.region ?_
  refine Ie.fieldAddr rfl rfl rfl rfl rfl fa43_0 ?_
  refine Ie.load rfl rfl rfl rfl rfl ag3 (by first | exact .head | exact .tail .head | exact .tail (.tail .head) | exact .tail (.tail (.tail .head)) | exact .base ‹_› ‹_› (by simp)) rfl ?_
  refine Ie.fieldAddr rfl rfl rfl rfl rfl fa43_1 ?_
  refine Ie.load rfl rfl rfl rfl rfl ag3 (by first | exact .head | exact .tail .head | exact .tail (.tail .head) | exact .tail (.tail (.tail .head)) | exact .base ‹_› ‹_› (by simp)) rfl ?_
  refine Ie.fieldAddr rfl rfl rfl rfl rfl fa43_2 ?_
  refine Ie.load rfl rfl rfl rfl rfl ag2 (by first | exact .head | exact .tail .head | exact .tail (.tail .head) | exact .tail (.tail (.tail .head)) | exact .base ‹_› ‹_› (by simp)) rfl ?_
  refine Ie.fieldAddr rfl rfl rfl rfl rfl fa43_3 ?_
  refine Ie.load rfl rfl rfl rfl rfl ag2 (by first | exact .head | exact .tail .head | exact .tail (.tail .head) | exact .tail (.tail (.tail .head)) | exact .base ‹_› ‹_› (by simp)) rfl ?_
  refine Ie.call _ rfl rfl rfl rfl rfl rfl (fun m hm => Compare_i32_14 hm.lole ha hb) ?_
  refine Ie.p rfl rfl rfl rfl ?_
  refine Ie.p rfl rfl rfl rfl ?_
  refine Ie.p rfl rfl rfl rfl ?_
  refine Ie.p rfl rfl rfl rfl ?_
  refine Ie.p rfl rfl rfl rfl ?_
  refine Ie.nil ?_
  refine Ne.seq ?_
  refine Ce.seq ?_
  refine Ce.block ?_
  refine Ce.seq ?_
  refine Ce.region ?_
  refine Ie.call _ rfl rfl rfl rfl rfl rfl (fun m hm => awake_ok (hlay.kr hm)) ?_
  refine Ie.p rfl rfl rfl rfl ?_
  refine Ie.p rfl rfl rfl rfl ?_
  refine Ie.nil ?_
  refine Ne.seq ?_
  refine Ce.cond_false rfl ?_
  refine Ce.seq ?_
  refine Ce.region ?_
  refine Ie.fieldAddr rfl rfl rfl rfl rfl fa43_0 ?_
  refine Ie.load rfl rfl rfl rfl rfl ag3 (by first | exact .head | exact .tail .head | exact .tail (.tail .head) | exact .tail (.tail (.tail .head)) | exact .base ‹_› ‹_› (by simp)) rfl ?_
  refine Ie.call _ rfl rfl rfl rfl rfl rfl (fun m hm => Kind_i32 hm.lole) ?_
  refine Ie.p rfl rfl rfl rfl ?_
  refine Ie.p rfl rfl rfl rfl ?_
  refine Ie.nil ?_
  refine Ne.seq ?_
  refine Ce.cond_false rfl ?_
  refine Ce.seq ?_
  refine Ce.region ?_
  refine Ie.fieldAddr rfl rfl rfl rfl rfl fa43_1 ?_
  refine Ie.load rfl rfl rfl rfl rfl ag3 (by first | exact .head | exact .tail .head | exact .tail (.tail .head) | exact .tail (.tail (.tail .head)) | exact .base ‹_› ‹_› (by simp)) rfl ?_
  refine Ie.call _ rfl rfl rfl rfl rfl rfl (fun m hm => FitsCompare_14 hm.lole) ?_
  refine Ie.p rfl rfl rfl rfl ?_
  refine Ie.p rfl rfl rfl rfl ?_
  refine Ie.nil ?_
  refine Ne.seq ?_
  refine Ce.cond_false rfl ?_
  refine Ce.skip ?_
  refine Ne.blk ?_
  refine Ne.seq ?_
  refine Ce.seq ?_
  refine Ce.region ?_
  refine Ie.p rfl rfl rfl rfl ?_
  refine Ie.p rfl rfl rfl rfl ?_
  refine Ie.p rfl rfl rfl rfl ?_
  refine Ie.p rfl rfl rfl rfl ?_
  refine Ie.fieldAddr rfl rfl rfl rfl rfl fa43_0 ?_
  refine Ie.load rfl rfl rfl rfl rfl ag3 (by first | exact .head | exact .tail .head | exact .tail (.tail .head) | exact .tail (.tail (.tail .head)) | exact .base ‹_› ‹_› (by simp)) rfl ?_
  refine Ie.fieldAddr rfl rfl rfl rfl rfl fa43_1 ?_
  refine Ie.load rfl rfl rfl rfl rfl ag3 (by first | exact .head | exact .tail .head | exact .tail (.tail .head) | exact .tail (.tail (.tail .head)) | exact .base ‹_› ‹_› (by simp)) rfl ?_
  refine Ie.fieldAddr rfl rfl rfl rfl rfl fa43_2 ?_
  refine Ie.load rfl rfl rfl rfl rfl ag2 (by first | exact .head | exact .tail .head | exact .tail (.tail .head) | exact .tail (.tail (.tail .head)) | exact .base ‹_› ‹_› (by simp)) rfl ?_
  refine Ie.fieldAddr rfl rfl rfl rfl rfl fa43_3 ?_
  refine Ie.load rfl rfl rfl rfl rfl ag2 (by first | exact .head | exact .tail .head | exact .tail (.tail .head) | exact .tail (.tail (.tail .head)) | exact .base ‹_› ‹_› (by simp)) rfl ?_
  refine Ie.call _ rfl rfl rfl rfl rfl rfl (fun m hm => RCompare_i32_14 hm.lole ha hb) ?_
  refine Ie.eqBool rfl rfl rfl rfl Tryz.underlying4 rfl rfl ?_
  refine Ie.as 55 (.bool true) rfl (by rw [hc]; exact congrArg Value.bool (beq_self_eq_true _)) ?_
  refine Ie.p rfl rfl rfl rfl ?_
  refine Ie.p rfl rfl rfl rfl ?_
  refine Ie.nil ?_
  refine Ne.seq ?_
  refine Ce.ret ?_
  exact Re.end_ rfl rfl (fun m hm => ⟨rfl, hm.ext⟩)

theorem compares_i32_15 {a b : Int} {m : AW} (hm : m.lo ≤ m.next) (hlay : LaidAt lays m) (ha : Fit .i64 a) (hb : Fit .i64 b)  (hc : (ltI (wr .i32 b) (wr .i32 a) || eqI (wr .i32 a) (wr .i32 b)) = (!ltI (wr .i32 a) (wr .i32 b))) : Fc Tryz.prog 9 [.agg ⟨[.int .i64 2, .int .i64 15, .int .i64 a, .int .i64 b]⟩] m fun v m' => v = .bool true ∧ Ext m m' := by
  refine Fc.body (c := _) Tryz.func9 rfl rfl rfl rfl hm ?_
  refine Ce.seq ?_
  refine Ce.region ?_
  refine Ie.box rfl rfl rfl rfl rfl (fun b1 hb1 => ?_)
  refine Ie.p rfl rfl rfl rfl ?_
  refine Ie.nil ?_
  refine Ne.seq ?_
  refine Ce.seq ?_
  refine Ce.region ?_
  refine Ie.fieldAddr rfl rfl rfl rfl rfl fa43_0 ?_
  refine Ie.load rfl rfl rfl rfl rfl ag3 (by first | exact .head | exact .tail .head | exact .tail (.tail .head) | exact .tail (.tail (.tail .head)) | exact .base ‹_› ‹_› (by simp)) rfl ?_
  refine Ie.fieldAddr rfl rfl rfl rfl rfl fa43_1 ?_
  refine Ie.load rfl rfl rfl rfl rfl ag3 (by first | exact .head | exact .tail .head | exact .tail (.tail .head) | exact .tail (.tail (.tail .head)) | exact .base ‹_› ‹_› (by simp)) rfl ?_
  refine Ie.fieldAddr rfl rfl rfl rfl rfl fa43_2 ?_
  refine Ie.load rfl rfl rfl rfl rfl ag2 (by first | exact .head | exact .tail .head | exact .tail (.tail .head) | exact .tail (.tail (.tail .head)) | exact .base ‹_› ‹_› (by simp)) rfl ?_
  refine Ie.fieldAddr rfl rfl rfl rfl rfl fa43_3 ?_
  refine Ie.load rfl rfl rfl rfl rfl ag2 (by first | exact .head | exact .tail .head | exact .tail (.tail .head) | exact .tail (.tail (.tail .head)) | exact .base ‹_› ‹_› (by simp)) rfl ?_
  refine Ie.call _ rfl rfl rfl rfl rfl rfl (fun m hm => Compare_i32_15 hm.lole ha hb) ?_
  refine Ie.p rfl rfl rfl rfl ?_
  refine Ie.p rfl rfl rfl rfl ?_
  refine Ie.p rfl rfl rfl rfl ?_
  refine Ie.p rfl rfl rfl rfl ?_
  refine Ie.p rfl rfl rfl rfl ?_
  refine Ie.nil ?_
  refine Ne.seq ?_
  refine Ce.seq ?_
  refine Ce.block ?_
  refine Ce.seq ?_
  refine Ce.region ?_
  refine Ie.call _ rfl rfl rfl rfl rfl rfl (fun m hm => awake_ok (hlay.kr hm)) ?_
  refine Ie.p rfl rfl rfl rfl ?_
  refine Ie.p rfl rfl rfl rfl ?_
  refine Ie.nil ?_
  refine Ne.seq ?_
  refine Ce.cond_false rfl ?_
  refine Ce.seq ?_
  refine Ce.region ?_
  refine Ie.fieldAddr rfl rfl rfl rfl rfl fa43_0 ?_
  refine Ie.load rfl rfl rfl rfl rfl ag3 (by first | exact .head | exact .tail .head | exact .tail (.tail .head) | exact .tail (.tail (.tail .head)) | exact .base ‹_› ‹_› (by simp)) rfl ?_
  refine Ie.call _ rfl rfl rfl rfl rfl rfl (fun m hm => Kind_i32 hm.lole) ?_
  refine Ie.p rfl rfl rfl rfl ?_
  refine Ie.p rfl rfl rfl rfl ?_
  refine Ie.nil ?_
  refine Ne.seq ?_
  refine Ce.cond_false rfl ?_
  refine Ce.seq ?_
  refine Ce.region ?_
  refine Ie.fieldAddr rfl rfl rfl rfl rfl fa43_1 ?_
  refine Ie.load rfl rfl rfl rfl rfl ag3 (by first | exact .head | exact .tail .head | exact .tail (.tail .head) | exact .tail (.tail (.tail .head)) | exact .base ‹_› ‹_› (by simp)) rfl ?_
  refine Ie.call _ rfl rfl rfl rfl rfl rfl (fun m hm => FitsCompare_15 hm.lole) ?_
  refine Ie.p rfl rfl rfl rfl ?_
  refine Ie.p rfl rfl rfl rfl ?_
  refine Ie.nil ?_
  refine Ne.seq ?_
  refine Ce.cond_false rfl ?_
  refine Ce.skip ?_
  refine Ne.blk ?_
  refine Ne.seq ?_
  refine Ce.seq ?_
  refine Ce.region ?_
  refine Ie.p rfl rfl rfl rfl ?_
  refine Ie.p rfl rfl rfl rfl ?_
  refine Ie.p rfl rfl rfl rfl ?_
  refine Ie.p rfl rfl rfl rfl ?_
  refine Ie.fieldAddr rfl rfl rfl rfl rfl fa43_0 ?_
  refine Ie.load rfl rfl rfl rfl rfl ag3 (by first | exact .head | exact .tail .head | exact .tail (.tail .head) | exact .tail (.tail (.tail .head)) | exact .base ‹_› ‹_› (by simp)) rfl ?_
  refine Ie.fieldAddr rfl rfl rfl rfl rfl fa43_1 ?_
  refine Ie.load rfl rfl rfl rfl rfl ag3 (by first | exact .head | exact .tail .head | exact .tail (.tail .head) | exact .tail (.tail (.tail .head)) | exact .base ‹_› ‹_› (by simp)) rfl ?_
  refine Ie.fieldAddr rfl rfl rfl rfl rfl fa43_2 ?_
  refine Ie.load rfl rfl rfl rfl rfl ag2 (by first | exact .head | exact .tail .head | exact .tail (.tail .head) | exact .tail (.tail (.tail .head)) | exact .base ‹_› ‹_› (by simp)) rfl ?_
  refine Ie.fieldAddr rfl rfl rfl rfl rfl fa43_3 ?_
  refine Ie.load rfl rfl rfl rfl rfl ag2 (by first | exact .head | exact .tail .head | exact .tail (.tail .head) | exact .tail (.tail (.tail .head)) | exact .base ‹_› ‹_› (by simp)) rfl ?_
  refine Ie.call _ rfl rfl rfl rfl rfl rfl (fun m hm => RCompare_i32_15 hm.lole ha hb) ?_
  refine Ie.eqBool rfl rfl rfl rfl Tryz.underlying4 rfl rfl ?_
  refine Ie.as 55 (.bool true) rfl (by rw [hc]; exact congrArg Value.bool (beq_self_eq_true _)) ?_
  refine Ie.p rfl rfl rfl rfl ?_
  refine Ie.p rfl rfl rfl rfl ?_
  refine Ie.nil ?_
  refine Ne.seq ?_
  refine Ce.ret ?_
  exact Re.end_ rfl rfl (fun m hm => ⟨rfl, hm.ext⟩)

theorem compares_i32_other {op a b : Int} {m : AW} (hm : m.lo ≤ m.next) (hlay : LaidAt lays m) (ha : Fit .i64 a) (hb : Fit .i64 b) (hop : op < 10 ∨ 15 < op) : Fc Tryz.prog 9 [.agg ⟨[.int .i64 2, .int .i64 op, .int .i64 a, .int .i64 b]⟩] m fun v m' => v = .bool true ∧ Ext m m' := by
  refine Fc.body (c := _) Tryz.func9 rfl rfl rfl rfl hm ?_
  refine Ce.seq ?_
  refine Ce.region ?_
  refine Ie.box rfl rfl rfl rfl rfl (fun b1 hb1 => ?_)
  refine Ie.p rfl rfl rfl rfl ?_
  refine Ie.nil ?_
  refine Ne.seq ?_
  refine Ce.seq ?_
  refine Ce.region ?_
  refine Ie.fieldAddr rfl rfl rfl rfl rfl fa43_0 ?_
  refine Ie.load rfl rfl rfl rfl rfl ag3 (by first | exact .head | exact .tail .head | exact .tail (.tail .head) | exact .tail (.tail (.tail .head)) | exact .base ‹_› ‹_› (by simp)) rfl ?_
  refine Ie.fieldAddr rfl rfl rfl rfl rfl fa43_1 ?_
  refine Ie.load rfl rfl rfl rfl rfl ag3 (by first | exact .head | exact .tail .head | exact .tail (.tail .head) | exact .tail (.tail (.tail .head)) | exact .base ‹_› ‹_› (by simp)) rfl ?_
  refine Ie.fieldAddr rfl rfl rfl rfl rfl fa43_2 ?_
  refine Ie.load rfl rfl rfl rfl rfl ag2 (by first | exact .head | exact .tail .head | exact .tail (.tail .head) | exact .tail (.tail (.tail .head)) | exact .base ‹_› ‹_› (by simp)) rfl ?_
  refine Ie.fieldAddr rfl rfl rfl rfl rfl fa43_3 ?_
  refine Ie.load rfl rfl rfl rfl rfl ag2 (by first | exact .head | exact .tail .head | exact .tail (.tail .head) | exact .tail (.tail (.tail .head)) | exact .base ‹_› ‹_› (by simp)) rfl ?_
  refine Ie.call _ rfl rfl rfl rfl rfl rfl (fun m hm => Compare_i32_other hm.lole ha hb hop) ?_
  refine Ie.p rfl rfl rfl rfl ?_
  refine Ie.p rfl rfl rfl rfl ?_
  refine Ie.p rfl rfl rfl rfl ?_
  refine Ie.p rfl rfl rfl rfl ?_
  refine Ie.p rfl rfl rfl rfl ?_
  refine Ie.nil ?_
  refine Ne.seq ?_
  refine Ce.seq ?_
  refine Ce.block ?_
  refine Ce.seq ?_
  refine Ce.region ?_
  refine Ie.call _ rfl rfl rfl rfl rfl rfl (fun m hm => awake_ok (hlay.kr hm)) ?_
  refine Ie.p rfl rfl rfl rfl ?_
  refine Ie.p rfl rfl rfl rfl ?_
  refine Ie.nil ?_
  refine Ne.seq ?_
  refine Ce.cond_false rfl ?_
  refine Ce.seq ?_
  refine Ce.region ?_
  refine Ie.fieldAddr rfl rfl rfl rfl rfl fa43_0 ?_
  refine Ie.load rfl rfl rfl rfl rfl ag3 (by first | exact .head | exact .tail .head | exact .tail (.tail .head) | exact .tail (.tail (.tail .head)) | exact .base ‹_› ‹_› (by simp)) rfl ?_
  refine Ie.call _ rfl rfl rfl rfl rfl rfl (fun m hm => Kind_i32 hm.lole) ?_
  refine Ie.p rfl rfl rfl rfl ?_
  refine Ie.p rfl rfl rfl rfl ?_
  refine Ie.nil ?_
  refine Ne.seq ?_
  refine Ce.cond_false rfl ?_
  refine Ce.seq ?_
  refine Ce.region ?_
  refine Ie.fieldAddr rfl rfl rfl rfl rfl fa43_1 ?_
  refine Ie.load rfl rfl rfl rfl rfl ag3 (by first | exact .head | exact .tail .head | exact .tail (.tail .head) | exact .tail (.tail (.tail .head)) | exact .base ‹_› ‹_› (by simp)) rfl ?_
  refine Ie.call _ rfl rfl rfl rfl rfl rfl (fun m hm => FitsCompare_other hm.lole hop) ?_
  refine Ie.p rfl rfl rfl rfl ?_
  refine Ie.p rfl rfl rfl rfl ?_
  refine Ie.nil ?_
  refine Ne.seq ?_
  refine Ce.cond_true rfl ?_
  refine Ce.seq ?_
  refine Ce.region ?_
  refine Ie.p rfl rfl rfl rfl ?_
  refine Ie.p rfl rfl rfl rfl ?_
  refine Ie.p rfl rfl rfl rfl ?_
  refine Ie.p rfl rfl rfl rfl ?_
  refine Ie.p rfl rfl rfl rfl ?_
  refine Ie.p rfl rfl rfl rfl ?_
  refine Ie.p rfl rfl rfl rfl ?_
  refine Ie.nil ?_
  refine Ne.seq ?_
  refine Ce.ret ?_
  refine Re.blk ?_
  refine Re.seq ?_
  exact Re.end_ rfl rfl (fun m hm => ⟨rfl, hm.ext⟩)

theorem compares_i64_10 {a b : Int} {m : AW} (hm : m.lo ≤ m.next) (hlay : LaidAt lays m) (ha : Fit .i64 a) (hb : Fit .i64 b)  (hc : eqI (wr .i64 a) (wr .i64 b) = (!ltI (wr .i64 a) (wr .i64 b) && !ltI (wr .i64 b) (wr .i64 a))) : Fc Tryz.prog 9 [.agg ⟨[.int .i64 3, .int .i64 10, .int .i64 a, .int .i64 b]⟩] m fun v m' => v = .bool true ∧ Ext m m' := by
  refine Fc.body (c := _) Tryz.func9 rfl rfl rfl rfl hm ?_
  refine Ce.seq ?_
  refine Ce.region ?_
  refine Ie.box rfl rfl rfl rfl rfl (fun b1 hb1 => ?_)
  refine Ie.p rfl rfl rfl rfl ?_
  refine Ie.nil ?_
  refine Ne.seq ?_
  refine Ce.seq ?_
  refine Ce.region ?_
  refine Ie.fieldAddr rfl rfl rfl rfl rfl fa43_0 ?_
  refine Ie.load rfl rfl rfl rfl rfl ag3 (by first | exact .head | exact .tail .head | exact .tail (.tail .head) | exact .tail (.tail (.tail .head)) | exact .base ‹_› ‹_› (by simp)) rfl ?_
  refine Ie.fieldAddr rfl rfl rfl rfl rfl fa43_1 ?_
  refine Ie.load rfl rfl rfl rfl rfl ag3 (by first | exact .head | exact .tail .head | exact .tail (.tail .head) | exact .tail (.tail (.tail .head)) | exact .base ‹_› ‹_› (by simp)) rfl ?_
  refine Ie.fieldAddr rfl rfl rfl rfl rfl fa43_2 ?_
  refine Ie.load rfl rfl rfl rfl rfl ag2 (by first | exact .head | exact .tail .head | exact .tail (.tail .head) | exact .tail (.tail (.tail .head)) | exact .base ‹_› ‹_› (by simp)) rfl ?_
  refine Ie.fieldAddr rfl rfl rfl rfl rfl fa43_3 ?_
  refine Ie.load rfl rfl rfl rfl rfl ag2 (by first | exact .head | exact .tail .head | exact .tail (.tail .head) | exact .tail (.tail (.tail .head)) | exact .base ‹_› ‹_› (by simp)) rfl ?_
  refine Ie.call _ rfl rfl rfl rfl rfl rfl (fun m hm => Compare_i64_10 hm.lole ha hb) ?_
  refine Ie.p rfl rfl rfl rfl ?_
  refine Ie.p rfl rfl rfl rfl ?_
  refine Ie.p rfl rfl rfl rfl ?_
  refine Ie.p rfl rfl rfl rfl ?_
  refine Ie.p rfl rfl rfl rfl ?_
  refine Ie.nil ?_
  refine Ne.seq ?_
  refine Ce.seq ?_
  refine Ce.block ?_
  refine Ce.seq ?_
  refine Ce.region ?_
  refine Ie.call _ rfl rfl rfl rfl rfl rfl (fun m hm => awake_ok (hlay.kr hm)) ?_
  refine Ie.p rfl rfl rfl rfl ?_
  refine Ie.p rfl rfl rfl rfl ?_
  refine Ie.nil ?_
  refine Ne.seq ?_
  refine Ce.cond_false rfl ?_
  refine Ce.seq ?_
  refine Ce.region ?_
  refine Ie.fieldAddr rfl rfl rfl rfl rfl fa43_0 ?_
  refine Ie.load rfl rfl rfl rfl rfl ag3 (by first | exact .head | exact .tail .head | exact .tail (.tail .head) | exact .tail (.tail (.tail .head)) | exact .base ‹_› ‹_› (by simp)) rfl ?_
  refine Ie.call _ rfl rfl rfl rfl rfl rfl (fun m hm => Kind_i64 hm.lole) ?_
  refine Ie.p rfl rfl rfl rfl ?_
  refine Ie.p rfl rfl rfl rfl ?_
  refine Ie.nil ?_
  refine Ne.seq ?_
  refine Ce.cond_false rfl ?_
  refine Ce.seq ?_
  refine Ce.region ?_
  refine Ie.fieldAddr rfl rfl rfl rfl rfl fa43_1 ?_
  refine Ie.load rfl rfl rfl rfl rfl ag3 (by first | exact .head | exact .tail .head | exact .tail (.tail .head) | exact .tail (.tail (.tail .head)) | exact .base ‹_› ‹_› (by simp)) rfl ?_
  refine Ie.call _ rfl rfl rfl rfl rfl rfl (fun m hm => FitsCompare_10 hm.lole) ?_
  refine Ie.p rfl rfl rfl rfl ?_
  refine Ie.p rfl rfl rfl rfl ?_
  refine Ie.nil ?_
  refine Ne.seq ?_
  refine Ce.cond_false rfl ?_
  refine Ce.skip ?_
  refine Ne.blk ?_
  refine Ne.seq ?_
  refine Ce.seq ?_
  refine Ce.region ?_
  refine Ie.p rfl rfl rfl rfl ?_
  refine Ie.p rfl rfl rfl rfl ?_
  refine Ie.p rfl rfl rfl rfl ?_
  refine Ie.p rfl rfl rfl rfl ?_
  refine Ie.fieldAddr rfl rfl rfl rfl rfl fa43_0 ?_
  refine Ie.load rfl rfl rfl rfl rfl ag3 (by first | exact .head | exact .tail .head | exact .tail (.tail .head) | exact .tail (.tail (.tail .head)) | exact .base ‹_› ‹_› (by simp)) rfl ?_
  refine Ie.fieldAddr rfl rfl rfl rfl rfl fa43_1 ?_
  refine Ie.load rfl rfl rfl rfl rfl ag3 (by first | exact .head | exact .tail .head | exact .tail (.tail .head) | exact .tail (.tail (.tail .head)) | exact .base ‹_› ‹_› (by simp)) rfl ?_
  refine Ie.fieldAddr rfl rfl rfl rfl rfl fa43_2 ?_
  refine Ie.load rfl rfl rfl rfl rfl ag2 (by first | exact .head | exact .tail .head | exact .tail (.tail .head) | exact .tail (.tail (.tail .head)) | exact .base ‹_› ‹_› (by simp)) rfl ?_
  refine Ie.fieldAddr rfl rfl rfl rfl rfl fa43_3 ?_
  refine Ie.load rfl rfl rfl rfl rfl ag2 (by first | exact .head | exact .tail .head | exact .tail (.tail .head) | exact .tail (.tail (.tail .head)) | exact .base ‹_› ‹_› (by simp)) rfl ?_
  refine Ie.call _ rfl rfl rfl rfl rfl rfl (fun m hm => RCompare_i64_10 hm.lole ha hb) ?_
  refine Ie.eqBool rfl rfl rfl rfl Tryz.underlying4 rfl rfl ?_
  refine Ie.as 55 (.bool true) rfl (by rw [hc]; exact congrArg Value.bool (beq_self_eq_true _)) ?_
  refine Ie.p rfl rfl rfl rfl ?_
  refine Ie.p rfl rfl rfl rfl ?_
  refine Ie.nil ?_
  refine Ne.seq ?_
  refine Ce.ret ?_
  exact Re.end_ rfl rfl (fun m hm => ⟨rfl, hm.ext⟩)

theorem compares_i64_11 {a b : Int} {m : AW} (hm : m.lo ≤ m.next) (hlay : LaidAt lays m) (ha : Fit .i64 a) (hb : Fit .i64 b)  (hc : (!eqI (wr .i64 a) (wr .i64 b)) = (ltI (wr .i64 a) (wr .i64 b) || ltI (wr .i64 b) (wr .i64 a))) : Fc Tryz.prog 9 [.agg ⟨[.int .i64 3, .int .i64 11, .int .i64 a, .int .i64 b]⟩] m fun v m' => v = .bool true ∧ Ext m m' := by
  refine Fc.body (c := _) Tryz.func9 rfl rfl rfl rfl hm ?_
  refine Ce.seq ?_
  refine Ce.region ?_
  refine Ie.box rfl rfl rfl rfl rfl (fun b1 hb1 => ?_)
  refine Ie.p rfl rfl rfl rfl ?_
  refine Ie.nil ?_
  refine Ne.seq ?_
  refine Ce.seq ?_
  refine Ce.region ?_
  refine Ie.fieldAddr rfl rfl rfl rfl rfl fa43_0 ?_
  refine Ie.load rfl rfl rfl rfl rfl ag3 (by first | exact .head | exact .tail .head | exact .tail (.tail .head) | exact .tail (.tail (.tail .head)) | exact .base ‹_› ‹_› (by simp)) rfl ?_
  refine Ie.fieldAddr rfl rfl rfl rfl rfl fa43_1 ?_
  refine Ie.load rfl rfl rfl rfl rfl ag3 (by first | exact .head | exact .tail .head | exact .tail (.tail .head) | exact .tail (.tail (.tail .head)) | exact .base ‹_› ‹_› (by simp)) rfl ?_
  refine Ie.fieldAddr rfl rfl rfl rfl rfl fa43_2 ?_
  refine Ie.load rfl rfl rfl rfl rfl ag2 (by first | exact .head | exact .tail .head | exact .tail (.tail .head) | exact .tail (.tail (.tail .head)) | exact .base ‹_› ‹_› (by simp)) rfl ?_
  refine Ie.fieldAddr rfl rfl rfl rfl rfl fa43_3 ?_
  refine Ie.load rfl rfl rfl rfl rfl ag2 (by first | exact .head | exact .tail .head | exact .tail (.tail .head) | exact .tail (.tail (.tail .head)) | exact .base ‹_› ‹_› (by simp)) rfl ?_
  refine Ie.call _ rfl rfl rfl rfl rfl rfl (fun m hm => Compare_i64_11 hm.lole ha hb) ?_
  refine Ie.p rfl rfl rfl rfl ?_
  refine Ie.p rfl rfl rfl rfl ?_
  refine Ie.p rfl rfl rfl rfl ?_
  refine Ie.p rfl rfl rfl rfl ?_
  refine Ie.p rfl rfl rfl rfl ?_
  refine Ie.nil ?_
  refine Ne.seq ?_
  refine Ce.seq ?_
  refine Ce.block ?_
  refine Ce.seq ?_
  refine Ce.region ?_
  refine Ie.call _ rfl rfl rfl rfl rfl rfl (fun m hm => awake_ok (hlay.kr hm)) ?_
  refine Ie.p rfl rfl rfl rfl ?_
  refine Ie.p rfl rfl rfl rfl ?_
  refine Ie.nil ?_
  refine Ne.seq ?_
  refine Ce.cond_false rfl ?_
  refine Ce.seq ?_
  refine Ce.region ?_
  refine Ie.fieldAddr rfl rfl rfl rfl rfl fa43_0 ?_
  refine Ie.load rfl rfl rfl rfl rfl ag3 (by first | exact .head | exact .tail .head | exact .tail (.tail .head) | exact .tail (.tail (.tail .head)) | exact .base ‹_› ‹_› (by simp)) rfl ?_
  refine Ie.call _ rfl rfl rfl rfl rfl rfl (fun m hm => Kind_i64 hm.lole) ?_
  refine Ie.p rfl rfl rfl rfl ?_
  refine Ie.p rfl rfl rfl rfl ?_
  refine Ie.nil ?_
  refine Ne.seq ?_
  refine Ce.cond_false rfl ?_
  refine Ce.seq ?_
  refine Ce.region ?_
  refine Ie.fieldAddr rfl rfl rfl rfl rfl fa43_1 ?_
  refine Ie.load rfl rfl rfl rfl rfl ag3 (by first | exact .head | exact .tail .head | exact .tail (.tail .head) | exact .tail (.tail (.tail .head)) | exact .base ‹_› ‹_› (by simp)) rfl ?_
  refine Ie.call _ rfl rfl rfl rfl rfl rfl (fun m hm => FitsCompare_11 hm.lole) ?_
  refine Ie.p rfl rfl rfl rfl ?_
  refine Ie.p rfl rfl rfl rfl ?_
  refine Ie.nil ?_
  refine Ne.seq ?_
  refine Ce.cond_false rfl ?_
  refine Ce.skip ?_
  refine Ne.blk ?_
  refine Ne.seq ?_
  refine Ce.seq ?_
  refine Ce.region ?_
  refine Ie.p rfl rfl rfl rfl ?_
  refine Ie.p rfl rfl rfl rfl ?_
  refine Ie.p rfl rfl rfl rfl ?_
  refine Ie.p rfl rfl rfl rfl ?_
  refine Ie.fieldAddr rfl rfl rfl rfl rfl fa43_0 ?_
  refine Ie.load rfl rfl rfl rfl rfl ag3 (by first | exact .head | exact .tail .head | exact .tail (.tail .head) | exact .tail (.tail (.tail .head)) | exact .base ‹_› ‹_› (by simp)) rfl ?_
  refine Ie.fieldAddr rfl rfl rfl rfl rfl fa43_1 ?_
  refine Ie.load rfl rfl rfl rfl rfl ag3 (by first | exact .head | exact .tail .head | exact .tail (.tail .head) | exact .tail (.tail (.tail .head)) | exact .base ‹_› ‹_› (by simp)) rfl ?_
  refine Ie.fieldAddr rfl rfl rfl rfl rfl fa43_2 ?_
  refine Ie.load rfl rfl rfl rfl rfl ag2 (by first | exact .head | exact .tail .head | exact .tail (.tail .head) | exact .tail (.tail (.tail .head)) | exact .base ‹_› ‹_› (by simp)) rfl ?_
  refine Ie.fieldAddr rfl rfl rfl rfl rfl fa43_3 ?_
  refine Ie.load rfl rfl rfl rfl rfl ag2 (by first | exact .head | exact .tail .head | exact .tail (.tail .head) | exact .tail (.tail (.tail .head)) | exact .base ‹_› ‹_› (by simp)) rfl ?_
  refine Ie.call _ rfl rfl rfl rfl rfl rfl (fun m hm => RCompare_i64_11 hm.lole ha hb) ?_
  refine Ie.eqBool rfl rfl rfl rfl Tryz.underlying4 rfl rfl ?_
  refine Ie.as 55 (.bool true) rfl (by rw [hc]; exact congrArg Value.bool (beq_self_eq_true _)) ?_
  refine Ie.p rfl rfl rfl rfl ?_
  refine Ie.p rfl rfl rfl rfl ?_
  refine Ie.nil ?_
  refine Ne.seq ?_
  refine Ce.ret ?_
  exact Re.end_ rfl rfl (fun m hm => ⟨rfl, hm.ext⟩)

theorem compares_i64_12 {a b : Int} {m : AW} (hm : m.lo ≤ m.next) (hlay : LaidAt lays m) (ha : Fit .i64 a) (hb : Fit .i64 b)  (hc : ltI (wr .i64 a) (wr .i64 b) = ltI (wr .i64 a) (wr .i64 b)) : Fc Tryz.prog 9 [.agg ⟨[.int .i64 3, .int .i64 12, .int .i64 a, .int .i64 b]⟩] m fun v m' => v = .bool true ∧ Ext m m' := by
  refine Fc.body (c := _) Tryz.func9 rfl rfl rfl rfl hm ?_
  refine Ce.seq ?_
  refine Ce.region ?_
  refine Ie.box rfl rfl rfl rfl rfl (fun b1 hb1 => ?_)
  refine Ie.p rfl rfl rfl rfl ?_
  refine Ie.nil ?_
  refine Ne.seq ?_
  refine Ce.seq ?_
  refine Ce.region ?_
  refine Ie.fieldAddr rfl rfl rfl rfl rfl fa43_0 ?_
  refine Ie.load rfl rfl rfl rfl rfl ag3 (by first | exact .head | exact .tail .head | exact .tail (.tail .head) | exact .tail (.tail (.tail .head)) | exact .base ‹_› ‹_› (by simp)) rfl ?_
  refine Ie.fieldAddr rfl rfl rfl rfl rfl fa43_1 ?_
  refine Ie.load rfl rfl rfl rfl rfl ag3 (by first | exact .head | exact .tail .head | exact .tail (.tail .head) | exact .tail (.tail (.tail .head)) | exact .base ‹_› ‹_› (by simp)) rfl ?_
  refine Ie.fieldAddr rfl rfl rfl rfl rfl fa43_2 ?_
  refine Ie.load rfl rfl rfl rfl rfl ag2 (by first | exact .head | exact .tail .head | exact .tail (.tail .head) | exact .tail (.tail (.tail .head)) | exact .base ‹_› ‹_› (by simp)) rfl ?_
  refine Ie.fieldAddr rfl rfl rfl rfl rfl fa43_3 ?_
  refine Ie.load rfl rfl rfl rfl rfl ag2 (by first | exact .head | exact .tail .head | exact .tail (.tail .head) | exact .tail (.tail (.tail .head)) | exact .base ‹_› ‹_› (by simp)) rfl ?_
  refine Ie.call _ rfl rfl rfl rfl rfl rfl (fun m hm => Compare_i64_12 hm.lole ha hb) ?_
  refine Ie.p rfl rfl rfl rfl ?_
  refine Ie.p rfl rfl rfl rfl ?_
  refine Ie.p rfl rfl rfl rfl ?_
  refine Ie.p rfl rfl rfl rfl ?_
  refine Ie.p rfl rfl rfl rfl ?_
  refine Ie.nil ?_
  refine Ne.seq ?_
  refine Ce.seq ?_
  refine Ce.block ?_
  refine Ce.seq ?_
  refine Ce.region ?_
  refine Ie.call _ rfl rfl rfl rfl rfl rfl (fun m hm => awake_ok (hlay.kr hm)) ?_
  refine Ie.p rfl rfl rfl rfl ?_
  refine Ie.p rfl rfl rfl rfl ?_
  refine Ie.nil ?_
  refine Ne.seq ?_
  refine Ce.cond_false rfl ?_
  refine Ce.seq ?_
  refine Ce.region ?_
  refine Ie.fieldAddr rfl rfl rfl rfl rfl fa43_0 ?_
  refine Ie.load rfl rfl rfl rfl rfl ag3 (by first | exact .head | exact .tail .head | exact .tail (.tail .head) | exact .tail (.tail (.tail .head)) | exact .base ‹_› ‹_› (by simp)) rfl ?_
  refine Ie.call _ rfl rfl rfl rfl rfl rfl (fun m hm => Kind_i64 hm.lole) ?_
  refine Ie.p rfl rfl rfl rfl ?_
  refine Ie.p rfl rfl rfl rfl ?_
  refine Ie.nil ?_
  refine Ne.seq ?_
  refine Ce.cond_false rfl ?_
  refine Ce.seq ?_
  refine Ce.region ?_
  refine Ie.fieldAddr rfl rfl rfl rfl rfl fa43_1 ?_
  refine Ie.load rfl rfl rfl rfl rfl ag3 (by first | exact .head | exact .tail .head | exact .tail (.tail .head) | exact .tail (.tail (.tail .head)) | exact .base ‹_› ‹_› (by simp)) rfl ?_
  refine Ie.call _ rfl rfl rfl rfl rfl rfl (fun m hm => FitsCompare_12 hm.lole) ?_
  refine Ie.p rfl rfl rfl rfl ?_
  refine Ie.p rfl rfl rfl rfl ?_
  refine Ie.nil ?_
  refine Ne.seq ?_
  refine Ce.cond_false rfl ?_
  refine Ce.skip ?_
  refine Ne.blk ?_
  refine Ne.seq ?_
  refine Ce.seq ?_
  refine Ce.region ?_
  refine Ie.p rfl rfl rfl rfl ?_
  refine Ie.p rfl rfl rfl rfl ?_
  refine Ie.p rfl rfl rfl rfl ?_
  refine Ie.p rfl rfl rfl rfl ?_
  refine Ie.fieldAddr rfl rfl rfl rfl rfl fa43_0 ?_
  refine Ie.load rfl rfl rfl rfl rfl ag3 (by first | exact .head | exact .tail .head | exact .tail (.tail .head) | exact .tail (.tail (.tail .head)) | exact .base ‹_› ‹_› (by simp)) rfl ?_
  refine Ie.fieldAddr rfl rfl rfl rfl rfl fa43_1 ?_
  refine Ie.load rfl rfl rfl rfl rfl ag3 (by first | exact .head | exact .tail .head | exact .tail (.tail .head) | exact .tail (.tail (.tail .head)) | exact .base ‹_› ‹_› (by simp)) rfl ?_
  refine Ie.fieldAddr rfl rfl rfl rfl rfl fa43_2 ?_
  refine Ie.load rfl rfl rfl rfl rfl ag2 (by first | exact .head | exact .tail .head | exact .tail (.tail .head) | exact .tail (.tail (.tail .head)) | exact .base ‹_› ‹_› (by simp)) rfl ?_
  refine Ie.fieldAddr rfl rfl rfl rfl rfl fa43_3 ?_
  refine Ie.load rfl rfl rfl rfl rfl ag2 (by first | exact .head | exact .tail .head | exact .tail (.tail .head) | exact .tail (.tail (.tail .head)) | exact .base ‹_› ‹_› (by simp)) rfl ?_
  refine Ie.call _ rfl rfl rfl rfl rfl rfl (fun m hm => RCompare_i64_12 hm.lole ha hb) ?_
  refine Ie.eqBool rfl rfl rfl rfl Tryz.underlying4 rfl rfl ?_
  refine Ie.as 55 (.bool true) rfl (by rw [hc]; exact congrArg Value.bool (beq_self_eq_true _)) ?_
  refine Ie.p rfl rfl rfl rfl ?_
  refine Ie.p rfl rfl rfl rfl ?_
  refine Ie.nil ?_
  refine Ne.seq ?_
  refine Ce.ret ?_
  exact Re.end_ rfl rfl (fun m hm => ⟨rfl, hm.ext⟩)

theorem compares_i64_13 {a b : Int} {m : AW} (hm : m.lo ≤ m.next) (hlay : LaidAt lays m) (ha : Fit .i64 a) (hb : Fit .i64 b)  (hc : (ltI (wr .i64 a) (wr .i64 b) || eqI (wr .i64 a) (wr .i64 b)) = (!ltI (wr .i64 b) (wr .i64 a))) : Fc Tryz.prog 9 [.agg ⟨[.int .i64 3, .int .i64 13, .int .i64 a, .int .i64 b]⟩] m fun v m' => v = .bool true ∧ Ext m m' := by
  refine Fc.body (c := _) Tryz.func9 rfl rfl rfl rfl hm ?_
  refine Ce.seq ?_
  refine Ce.region ?_
  refine Ie.box rfl rfl rfl rfl rfl (fun b1 hb1 => ?_)
  refine Ie.p rfl rfl rfl rfl ?_
  refine Ie.nil ?_
  refine Ne.seq ?_
  refine Ce.seq ?_
  refine Ce.region ?_
  refine Ie.fieldAddr rfl rfl rfl rfl rfl fa43_0 ?_
  refine Ie.load rfl rfl rfl rfl rfl ag3 (by first | exact .head | exact .tail .head | exact .tail (.tail .head) | exact .tail (.tail (.tail .head)) | exact .base ‹_› ‹_› (by simp)) rfl ?_
  refine Ie.fieldAddr rfl rfl rfl rfl rfl fa43_1 ?_
  refine Ie.load rfl rfl rfl rfl rfl ag3 (by first | exact .head | exact .tail .head | exact .tail (.tail .head) | exact .tail (.tail (.tail .head)) | exact .base ‹_› ‹_› (by simp)) rfl ?_
  refine Ie.fieldAddr rfl rfl rfl rfl rfl fa43_2 ?_
  refine Ie.load rfl rfl rfl rfl rfl ag2 (by first | exact .head | exact .tail .head | exact .tail (.tail .head) | exact .tail (.tail (.tail .head)) | exact .base ‹_› ‹_› (by simp)) rfl ?_
  refine Ie.fieldAddr rfl rfl rfl rfl rfl fa43_3 ?_
  refine Ie.load rfl rfl rfl rfl rfl ag2 (by first | exact .head | exact .tail .head | exact .tail (.tail .head) | exact .tail (.tail (.tail .head)) | exact .base ‹_› ‹_› (by simp)) rfl ?_
  refine Ie.call _ rfl rfl rfl rfl rfl rfl (fun m hm => Compare_i64_13 hm.lole ha hb) ?_
  refine Ie.p rfl rfl rfl rfl ?_
  refine Ie.p rfl rfl rfl rfl ?_
  refine Ie.p rfl rfl rfl rfl ?_
  refine Ie.p rfl rfl rfl rfl ?_
  refine Ie.p rfl rfl rfl rfl ?_
  refine Ie.nil ?_
  refine Ne.seq ?_
  refine Ce.seq ?_
  refine Ce.block ?_
  refine Ce.seq ?_
  refine Ce.region ?_
  refine Ie.call _ rfl rfl rfl rfl rfl rfl (fun m hm => awake_ok (hlay.kr hm)) ?_
  refine Ie.p rfl rfl rfl rfl ?_
  refine Ie.p rfl rfl rfl rfl ?_
  refine Ie.nil ?_
  refine Ne.seq ?_
  refine Ce.cond_false rfl ?_
  refine Ce.seq ?_
  refine Ce.region ?_
  refine Ie.fieldAddr rfl rfl rfl rfl rfl fa43_0 ?_
  refine Ie.load rfl rfl rfl rfl rfl ag3 (by first | exact .head | exact .tail .head | exact .tail (.tail .head) | exact .tail (.tail (.tail .head)) | exact .base ‹_› ‹_› (by simp)) rfl ?_
  refine Ie.call _ rfl rfl rfl rfl rfl rfl (fun m hm => Kind_i64 hm.lole) ?_
  refine Ie.p rfl rfl rfl rfl ?_
  refine Ie.p rfl rfl rfl rfl ?_
  refine Ie.nil ?_
  refine Ne.seq ?_
  refine Ce.cond_false rfl ?_
  refine Ce.seq ?_
  refine Ce.region ?_
  refine Ie.fieldAddr rfl rfl rfl rfl rfl fa43_1 ?_
  refine Ie.load rfl rfl rfl rfl rfl ag3 (by first | exact .head | exact .tail .head | exact .tail (.tail .head) | exact .tail (.tail (.tail .head)) | exact .base ‹_› ‹_› (by simp)) rfl ?_
  refine Ie.call _ rfl rfl rfl rfl rfl rfl (fun m hm => FitsCompare_13 hm.lole) ?_
  refine Ie.p rfl rfl rfl rfl ?_
  refine Ie.p rfl rfl rfl rfl ?_
  refine Ie.nil ?_
  refine Ne.seq ?_
  refine Ce.cond_false rfl ?_
  refine Ce.skip ?_
  refine Ne.blk ?_
  refine Ne.seq ?_
  refine Ce.seq ?_
  refine Ce.region ?_
  refine Ie.p rfl rfl rfl rfl ?_
  refine Ie.p rfl rfl rfl rfl ?_
  refine Ie.p rfl rfl rfl rfl ?_
  refine Ie.p rfl rfl rfl rfl ?_
  refine Ie.fieldAddr rfl rfl rfl rfl rfl fa43_0 ?_
  refine Ie.load rfl rfl rfl rfl rfl ag3 (by first | exact .head | exact .tail .head | exact .tail (.tail .head) | exact .tail (.tail (.tail .head)) | exact .base ‹_› ‹_› (by simp)) rfl ?_
  refine Ie.fieldAddr rfl rfl rfl rfl rfl fa43_1 ?_
  refine Ie.load rfl rfl rfl rfl rfl ag3 (by first | exact .head | exact .tail .head | exact .tail (.tail .head) | exact .tail (.tail (.tail .head)) | exact .base ‹_› ‹_› (by simp)) rfl ?_
  refine Ie.fieldAddr rfl rfl rfl rfl rfl fa43_2 ?_
  refine Ie.load rfl rfl rfl rfl rfl ag2 (by first | exact .head | exact .tail .head | exact .tail (.tail .head) | exact .tail (.tail (.tail .head)) | exact .base ‹_› ‹_› (by simp)) rfl ?_
  refine Ie.fieldAddr rfl rfl rfl rfl rfl fa43_3 ?_
  refine Ie.load rfl rfl rfl rfl rfl ag2 (by first | exact .head | exact .tail .head | exact .tail (.tail .head) | exact .tail (.tail (.tail .head)) | exact .base ‹_› ‹_› (by simp)) rfl ?_
  refine Ie.call _ rfl rfl rfl rfl rfl rfl (fun m hm => RCompare_i64_13 hm.lole ha hb) ?_
  refine Ie.eqBool rfl rfl rfl rfl Tryz.underlying4 rfl rfl ?_
  refine Ie.as 55 (.bool true) rfl (by rw [hc]; exact congrArg Value.bool (beq_self_eq_true _)) ?_
  refine Ie.p rfl rfl rfl rfl ?_
  refine Ie.p rfl rfl rfl rfl ?_
  refine Ie.nil ?_
  refine Ne.seq ?_
  refine Ce.ret ?_
  exact Re.end_ rfl rfl (fun m hm => ⟨rfl, hm.ext⟩)

theorem compares_i64_14 {a b : Int} {m : AW} (hm : m.lo ≤ m.next) (hlay : LaidAt lays m) (ha : Fit .i64 a) (hb : Fit .i64 b)  (hc : ltI (wr .i64 b) (wr .i64 a) = ltI (wr .i64 b) (wr .i64 a)) : Fc Tryz.prog 9 [.agg ⟨[.int .i64 3, .int .i64 14, .int .i64 a, .int .i64 b]⟩] m fun v m' => v = .bool true ∧ Ext m m' := by
  refine Fc.body (c := _) Tryz.func9 rfl rfl rfl rfl hm ?_
  refine Ce.seq ?_
  refine Ce.region ?_
  refine Ie.box rfl rfl rfl rfl rfl (fun b1 hb1 => ?_)
  refine Ie.p rfl rfl rfl rfl ?_
  refine Ie.nil ?_
  refine Ne.seq ?_
  refine Ce.seq ?_
  refine Ce.region ?_
  refine Ie.fieldAddr rfl rfl rfl rfl rfl fa43_0 ?_
  refine Ie.load rfl rfl rfl rfl rfl ag3 (by first | exact .head | exact .tail .head | exact .tail (.tail .head) | exact .tail (.tail (.tail .head)) | exact .base ‹_› ‹_› (by simp)) rfl ?_
  refine Ie.fieldAddr rfl rfl rfl rfl rfl fa43_1 ?_
  refine Ie.load rfl rfl rfl rfl rfl ag3 (by first | exact .head | exact .tail .head | exact .tail (.tail .head) | exact .tail (.tail (.tail .head)) | exact .base ‹_› ‹_› (by simp)) rfl ?_
  refine Ie.fieldAddr rfl rfl rfl rfl rfl fa43_2 ?_
  refine Ie.load rfl rfl rfl rfl rfl ag2 (by first | exact .head | exact .tail .head | exact .tail (.tail .head) | exact .tail (.tail (.tail .head)) | exact .base ‹_› ‹_› (by simp)) rfl ?_
  refine Ie.fieldAddr rfl rfl rfl rfl rfl fa43_3 ?_
  refine Ie.load rfl rfl rfl rfl rfl ag2 (by first | exact .head | exact .tail .head | exact .tail (.tail .head) | exact .tail (.tail (.tail .head)) | exact .base ‹_› ‹_› (by simp)) rfl ?_
  refine Ie.call _ rfl rfl rfl rfl rfl rfl (fun m hm => Compare_i64_14 hm.lole ha hb) ?_
  refine Ie.p rfl rfl rfl rfl ?_
  refine Ie.p rfl rfl rfl rfl ?_
  refine Ie.p rfl rfl rfl rfl ?_
  refine Ie.p rfl rfl rfl rfl ?_
  refine Ie.p rfl rfl rfl rfl ?_
  refine Ie.nil ?_
  refine Ne.seq ?_
  refine Ce.seq ?_
  refine Ce.block ?_
  refine Ce.seq ?_
  refine Ce.region ?_
  refine Ie.call _ rfl rfl rfl rfl rfl rfl (fun m hm => awake_ok (hlay.kr hm)) ?_
  refine Ie.p rfl rfl rfl rfl ?_
  refine Ie.p rfl rfl rfl rfl ?_
  refine Ie.nil ?_
  refine Ne.seq ?_
  refine Ce.cond_false rfl ?_
  refine Ce.seq ?_
  refine Ce.region ?_
  refine Ie.fieldAddr rfl rfl rfl rfl rfl fa43_0 ?_
  refine Ie.load rfl rfl rfl rfl rfl ag3 (by first | exact .head | exact .tail .head | exact .tail (.tail .head) | exact .tail (.tail (.tail .head)) | exact .base ‹_› ‹_› (by simp)) rfl ?_
  refine Ie.call _ rfl rfl rfl rfl rfl rfl (fun m hm => Kind_i64 hm.lole) ?_
  refine Ie.p rfl rfl rfl rfl ?_
  refine Ie.p rfl rfl rfl rfl ?_
  refine Ie.nil ?_
  refine Ne.seq ?_
  refine Ce.cond_false rfl ?_
  refine Ce.seq ?_
  refine Ce.region ?_
  refine Ie.fieldAddr rfl rfl rfl rfl rfl fa43_1 ?_
  refine Ie.load rfl rfl rfl rfl rfl ag3 (by first | exact .head | exact .tail .head | exact .tail (.tail .head) | exact .tail (.tail (.tail .head)) | exact .base ‹_› ‹_› (by simp)) rfl ?_
  refine Ie.call _ rfl rfl rfl rfl rfl rfl (fun m hm => FitsCompare_14 hm.lole) ?_
  refine Ie.p rfl rfl rfl rfl ?_
  refine Ie.p rfl rfl rfl rfl ?_
  refine Ie.nil ?_
  refine Ne.seq ?_
  refine Ce.cond_false rfl ?_
  refine Ce.skip ?_
  refine Ne.blk ?_
  refine Ne.seq ?_
  refine Ce.seq ?_
  refine Ce.region ?_
  refine Ie.p rfl rfl rfl rfl ?_
  refine Ie.p rfl rfl rfl rfl ?_
  refine Ie.p rfl rfl rfl rfl ?_
  refine Ie.p rfl rfl rfl rfl ?_
  refine Ie.fieldAddr rfl rfl rfl rfl rfl fa43_0 ?_
  refine Ie.load rfl rfl rfl rfl rfl ag3 (by first | exact .head | exact .tail .head | exact .tail (.tail .head) | exact .tail (.tail (.tail .head)) | exact .base ‹_› ‹_› (by simp)) rfl ?_
  refine Ie.fieldAddr rfl rfl rfl rfl rfl fa43_1 ?_
  refine Ie.load rfl rfl rfl rfl rfl ag3 (by first | exact .head | exact .tail .head | exact .tail (.tail .head) | exact .tail (.tail (.tail .head)) | exact .base ‹_› ‹_› (by simp)) rfl ?_
  refine Ie.fieldAddr rfl rfl rfl rfl rfl fa43_2 ?_
  refine Ie.load rfl rfl rfl rfl rfl ag2 (by first | exact .head | exact .tail .head | exact .tail (.tail .head) | exact .tail (.tail (.tail .head)) | exact .base ‹_› ‹_› (by simp)) rfl ?_
  refine Ie.fieldAddr rfl rfl rfl rfl rfl fa43_3 ?_
  refine Ie.load rfl rfl rfl rfl rfl ag2 (by first | exact .head | exact .tail .head | exact .tail (.tail .head) | exact .tail (.tail (.tail .head)) | exact .base ‹_› ‹_› (by simp)) rfl ?_
  refine Ie.call _ rfl rfl rfl rfl rfl rfl (fun m hm => RCompare_i64_14 hm.lole ha hb) ?_
  refine Ie.eqBool rfl rfl rfl rfl Tryz.underlying4 rfl rfl ?_
  refine Ie.as 55 (.bool true) rfl (by rw [hc]; exact congrArg Value.bool (beq_self_eq_true _)) ?_
  refine Ie.p rfl rfl rfl rfl ?_
  refine Ie.p rfl rfl rfl rfl ?_
  refine Ie.nil ?_
  refine Ne.seq ?_
  refine Ce.ret ?_
  exact Re.end_ rfl rfl (fun m hm => ⟨rfl, hm.ext⟩)

theorem compares_i64_15 {a b : Int} {m : AW} (hm : m.lo ≤ m.next) (hlay : LaidAt lays m) (ha : Fit .i64 a) (hb : Fit .i64 b)  (hc : (ltI (wr .i64 b) (wr .i64 a) || eqI (wr .i64 a) (wr .i64 b)) = (!ltI (wr .i64 a) (wr .i64 b))) : Fc Tryz.prog 9 [.agg ⟨[.int .i64 3, .int .i64 15, .int .i64 a, .int .i64 b]⟩] m fun v m' => v = .bool true ∧ Ext m m' := by
  refine Fc.body (c := _) Tryz.func9 rfl rfl rfl rfl hm ?_
  refine Ce.seq ?_
  refine Ce.region ?_
  refine Ie.box rfl rfl rfl rfl rfl (fun b1 hb1 => ?_)
  refine Ie.p rfl rfl rfl rfl ?_
  refine Ie.nil ?_
  refine Ne.seq ?_
  refine Ce.seq ?_
  refine Ce.region ?_
  refine Ie.fieldAddr rfl rfl rfl rfl rfl fa43_0 ?_
  refine Ie.load rfl rfl rfl rfl rfl ag3 (by first | exact .head | exact .tail .head | exact .tail (.tail .head) | exact .tail (.tail (.tail .head)) | exact .base ‹_› ‹_› (by simp)) rfl ?_
  refine Ie.fieldAddr rfl rfl rfl rfl rfl fa43_1 ?_
  refine Ie.load rfl rfl rfl rfl rfl ag3 (by first | exact .head | exact .tail .head | exact .tail (.tail .head) | exact .tail (.tail (.tail .head)) | exact .base ‹_› ‹_› (by simp)) rfl ?_
  refine Ie.fieldAddr rfl rfl rfl rfl rfl fa43_2 ?_
  refine Ie.load rfl rfl rfl rfl rfl ag2 (by first | exact .head | exact .tail .head | exact .tail (.tail .head) | exact .tail (.tail (.tail .head)) | exact .base ‹_› ‹_› (by simp)) rfl ?_
  refine Ie.fieldAddr rfl rfl rfl rfl rfl fa43_3 ?_
  refine Ie.load rfl rfl rfl rfl rfl ag2 (by first | exact .head | exact .tail .head | exact .tail (.tail .head) | exact .tail (.tail (.tail .head)) | exact .base ‹_› ‹_› (by simp)) rfl ?_
  refine Ie.call _ rfl rfl rfl rfl rfl rfl (fun m hm => Compare_i64_15 hm.lole ha hb) ?_
  refine Ie.p rfl rfl rfl rfl ?_
  refine Ie.p rfl rfl rfl rfl ?_
  refine Ie.p rfl rfl rfl rfl ?_
  refine Ie.p rfl rfl rfl rfl ?_
  refine Ie.p rfl rfl rfl rfl ?_
  refine Ie.nil ?_
  refine Ne.seq ?_
  refine Ce.seq ?_
  refine Ce.block ?_
  refine Ce.seq ?_
  refine Ce.region ?_
  refine Ie.call _ rfl rfl rfl rfl rfl rfl (fun m hm => awake_ok (hlay.kr hm)) ?_
  refine Ie.p rfl rfl rfl rfl ?_
  refine Ie.p rfl rfl rfl rfl ?_
  refine Ie.nil ?_
  refine Ne.seq ?_
  refine Ce.cond_false rfl ?_
  refine Ce.seq ?_
  refine Ce.region ?_
  refine Ie.fieldAddr rfl rfl rfl rfl rfl fa43_0 ?_
  refine Ie.load rfl rfl rfl rfl rfl ag3 (by first | exact .head | exact .tail .head | exact .tail (.tail .head) | exact .tail (.tail (.tail .head)) | exact .base ‹_› ‹_› (by simp)) rfl ?_
  refine Ie.call _ rfl rfl rfl rfl rfl rfl (fun m hm => Kind_i64 hm.lole) ?_
  refine Ie.p rfl rfl rfl rfl ?_
  refine Ie.p rfl rfl rfl rfl ?_
  refine Ie.nil ?_
  refine Ne.seq ?_
  refine Ce.cond_false rfl ?_
  refine Ce.seq ?_
  refine Ce.region ?_
  refine Ie.fieldAddr rfl rfl rfl rfl rfl fa43_1 ?_
  refine Ie.load rfl rfl rfl rfl rfl ag3 (by first | exact .head | exact .tail .head | exact .tail (.tail .head) | exact .tail (.tail (.tail .head)) | exact .base ‹_› ‹_› (by simp)) rfl ?_
  refine Ie.call _ rfl rfl rfl rfl rfl rfl (fun m hm => FitsCompare_15 hm.lole) ?_
  refine Ie.p rfl rfl rfl rfl ?_
  refine Ie.p rfl rfl rfl rfl ?_
  refine Ie.nil ?_
  refine Ne.seq ?_
  refine Ce.cond_false rfl ?_
  refine Ce.skip ?_
  refine Ne.blk ?_
  refine Ne.seq ?_
  refine Ce.seq ?_
  refine Ce.region ?_
  refine Ie.p rfl rfl rfl rfl ?_
  refine Ie.p rfl rfl rfl rfl ?_
  refine Ie.p rfl rfl rfl rfl ?_
  refine Ie.p rfl rfl rfl rfl ?_
  refine Ie.fieldAddr rfl rfl rfl rfl rfl fa43_0 ?_
  refine Ie.load rfl rfl rfl rfl rfl ag3 (by first | exact .head | exact .tail .head | exact .tail (.tail .head) | exact .tail (.tail (.tail .head)) | exact .base ‹_› ‹_› (by simp)) rfl ?_
  refine Ie.fieldAddr rfl rfl rfl rfl rfl fa43_1 ?_
  refine Ie.load rfl rfl rfl rfl rfl ag3 (by first | exact .head | exact .tail .head | exact .tail (.tail .head) | exact .tail (.tail (.tail .head)) | exact .base ‹_› ‹_› (by simp)) rfl ?_
  refine Ie.fieldAddr rfl rfl rfl rfl rfl fa43_2 ?_
  refine Ie.load rfl rfl rfl rfl rfl ag2 (by first | exact .head | exact .tail .head | exact .tail (.tail .head) | exact .tail (.tail (.tail .head)) | exact .base ‹_› ‹_› (by simp)) rfl ?_
  refine Ie.fieldAddr rfl rfl rfl rfl rfl fa43_3 ?_
  refine Ie.load rfl rfl rfl rfl rfl ag2 (by first | exact .head | exact .tail .head | exact .tail (.tail .head) | exact .tail (.tail (.tail .head)) | exact .base ‹_› ‹_› (by simp)) rfl ?_
  refine Ie.call _ rfl rfl rfl rfl rfl rfl (fun m hm => RCompare_i64_15 hm.lole ha hb) ?_
  refine Ie.eqBool rfl rfl rfl rfl Tryz.underlying4 rfl rfl ?_
  refine Ie.as 55 (.bool true) rfl (by rw [hc]; exact congrArg Value.bool (beq_self_eq_true _)) ?_
  refine Ie.p rfl rfl rfl rfl ?_
  refine Ie.p rfl rfl rfl rfl ?_
  refine Ie.nil ?_
  refine Ne.seq ?_
  refine Ce.ret ?_
  exact Re.end_ rfl rfl (fun m hm => ⟨rfl, hm.ext⟩)

theorem compares_i64_other {op a b : Int} {m : AW} (hm : m.lo ≤ m.next) (hlay : LaidAt lays m) (ha : Fit .i64 a) (hb : Fit .i64 b) (hop : op < 10 ∨ 15 < op) : Fc Tryz.prog 9 [.agg ⟨[.int .i64 3, .int .i64 op, .int .i64 a, .int .i64 b]⟩] m fun v m' => v = .bool true ∧ Ext m m' := by
  refine Fc.body (c := _) Tryz.func9 rfl rfl rfl rfl hm ?_
  refine Ce.seq ?_
  refine Ce.region ?_
  refine Ie.box rfl rfl rfl rfl rfl (fun b1 hb1 => ?_)
  refine Ie.p rfl rfl rfl rfl ?_
  refine Ie.nil ?_
  refine Ne.seq ?_
  refine Ce.seq ?_
  refine Ce.region ?_
  refine Ie.fieldAddr rfl rfl rfl rfl rfl fa43_0 ?_
  refine Ie.load rfl rfl rfl rfl rfl ag3 (by first | exact .head | exact .tail .head | exact .tail (.tail .head) | exact .tail (.tail (.tail .head)) | exact .base ‹_› ‹_› (by simp)) rfl ?_
  refine Ie.fieldAddr rfl rfl rfl rfl rfl fa43_1 ?_
  refine Ie.load rfl rfl rfl rfl rfl ag3 (by first | exact .head | exact .tail .head | exact .tail (.tail .head) | exact .tail (.tail (.tail .head)) | exact .base ‹_› ‹_› (by simp)) rfl ?_
  refine Ie.fieldAddr rfl rfl rfl rfl rfl fa43_2 ?_
  refine Ie.load rfl rfl rfl rfl rfl ag2 (by first | exact .head | exact .tail .head | exact .tail (.tail .head) | exact .tail (.tail (.tail .head)) | exact .base ‹_› ‹_› (by simp)) rfl ?_
  refine Ie.fieldAddr rfl rfl rfl rfl rfl fa43_3 ?_
  refine Ie.load rfl rfl rfl rfl rfl ag2 (by first | exact .head | exact .tail .head | exact .tail (.tail .head) | exact .tail (.tail (.tail .head)) | exact .base ‹_› ‹_› (by simp)) rfl ?_
  refine Ie.call _ rfl rfl rfl rfl rfl rfl (fun m hm => Compare_i64_other hm.lole ha hb hop) ?_
  refine Ie.p rfl rfl rfl rfl ?_
  refine Ie.p rfl rfl rfl rfl ?_
  refine Ie.p rfl rfl rfl rfl ?_
  refine Ie.p rfl rfl rfl rfl ?_
  refine Ie.p rfl rfl rfl rfl ?_
  refine Ie.nil ?_
  refine Ne.seq ?_
  refine Ce.seq ?_
  refine Ce.block ?_
  refine Ce.seq ?_
  refine Ce.region ?_
  refine Ie.call _ rfl rfl rfl rfl rfl rfl (fun m hm => awake_ok (hlay.kr hm)) ?_
  refine Ie.p rfl rfl rfl rfl ?_
  refine Ie.p rfl rfl rfl rfl ?_
  refine Ie.nil ?_
  refine Ne.seq ?_
  refine Ce.cond_false rfl ?_
  refine Ce.seq ?_
  refine Ce.region ?_
  refine Ie.fieldAddr rfl rfl rfl rfl rfl fa43_0 ?_
  refine Ie.load rfl rfl rfl rfl rfl ag3 (by first | exact .head | exact .tail .head | exact .tail (.tail .head) | exact .tail (.tail (.tail .head)) | exact .base ‹_› ‹_› (by simp)) rfl ?_
  refine Ie.call _ rfl rfl rfl rfl rfl rfl (fun m hm => Kind_i64 hm.lole) ?_
  refine Ie.p rfl rfl rfl rfl ?_
  refine Ie.p rfl rfl rfl rfl ?_
  refine Ie.nil ?_
  refine Ne.seq ?_
  refine Ce.cond_false rfl ?_
  refine Ce.seq ?_
  refine Ce.region ?_
  refine Ie.fieldAddr rfl rfl rfl rfl rfl fa43_1 ?_
  refine Ie.load rfl rfl rfl rfl rfl ag3 (by first | exact .head | exact .tail .head | exact .tail (.tail .head) | exact .tail (.tail (.tail .head)) | exact .base ‹_› ‹_› (by simp)) rfl ?_
  refine Ie.call _ rfl rfl rfl rfl rfl rfl (fun m hm => FitsCompare_other hm.lole hop) ?_
  refine Ie.p rfl rfl rfl rfl ?_
  refine Ie.p rfl rfl rfl rfl ?_
  refine Ie.nil ?_
  refine Ne.seq ?_
  refine Ce.cond_true rfl ?_
  refine Ce.seq ?_
  refine Ce.region ?_
  refine Ie.p rfl rfl rfl rfl ?_
  refine Ie.p rfl rfl rfl rfl ?_
  refine Ie.p rfl rfl rfl rfl ?_
  refine Ie.p rfl rfl rfl rfl ?_
  refine Ie.p rfl rfl rfl rfl ?_
  refine Ie.p rfl rfl rfl rfl ?_
  refine Ie.p rfl rfl rfl rfl ?_
  refine Ie.nil ?_
  refine Ne.seq ?_
  refine Ce.ret ?_
  refine Re.blk ?_
  refine Re.seq ?_
  exact Re.end_ rfl rfl (fun m hm => ⟨rfl, hm.ext⟩)

theorem compares_real_10 {a b : Int} {m : AW} (hm : m.lo ≤ m.next) (hlay : LaidAt lays m) (ha : Fit .i64 a) (hb : Fit .i64 b) (h1 : w4 a ≠ 9221120237041090561) (h2 : w4 b ≠ 9221120237041090561) (hc : (FloatKind.f64.format.order (flb (w4 a)) (flb (w4 b)) == some .eq) = (!(FloatKind.f64.format.order (flb (w4 a)) (flb (w4 b)) == some .lt) && !(FloatKind.f64.format.order (flb (w4 a)) (flb (w4 b)) == some .gt))) : Fc Tryz.prog 9 [.agg ⟨[.int .i64 4, .int .i64 10, .int .i64 a, .int .i64 b]⟩] m fun v m' => v = .bool true ∧ Ext m m' := by
  refine Fc.body (c := _) Tryz.func9 rfl rfl rfl rfl hm ?_
  refine Ce.seq ?_
  refine Ce.region ?_
  refine Ie.box rfl rfl rfl rfl rfl (fun b1 hb1 => ?_)
  refine Ie.p rfl rfl rfl rfl ?_
  refine Ie.nil ?_
  refine Ne.seq ?_
  refine Ce.seq ?_
  refine Ce.region ?_
  refine Ie.fieldAddr rfl rfl rfl rfl rfl fa43_0 ?_
  refine Ie.load rfl rfl rfl rfl rfl ag3 (by first | exact .head | exact .tail .head | exact .tail (.tail .head) | exact .tail (.tail (.tail .head)) | exact .base ‹_› ‹_› (by simp)) rfl ?_
  refine Ie.fieldAddr rfl rfl rfl rfl rfl fa43_1 ?_
  refine Ie.load rfl rfl rfl rfl rfl ag3 (by first | exact .head | exact .tail .head | exact .tail (.tail .head) | exact .tail (.tail (.tail .head)) | exact .base ‹_› ‹_› (by simp)) rfl ?_
  refine Ie.fieldAddr rfl rfl rfl rfl rfl fa43_2 ?_
  refine Ie.load rfl rfl rfl rfl rfl ag2 (by first | exact .head | exact .tail .head | exact .tail (.tail .head) | exact .tail (.tail (.tail .head)) | exact .base ‹_› ‹_› (by simp)) rfl ?_
  refine Ie.fieldAddr rfl rfl rfl rfl rfl fa43_3 ?_
  refine Ie.load rfl rfl rfl rfl rfl ag2 (by first | exact .head | exact .tail .head | exact .tail (.tail .head) | exact .tail (.tail (.tail .head)) | exact .base ‹_› ‹_› (by simp)) rfl ?_
  refine Ie.call _ rfl rfl rfl rfl rfl rfl (fun m hm => Compare_real_10 hm.lole ha hb) ?_
  refine Ie.p rfl rfl rfl rfl ?_
  refine Ie.p rfl rfl rfl rfl ?_
  refine Ie.p rfl rfl rfl rfl ?_
  refine Ie.p rfl rfl rfl rfl ?_
  refine Ie.p rfl rfl rfl rfl ?_
  refine Ie.nil ?_
  refine Ne.seq ?_
  refine Ce.seq ?_
  refine Ce.block ?_
  refine Ce.seq ?_
  refine Ce.region ?_
  refine Ie.call _ rfl rfl rfl rfl rfl rfl (fun m hm => awake_ok (hlay.kr hm)) ?_
  refine Ie.p rfl rfl rfl rfl ?_
  refine Ie.p rfl rfl rfl rfl ?_
  refine Ie.nil ?_
  refine Ne.seq ?_
  refine Ce.cond_false rfl ?_
  refine Ce.seq ?_
  refine Ce.region ?_
  refine Ie.fieldAddr rfl rfl rfl rfl rfl fa43_0 ?_
  refine Ie.load rfl rfl rfl rfl rfl ag3 (by first | exact .head | exact .tail .head | exact .tail (.tail .head) | exact .tail (.tail (.tail .head)) | exact .base ‹_› ‹_› (by simp)) rfl ?_
  refine Ie.call _ rfl rfl rfl rfl rfl rfl (fun m hm => Kind_real hm.lole) ?_
  refine Ie.p rfl rfl rfl rfl ?_
  refine Ie.p rfl rfl rfl rfl ?_
  refine Ie.nil ?_
  refine Ne.seq ?_
  refine Ce.cond_false rfl ?_
  refine Ce.seq ?_
  refine Ce.region ?_
  refine Ie.fieldAddr rfl rfl rfl rfl rfl fa43_1 ?_
  refine Ie.load rfl rfl rfl rfl rfl ag3 (by first | exact .head | exact .tail .head | exact .tail (.tail .head) | exact .tail (.tail (.tail .head)) | exact .base ‹_› ‹_› (by simp)) rfl ?_
  refine Ie.call _ rfl rfl rfl rfl rfl rfl (fun m hm => FitsCompare_10 hm.lole) ?_
  refine Ie.p rfl rfl rfl rfl ?_
  refine Ie.p rfl rfl rfl rfl ?_
  refine Ie.nil ?_
  refine Ne.seq ?_
  refine Ce.cond_false rfl ?_
  refine Ce.skip ?_
  refine Ne.blk ?_
  refine Ne.seq ?_
  refine Ce.seq ?_
  refine Ce.region ?_
  refine Ie.p rfl rfl rfl rfl ?_
  refine Ie.p rfl rfl rfl rfl ?_
  refine Ie.p rfl rfl rfl rfl ?_
  refine Ie.p rfl rfl rfl rfl ?_
  refine Ie.fieldAddr rfl rfl rfl rfl rfl fa43_0 ?_
  refine Ie.load rfl rfl rfl rfl rfl ag3 (by first | exact .head | exact .tail .head | exact .tail (.tail .head) | exact .tail (.tail (.tail .head)) | exact .base ‹_› ‹_› (by simp)) rfl ?_
  refine Ie.fieldAddr rfl rfl rfl rfl rfl fa43_1 ?_
  refine Ie.load rfl rfl rfl rfl rfl ag3 (by first | exact .head | exact .tail .head | exact .tail (.tail .head) | exact .tail (.tail (.tail .head)) | exact .base ‹_› ‹_› (by simp)) rfl ?_
  refine Ie.fieldAddr rfl rfl rfl rfl rfl fa43_2 ?_
  refine Ie.load rfl rfl rfl rfl rfl ag2 (by first | exact .head | exact .tail .head | exact .tail (.tail .head) | exact .tail (.tail (.tail .head)) | exact .base ‹_› ‹_› (by simp)) rfl ?_
  refine Ie.fieldAddr rfl rfl rfl rfl rfl fa43_3 ?_
  refine Ie.load rfl rfl rfl rfl rfl ag2 (by first | exact .head | exact .tail .head | exact .tail (.tail .head) | exact .tail (.tail (.tail .head)) | exact .base ‹_› ‹_› (by simp)) rfl ?_
  refine Ie.call _ rfl rfl rfl rfl rfl rfl (fun m hm => RCompare_real_10 hm.lole ha hb h1 h2) ?_
  refine Ie.eqBool rfl rfl rfl rfl Tryz.underlying4 rfl rfl ?_
  refine Ie.as 55 (.bool true) rfl (by rw [hc]; exact congrArg Value.bool (beq_self_eq_true _)) ?_
  refine Ie.p rfl rfl rfl rfl ?_
  refine Ie.p rfl rfl rfl rfl ?_
  refine Ie.nil ?_
  refine Ne.seq ?_
  refine Ce.ret ?_
  exact Re.end_ rfl rfl (fun m hm => ⟨rfl, hm.ext⟩)

theorem compares_nan1_10 {a b : Int} {m : AW} (hm : m.lo ≤ m.next) (hlay : LaidAt lays m) (ha : Fit .i64 a) (hb : Fit .i64 b) (h1 : w4 a = 9221120237041090561) (hc : (FloatKind.f64.format.order (flb (w4 a)) (flb (w4 b)) == some .eq) = false) : Fc Tryz.prog 9 [.agg ⟨[.int .i64 4, .int .i64 10, .int .i64 a, .int .i64 b]⟩] m fun v m' => v = .bool true ∧ Ext m m' := by
  refine Fc.body (c := _) Tryz.func9 rfl rfl rfl rfl hm ?_
  refine Ce.seq ?_
  refine Ce.region ?_
  refine Ie.box rfl rfl rfl rfl rfl (fun b1 hb1 => ?_)
  refine Ie.p rfl rfl rfl rfl ?_
  refine Ie.nil ?_
  refine Ne.seq ?_
  refine Ce.seq ?_
  refine Ce.region ?_
  refine Ie.fieldAddr rfl rfl rfl rfl rfl fa43_0 ?_
  refine Ie.load rfl rfl rfl rfl rfl ag3 (by first | exact .head | exact .tail .head | exact .tail (.tail .head) | exact .tail (.tail (.tail .head)) | exact .base ‹_› ‹_› (by simp)) rfl ?_
  refine Ie.fieldAddr rfl rfl rfl rfl rfl fa43_1 ?_
  refine Ie.load rfl rfl rfl rfl rfl ag3 (by first | exact .head | exact .tail .head | exact .tail (.tail .head) | exact .tail (.tail (.tail .head)) | exact .base ‹_› ‹_› (by simp)) rfl ?_
  refine Ie.fieldAddr rfl rfl rfl rfl rfl fa43_2 ?_
  refine Ie.load rfl rfl rfl rfl rfl ag2 (by first | exact .head | exact .tail .head | exact .tail (.tail .head) | exact .tail (.tail (.tail .head)) | exact .base ‹_› ‹_› (by simp)) rfl ?_
  refine Ie.fieldAddr rfl rfl rfl rfl rfl fa43_3 ?_
  refine Ie.load rfl rfl rfl rfl rfl ag2 (by first | exact .head | exact .tail .head | exact .tail (.tail .head) | exact .tail (.tail (.tail .head)) | exact .base ‹_› ‹_› (by simp)) rfl ?_
  refine Ie.call _ rfl rfl rfl rfl rfl rfl (fun m hm => Compare_real_10 hm.lole ha hb) ?_
  refine Ie.p rfl rfl rfl rfl ?_
  refine Ie.p rfl rfl rfl rfl ?_
  refine Ie.p rfl rfl rfl rfl ?_
  refine Ie.p rfl rfl rfl rfl ?_
  refine Ie.p rfl rfl rfl rfl ?_
  refine Ie.nil ?_
  refine Ne.seq ?_
  refine Ce.seq ?_
  refine Ce.block ?_
  refine Ce.seq ?_
  refine Ce.region ?_
  refine Ie.call _ rfl rfl rfl rfl rfl rfl (fun m hm => awake_ok (hlay.kr hm)) ?_
  refine Ie.p rfl rfl rfl rfl ?_
  refine Ie.p rfl rfl rfl rfl ?_
  refine Ie.nil ?_
  refine Ne.seq ?_
  refine Ce.cond_false rfl ?_
  refine Ce.seq ?_
  refine Ce.region ?_
  refine Ie.fieldAddr rfl rfl rfl rfl rfl fa43_0 ?_
  refine Ie.load rfl rfl rfl rfl rfl ag3 (by first | exact .head | exact .tail .head | exact .tail (.tail .head) | exact .tail (.tail (.tail .head)) | exact .base ‹_› ‹_› (by simp)) rfl ?_
  refine Ie.call _ rfl rfl rfl rfl rfl rfl (fun m hm => Kind_real hm.lole) ?_
  refine Ie.p rfl rfl rfl rfl ?_
  refine Ie.p rfl rfl rfl rfl ?_
  refine Ie.nil ?_
  refine Ne.seq ?_
  refine Ce.cond_false rfl ?_
  refine Ce.seq ?_
  refine Ce.region ?_
  refine Ie.fieldAddr rfl rfl rfl rfl rfl fa43_1 ?_
  refine Ie.load rfl rfl rfl rfl rfl ag3 (by first | exact .head | exact .tail .head | exact .tail (.tail .head) | exact .tail (.tail (.tail .head)) | exact .base ‹_› ‹_› (by simp)) rfl ?_
  refine Ie.call _ rfl rfl rfl rfl rfl rfl (fun m hm => FitsCompare_10 hm.lole) ?_
  refine Ie.p rfl rfl rfl rfl ?_
  refine Ie.p rfl rfl rfl rfl ?_
  refine Ie.nil ?_
  refine Ne.seq ?_
  refine Ce.cond_false rfl ?_
  refine Ce.skip ?_
  refine Ne.blk ?_
  refine Ne.seq ?_
  refine Ce.seq ?_
  refine Ce.region ?_
  refine Ie.p rfl rfl rfl rfl ?_
  refine Ie.p rfl rfl rfl rfl ?_
  refine Ie.p rfl rfl rfl rfl ?_
  refine Ie.p rfl rfl rfl rfl ?_
  refine Ie.fieldAddr rfl rfl rfl rfl rfl fa43_0 ?_
  refine Ie.load rfl rfl rfl rfl rfl ag3 (by first | exact .head | exact .tail .head | exact .tail (.tail .head) | exact .tail (.tail (.tail .head)) | exact .base ‹_› ‹_› (by simp)) rfl ?_
  refine Ie.fieldAddr rfl rfl rfl rfl rfl fa43_1 ?_
  refine Ie.load rfl rfl rfl rfl rfl ag3 (by first | exact .head | exact .tail .head | exact .tail (.tail .head) | exact .tail (.tail (.tail .head)) | exact .base ‹_› ‹_› (by simp)) rfl ?_
  refine Ie.fieldAddr rfl rfl rfl rfl rfl fa43_2 ?_
  refine Ie.load rfl rfl rfl rfl rfl ag2 (by first | exact .head | exact .tail .head | exact .tail (.tail .head) | exact .tail (.tail (.tail .head)) | exact .base ‹_› ‹_› (by simp)) rfl ?_
  refine Ie.fieldAddr rfl rfl rfl rfl rfl fa43_3 ?_
  refine Ie.load rfl rfl rfl rfl rfl ag2 (by first | exact .head | exact .tail .head | exact .tail (.tail .head) | exact .tail (.tail (.tail .head)) | exact .base ‹_› ‹_› (by simp)) rfl ?_
  refine Ie.call _ rfl rfl rfl rfl rfl rfl (fun m hm => RCompare_nan1_10 hm.lole ha hb h1) ?_
  refine Ie.eqBool rfl rfl rfl rfl Tryz.underlying4 rfl rfl ?_
  refine Ie.as 55 (.bool true) rfl (by rw [hc]; exact congrArg Value.bool (beq_self_eq_true _)) ?_
  refine Ie.p rfl rfl rfl rfl ?_
  refine Ie.p rfl rfl rfl rfl ?_
  refine Ie.nil ?_
  refine Ne.seq ?_
  refine Ce.ret ?_
  exact Re.end_ rfl rfl (fun m hm => ⟨rfl, hm.ext⟩)

theorem compares_nan2_10 {a b : Int} {m : AW} (hm : m.lo ≤ m.next) (hlay : LaidAt lays m) (ha : Fit .i64 a) (hb : Fit .i64 b) (h1 : w4 a ≠ 9221120237041090561) (h2 : w4 b = 9221120237041090561) (hc : (FloatKind.f64.format.order (flb (w4 a)) (flb (w4 b)) == some .eq) = false) : Fc Tryz.prog 9 [.agg ⟨[.int .i64 4, .int .i64 10, .int .i64 a, .int .i64 b]⟩] m fun v m' => v = .bool true ∧ Ext m m' := by
  refine Fc.body (c := _) Tryz.func9 rfl rfl rfl rfl hm ?_
  refine Ce.seq ?_
  refine Ce.region ?_
  refine Ie.box rfl rfl rfl rfl rfl (fun b1 hb1 => ?_)
  refine Ie.p rfl rfl rfl rfl ?_
  refine Ie.nil ?_
  refine Ne.seq ?_
  refine Ce.seq ?_
  refine Ce.region ?_
  refine Ie.fieldAddr rfl rfl rfl rfl rfl fa43_0 ?_
  refine Ie.load rfl rfl rfl rfl rfl ag3 (by first | exact .head | exact .tail .head | exact .tail (.tail .head) | exact .tail (.tail (.tail .head)) | exact .base ‹_› ‹_› (by simp)) rfl ?_
  refine Ie.fieldAddr rfl rfl rfl rfl rfl fa43_1 ?_
  refine Ie.load rfl rfl rfl rfl rfl ag3 (by first | exact .head | exact .tail .head | exact .tail (.tail .head) | exact .tail (.tail (.tail .head)) | exact .base ‹_› ‹_› (by simp)) rfl ?_
  refine Ie.fieldAddr rfl rfl rfl rfl rfl fa43_2 ?_
  refine Ie.load rfl rfl rfl rfl rfl ag2 (by first | exact .head | exact .tail .head | exact .tail (.tail .head) | exact .tail (.tail (.tail .head)) | exact .base ‹_› ‹_› (by simp)) rfl ?_
  refine Ie.fieldAddr rfl rfl rfl rfl rfl fa43_3 ?_
  refine Ie.load rfl rfl rfl rfl rfl ag2 (by first | exact .head | exact .tail .head | exact .tail (.tail .head) | exact .tail (.tail (.tail .head)) | exact .base ‹_› ‹_› (by simp)) rfl ?_
  refine Ie.call _ rfl rfl rfl rfl rfl rfl (fun m hm => Compare_real_10 hm.lole ha hb) ?_
  refine Ie.p rfl rfl rfl rfl ?_
  refine Ie.p rfl rfl rfl rfl ?_
  refine Ie.p rfl rfl rfl rfl ?_
  refine Ie.p rfl rfl rfl rfl ?_
  refine Ie.p rfl rfl rfl rfl ?_
  refine Ie.nil ?_
  refine Ne.seq ?_
  refine Ce.seq ?_
  refine Ce.block ?_
  refine Ce.seq ?_
  refine Ce.region ?_
  refine Ie.call _ rfl rfl rfl rfl rfl rfl (fun m hm => awake_ok (hlay.kr hm)) ?_
  refine Ie.p rfl rfl rfl rfl ?_
  refine Ie.p rfl rfl rfl rfl ?_
  refine Ie.nil ?_
  refine Ne.seq ?_
  refine Ce.cond_false rfl ?_
  refine Ce.seq ?_
  refine Ce.region ?_
  refine Ie.fieldAddr rfl rfl rfl rfl rfl fa43_0 ?_
  refine Ie.load rfl rfl rfl rfl rfl ag3 (by first | exact .head | exact .tail .head | exact .tail (.tail .head) | exact .tail (.tail (.tail .head)) | exact .base ‹_› ‹_› (by simp)) rfl ?_
  refine Ie.call _ rfl rfl rfl rfl rfl rfl (fun m hm => Kind_real hm.lole) ?_
  refine Ie.p rfl rfl rfl rfl ?_
  refine Ie.p rfl rfl rfl rfl ?_
  refine Ie.nil ?_
  refine Ne.seq ?_
  refine Ce.cond_false rfl ?_
  refine Ce.seq ?_
  refine Ce.region ?_
  refine Ie.fieldAddr rfl rfl rfl rfl rfl fa43_1 ?_
  refine Ie.load rfl rfl rfl rfl rfl ag3 (by first | exact .head | exact .tail .head | exact .tail (.tail .head) | exact .tail (.tail (.tail .head)) | exact .base ‹_› ‹_› (by simp)) rfl ?_
  refine Ie.call _ rfl rfl rfl rfl rfl rfl (fun m hm => FitsCompare_10 hm.lole) ?_
  refine Ie.p rfl rfl rfl rfl ?_
  refine Ie.p rfl rfl rfl rfl ?_
  refine Ie.nil ?_
  refine Ne.seq ?_
  refine Ce.cond_false rfl ?_
  refine Ce.skip ?_
  refine Ne.blk ?_
  refine Ne.seq ?_
  refine Ce.seq ?_
  refine Ce.region ?_
  refine Ie.p rfl rfl rfl rfl ?_
  refine Ie.p rfl rfl rfl rfl ?_
  refine Ie.p rfl rfl rfl rfl ?_
  refine Ie.p rfl rfl rfl rfl ?_
  refine Ie.fieldAddr rfl rfl rfl rfl rfl fa43_0 ?_
  refine Ie.load rfl rfl rfl rfl rfl ag3 (by first | exact .head | exact .tail .head | exact .tail (.tail .head) | exact .tail (.tail (.tail .head)) | exact .base ‹_› ‹_› (by simp)) rfl ?_
  refine Ie.fieldAddr rfl rfl rfl rfl rfl fa43_1 ?_
  refine Ie.load rfl rfl rfl rfl rfl ag3 (by first | exact .head | exact .tail .head | exact .tail (.tail .head) | exact .tail (.tail (.tail .head)) | exact .base ‹_› ‹_› (by simp)) rfl ?_
  refine Ie.fieldAddr rfl rfl rfl rfl rfl fa43_2 ?_
  refine Ie.load rfl rfl rfl rfl rfl ag2 (by first | exact .head | exact .tail .head | exact .tail (.tail .head) | exact .tail (.tail (.tail .head)) | exact .base ‹_› ‹_› (by simp)) rfl ?_
  refine Ie.fieldAddr rfl rfl rfl rfl rfl fa43_3 ?_
  refine Ie.load rfl rfl rfl rfl rfl ag2 (by first | exact .head | exact .tail .head | exact .tail (.tail .head) | exact .tail (.tail (.tail .head)) | exact .base ‹_› ‹_› (by simp)) rfl ?_
  refine Ie.call _ rfl rfl rfl rfl rfl rfl (fun m hm => RCompare_nan2_10 hm.lole ha hb h1 h2) ?_
  refine Ie.eqBool rfl rfl rfl rfl Tryz.underlying4 rfl rfl ?_
  refine Ie.as 55 (.bool true) rfl (by rw [hc]; exact congrArg Value.bool (beq_self_eq_true _)) ?_
  refine Ie.p rfl rfl rfl rfl ?_
  refine Ie.p rfl rfl rfl rfl ?_
  refine Ie.nil ?_
  refine Ne.seq ?_
  refine Ce.ret ?_
  exact Re.end_ rfl rfl (fun m hm => ⟨rfl, hm.ext⟩)

theorem compares_real_11 {a b : Int} {m : AW} (hm : m.lo ≤ m.next) (hlay : LaidAt lays m) (ha : Fit .i64 a) (hb : Fit .i64 b) (h1 : w4 a ≠ 9221120237041090561) (h2 : w4 b ≠ 9221120237041090561) (hc : (!(FloatKind.f64.format.order (flb (w4 a)) (flb (w4 b)) == some .eq)) = ((FloatKind.f64.format.order (flb (w4 a)) (flb (w4 b)) == some .lt) || (FloatKind.f64.format.order (flb (w4 a)) (flb (w4 b)) == some .gt))) : Fc Tryz.prog 9 [.agg ⟨[.int .i64 4, .int .i64 11, .int .i64 a, .int .i64 b]⟩] m fun v m' => v = .bool true ∧ Ext m m' := by
  refine Fc.body (c := _) Tryz.func9 rfl rfl rfl rfl hm ?_
  refine Ce.seq ?_
  refine Ce.region ?_
  refine Ie.box rfl rfl rfl rfl rfl (fun b1 hb1 => ?_)
  refine Ie.p rfl rfl rfl rfl ?_
  refine Ie.nil ?_
  refine Ne.seq ?_
  refine Ce.seq ?_
  refine Ce.region ?_
  refine Ie.fieldAddr rfl rfl rfl rfl rfl fa43_0 ?_
  refine Ie.load rfl rfl rfl rfl rfl ag3 (by first | exact .head | exact .tail .head | exact .tail (.tail .head) | exact .tail (.tail (.tail .head)) | exact .base ‹_› ‹_› (by simp)) rfl ?_
  refine Ie.fieldAddr rfl rfl rfl rfl rfl fa43_1 ?_
  refine Ie.load rfl rfl rfl rfl rfl ag3 (by first | exact .head | exact .tail .head | exact .tail (.tail .head) | exact .tail (.tail (.tail .head)) | exact .base ‹_› ‹_› (by simp)) rfl ?_
  refine Ie.fieldAddr rfl rfl rfl rfl rfl fa43_2 ?_
  refine Ie.load rfl rfl rfl rfl rfl ag2 (by first | exact .head | exact .tail .head | exact .tail (.tail .head) | exact .tail (.tail (.tail .head)) | exact .base ‹_› ‹_› (by simp)) rfl ?_
  refine Ie.fieldAddr rfl rfl rfl rfl rfl fa43_3 ?_
  refine Ie.load rfl rfl rfl rfl rfl ag2 (by first | exact .head | exact .tail .head | exact .tail (.tail .head) | exact .tail (.tail (.tail .head)) | exact .base ‹_› ‹_› (by simp)) rfl ?_
  refine Ie.call _ rfl rfl rfl rfl rfl rfl (fun m hm => Compare_real_11 hm.lole ha hb) ?_
  refine Ie.p rfl rfl rfl rfl ?_
  refine Ie.p rfl rfl rfl rfl ?_
  refine Ie.p rfl rfl rfl rfl ?_
  refine Ie.p rfl rfl rfl rfl ?_
  refine Ie.p rfl rfl rfl rfl ?_
  refine Ie.nil ?_
  refine Ne.seq ?_
  refine Ce.seq ?_
  refine Ce.block ?_
  refine Ce.seq ?_
  refine Ce.region ?_
  refine Ie.call _ rfl rfl rfl rfl rfl rfl (fun m hm => awake_ok (hlay.kr hm)) ?_
  refine Ie.p rfl rfl rfl rfl ?_
  refine Ie.p rfl rfl rfl rfl ?_
  refine Ie.nil ?_
  refine Ne.seq ?_
  refine Ce.cond_false rfl ?_
  refine Ce.seq ?_
  refine Ce.region ?_
  refine Ie.fieldAddr rfl rfl rfl rfl rfl fa43_0 ?_
  refine Ie.load rfl rfl rfl rfl rfl ag3 (by first | exact .head | exact .tail .head | exact .tail (.tail .head) | exact .tail (.tail (.tail .head)) | exact .base ‹_› ‹_› (by simp)) rfl ?_
  refine Ie.call _ rfl rfl rfl rfl rfl rfl (fun m hm => Kind_real hm.lole) ?_
  refine Ie.p rfl rfl rfl rfl ?_
  refine Ie.p rfl rfl rfl rfl ?_
  refine Ie.nil ?_
  refine Ne.seq ?_
  refine Ce.cond_false rfl ?_
  refine Ce.seq ?_
  refine Ce.region ?_
  refine Ie.fieldAddr rfl rfl rfl rfl rfl fa43_1 ?_
  refine Ie.load rfl rfl rfl rfl rfl ag3 (by first | exact .head | exact .tail .head | exact .tail (.tail .head) | exact .tail (.tail (.tail .head)) | exact .base ‹_› ‹_› (by simp)) rfl ?_
  refine Ie.call _ rfl rfl rfl rfl rfl rfl (fun m hm => FitsCompare_11 hm.lole) ?_
  refine Ie.p rfl rfl rfl rfl ?_
  refine Ie.p rfl rfl rfl rfl ?_
  refine Ie.nil ?_
  refine Ne.seq ?_
  refine Ce.cond_false rfl ?_
  refine Ce.skip ?_
  refine Ne.blk ?_
  refine Ne.seq ?_
  refine Ce.seq ?_
  refine Ce.region ?_
  refine Ie.p rfl rfl rfl rfl ?_
  refine Ie.p rfl rfl rfl rfl ?_
  refine Ie.p rfl rfl rfl rfl ?_
  refine Ie.p rfl rfl rfl rfl ?_
  refine Ie.fieldAddr rfl rfl rfl rfl rfl fa43_0 ?_
  refine Ie.load rfl rfl rfl rfl rfl ag3 (by first | exact .head | exact .tail .head | exact .tail (.tail .head) | exact .tail (.tail (.tail .head)) | exact .base ‹_› ‹_› (by simp)) rfl ?_
  refine Ie.fieldAddr rfl rfl rfl rfl rfl fa43_1 ?_
  refine Ie.load rfl rfl rfl rfl rfl ag3 (by first | exact .head | exact .tail .head | exact .tail (.tail .head) | exact .tail (.tail (.tail .head)) | exact .base ‹_› ‹_› (by simp)) rfl ?_
  refine Ie.fieldAddr rfl rfl rfl rfl rfl fa43_2 ?_
  refine Ie.load rfl rfl rfl rfl rfl ag2 (by first | exact .head | exact .tail .head | exact .tail (.tail .head) | exact .tail (.tail (.tail .head)) | exact .base ‹_› ‹_› (by simp)) rfl ?_
  refine Ie.fieldAddr rfl rfl rfl rfl rfl fa43_3 ?_
  refine Ie.load rfl rfl rfl rfl rfl ag2 (by first | exact .head | exact .tail .head | exact .tail (.tail .head) | exact .tail (.tail (.tail .head)) | exact .base ‹_› ‹_› (by simp)) rfl ?_
  refine Ie.call _ rfl rfl rfl rfl rfl rfl (fun m hm => RCompare_real_11 hm.lole ha hb h1 h2) ?_
  refine Ie.eqBool rfl rfl rfl rfl Tryz.underlying4 rfl rfl ?_
  refine Ie.as 55 (.bool true) rfl (by rw [hc]; exact congrArg Value.bool (beq_self_eq_true _)) ?_
  refine Ie.p rfl rfl rfl rfl ?_
  refine Ie.p rfl rfl rfl rfl ?_
  refine Ie.nil ?_
  refine Ne.seq ?_
  refine Ce.ret ?_
  exact Re.end_ rfl rfl (fun m hm => ⟨rfl, hm.ext⟩)

theorem compares_nan1_11 {a b : Int} {m : AW} (hm : m.lo ≤ m.next) (hlay : LaidAt lays m) (ha : Fit .i64 a) (hb : Fit .i64 b) (h1 : w4 a = 9221120237041090561) (hc : (!(FloatKind.f64.format.order (flb (w4 a)) (flb (w4 b)) == some .eq)) = true) : Fc Tryz.prog 9 [.agg ⟨[.int .i64 4, .int .i64 11, .int .i64 a, .int .i64 b]⟩] m fun v m' => v = .bool true ∧ Ext m m' := by
  refine Fc.body (c := _) Tryz.func9 rfl rfl rfl rfl hm ?_
  refine Ce.seq ?_
  refine Ce.region ?_
  refine Ie.box rfl rfl rfl rfl rfl (fun b1 hb1 => ?_)
  refine Ie.p rfl rfl rfl rfl ?_
  refine Ie.nil ?_
  refine Ne.seq ?_
  refine Ce.seq ?_
  refine Ce.region ?_
  refine Ie.fieldAddr rfl rfl rfl rfl rfl fa43_0 ?_
  refine Ie.load rfl rfl rfl rfl rfl ag3 (by first | exact .head | exact .tail .head | exact .tail (.tail .head) | exact .tail (.tail (.tail .head)) | exact .base ‹_› ‹_› (by simp)) rfl ?_
  refine Ie.fieldAddr rfl rfl rfl rfl rfl fa43_1 ?_
  refine Ie.load rfl rfl rfl rfl rfl ag3 (by first | exact .head | exact .tail .head | exact .tail (.tail .head) | exact .tail (.tail (.tail .head)) | exact .base ‹_› ‹_› (by simp)) rfl ?_
  refine Ie.fieldAddr rfl rfl rfl rfl rfl fa43_2 ?_
  refine Ie.load rfl rfl rfl rfl rfl ag2 (by first | exact .head | exact .tail .head | exact .tail (.tail .head) | exact .tail (.tail (.tail .head)) | exact .base ‹_› ‹_› (by simp)) rfl ?_
  refine Ie.fieldAddr rfl rfl rfl rfl rfl fa43_3 ?_
  refine Ie.load rfl rfl rfl rfl rfl ag2 (by first | exact .head | exact .tail .head | exact .tail (.tail .head) | exact .tail (.tail (.tail .head)) | exact .base ‹_› ‹_› (by simp)) rfl ?_
  refine Ie.call _ rfl rfl rfl rfl rfl rfl (fun m hm => Compare_real_11 hm.lole ha hb) ?_
  refine Ie.p rfl rfl rfl rfl ?_
  refine Ie.p rfl rfl rfl rfl ?_
  refine Ie.p rfl rfl rfl rfl ?_
  refine Ie.p rfl rfl rfl rfl ?_
  refine Ie.p rfl rfl rfl rfl ?_
  refine Ie.nil ?_
  refine Ne.seq ?_
  refine Ce.seq ?_
  refine Ce.block ?_
  refine Ce.seq ?_
  refine Ce.region ?_
  refine Ie.call _ rfl rfl rfl rfl rfl rfl (fun m hm => awake_ok (hlay.kr hm)) ?_
  refine Ie.p rfl rfl rfl rfl ?_
  refine Ie.p rfl rfl rfl rfl ?_
  refine Ie.nil ?_
  refine Ne.seq ?_
  refine Ce.cond_false rfl ?_
  refine Ce.seq ?_
  refine Ce.region ?_
  refine Ie.fieldAddr rfl rfl rfl rfl rfl fa43_0 ?_
  refine Ie.load rfl rfl rfl rfl rfl ag3 (by first | exact .head | exact .tail .head | exact .tail (.tail .head) | exact .tail (.tail (.tail .head)) | exact .base ‹_› ‹_› (by simp)) rfl ?_
  refine Ie.call _ rfl rfl rfl rfl rfl rfl (fun m hm => Kind_real hm.lole) ?_
  refine Ie.p rfl rfl rfl rfl ?_
  refine Ie.p rfl rfl rfl rfl ?_
  refine Ie.nil ?_
  refine Ne.seq ?_
  refine Ce.cond_false rfl ?_
  refine Ce.seq ?_
  refine Ce.region ?_
  refine Ie.fieldAddr rfl rfl rfl rfl rfl fa43_1 ?_
  refine Ie.load rfl rfl rfl rfl rfl ag3 (by first | exact .head | exact .tail .head | exact .tail (.tail .head) | exact .tail (.tail (.tail .head)) | exact .base ‹_› ‹_› (by simp)) rfl ?_
  refine Ie.call _ rfl rfl rfl rfl rfl rfl (fun m hm => FitsCompare_11 hm.lole) ?_
  refine Ie.p rfl rfl rfl rfl ?_
  refine Ie.p rfl rfl rfl rfl ?_
  refine Ie.nil ?_
  refine Ne.seq ?_
  refine Ce.cond_false rfl ?_
  refine Ce.skip ?_
  refine Ne.blk ?_
  refine Ne.seq ?_
  refine Ce.seq ?_
  refine Ce.region ?_
  refine Ie.p rfl rfl rfl rfl ?_
  refine Ie.p rfl rfl rfl rfl ?_
  refine Ie.p rfl rfl rfl rfl ?_
  refine Ie.p rfl rfl rfl rfl ?_
  refine Ie.fieldAddr rfl rfl rfl rfl rfl fa43_0 ?_
  refine Ie.load rfl rfl rfl rfl rfl ag3 (by first | exact .head | exact .tail .head | exact .tail (.tail .head) | exact .tail (.tail (.tail .head)) | exact .base ‹_› ‹_› (by simp)) rfl ?_
  refine Ie.fieldAddr rfl rfl rfl rfl rfl fa43_1 ?_
  refine Ie.load rfl rfl rfl rfl rfl ag3 (by first | exact .head | exact .tail .head | exact .tail (.tail .head) | exact .tail (.tail (.tail .head)) | exact .base ‹_› ‹_› (by simp)) rfl ?_
  refine Ie.fieldAddr rfl rfl rfl rfl rfl fa43_2 ?_
  refine Ie.load rfl rfl rfl rfl rfl ag2 (by first | exact .head | exact .tail .head | exact .tail (.tail .head) | exact .tail (.tail (.tail .head)) | exact .base ‹_› ‹_› (by simp)) rfl ?_
  refine Ie.fieldAddr rfl rfl rfl rfl rfl fa43_3 ?_
  refine Ie.load rfl rfl rfl rfl rfl ag2 (by first | exact .head | exact .tail .head | exact .tail (.tail .head) | exact .tail (.tail (.tail .head)) | exact .base ‹_› ‹_› (by simp)) rfl ?_
  refine Ie.call _ rfl rfl rfl rfl rfl rfl (fun m hm => RCompare_nan1_11 hm.lole ha hb h1) ?_
  refine Ie.eqBool rfl rfl rfl rfl Tryz.underlying4 rfl rfl ?_
  refine Ie.as 55 (.bool true) rfl (by rw [hc]; exact congrArg Value.bool (beq_self_eq_true _)) ?_
  refine Ie.p rfl rfl rfl rfl ?_
  refine Ie.p rfl rfl rfl rfl ?_
  refine Ie.nil ?_
  refine Ne.seq ?_
  refine Ce.ret ?_
  exact Re.end_ rfl rfl (fun m hm => ⟨rfl, hm.ext⟩)

theorem compares_nan2_11 {a b : Int} {m : AW} (hm : m.lo ≤ m.next) (hlay : LaidAt lays m) (ha : Fit .i64 a) (hb : Fit .i64 b) (h1 : w4 a ≠ 9221120237041090561) (h2 : w4 b = 9221120237041090561) (hc : (!(FloatKind.f64.format.order (flb (w4 a)) (flb (w4 b)) == some .eq)) = true) : Fc Tryz.prog 9 [.agg ⟨[.int .i64 4, .int .i64 11, .int .i64 a, .int .i64 b]⟩] m fun v m' => v = .bool true ∧ Ext m m' := by
  refine Fc.body (c := _) Tryz.func9 rfl rfl rfl rfl hm ?_
  refine Ce.seq ?_
  refine Ce.region ?_
  refine Ie.box rfl rfl rfl rfl rfl (fun b1 hb1 => ?_)
  refine Ie.p rfl rfl rfl rfl ?_
  refine Ie.nil ?_
  refine Ne.seq ?_
  refine Ce.seq ?_
  refine Ce.region ?_
  refine Ie.fieldAddr rfl rfl rfl rfl rfl fa43_0 ?_
  refine Ie.load rfl rfl rfl rfl rfl ag3 (by first | exact .head | exact .tail .head | exact .tail (.tail .head) | exact .tail (.tail (.tail .head)) | exact .base ‹_› ‹_› (by simp)) rfl ?_
  refine Ie.fieldAddr rfl rfl rfl rfl rfl fa43_1 ?_
  refine Ie.load rfl rfl rfl rfl rfl ag3 (by first | exact .head | exact .tail .head | exact .tail (.tail .head) | exact .tail (.tail (.tail .head)) | exact .base ‹_› ‹_› (by simp)) rfl ?_
  refine Ie.fieldAddr rfl rfl rfl rfl rfl fa43_2 ?_
  refine Ie.load rfl rfl rfl rfl rfl ag2 (by first | exact .head | exact .tail .head | exact .tail (.tail .head) | exact .tail (.tail (.tail .head)) | exact .base ‹_› ‹_› (by simp)) rfl ?_
  refine Ie.fieldAddr rfl rfl rfl rfl rfl fa43_3 ?_
  refine Ie.load rfl rfl rfl rfl rfl ag2 (by first | exact .head | exact .tail .head | exact .tail (.tail .head) | exact .tail (.tail (.tail .head)) | exact .base ‹_› ‹_› (by simp)) rfl ?_
  refine Ie.call _ rfl rfl rfl rfl rfl rfl (fun m hm => Compare_real_11 hm.lole ha hb) ?_
  refine Ie.p rfl rfl rfl rfl ?_
  refine Ie.p rfl rfl rfl rfl ?_
  refine Ie.p rfl rfl rfl rfl ?_
  refine Ie.p rfl rfl rfl rfl ?_
  refine Ie.p rfl rfl rfl rfl ?_
  refine Ie.nil ?_
  refine Ne.seq ?_
  refine Ce.seq ?_
  refine Ce.block ?_
  refine Ce.seq ?_
  refine Ce.region ?_
  refine Ie.call _ rfl rfl rfl rfl rfl rfl (fun m hm => awake_ok (hlay.kr hm)) ?_
  refine Ie.p rfl rfl rfl rfl ?_
  refine Ie.p rfl rfl rfl rfl ?_
  refine Ie.nil ?_
  refine Ne.seq ?_
  refine Ce.cond_false rfl ?_
  refine Ce.seq ?_
  refine Ce.region ?_
  refine Ie.fieldAddr rfl rfl rfl rfl rfl fa43_0 ?_
  refine Ie.load rfl rfl rfl rfl rfl ag3 (by first | exact .head | exact .tail .head | exact .tail (.tail .head) | exact .tail (.tail (.tail .head)) | exact .base ‹_› ‹_› (by simp)) rfl ?_
  refine Ie.call _ rfl rfl rfl rfl rfl rfl (fun m hm => Kind_real hm.lole) ?_
  refine Ie.p rfl rfl rfl rfl ?_
  refine Ie.p rfl rfl rfl rfl ?_
  refine Ie.nil ?_
  refine Ne.seq ?_
  refine Ce.cond_false rfl ?_
  refine Ce.seq ?_
  refine Ce.region ?_
  refine Ie.fieldAddr rfl rfl rfl rfl rfl fa43_1 ?_
  refine Ie.load rfl rfl rfl rfl rfl ag3 (by first | exact .head | exact .tail .head | exact .tail (.tail .head) | exact .tail (.tail (.tail .head)) | exact .base ‹_› ‹_› (by simp)) rfl ?_
  refine Ie.call _ rfl rfl rfl rfl rfl rfl (fun m hm => FitsCompare_11 hm.lole) ?_
  refine Ie.p rfl rfl rfl rfl ?_
  refine Ie.p rfl rfl rfl rfl ?_
  refine Ie.nil ?_
  refine Ne.seq ?_
  refine Ce.cond_false rfl ?_
  refine Ce.skip ?_
  refine Ne.blk ?_
  refine Ne.seq ?_
  refine Ce.seq ?_
  refine Ce.region ?_
  refine Ie.p rfl rfl rfl rfl ?_
  refine Ie.p rfl rfl rfl rfl ?_
  refine Ie.p rfl rfl rfl rfl ?_
  refine Ie.p rfl rfl rfl rfl ?_
  refine Ie.fieldAddr rfl rfl rfl rfl rfl fa43_0 ?_
  refine Ie.load rfl rfl rfl rfl rfl ag3 (by first | exact .head | exact .tail .head | exact .tail (.tail .head) | exact .tail (.tail (.tail .head)) | exact .base ‹_› ‹_› (by simp)) rfl ?_
  refine Ie.fieldAddr rfl rfl rfl rfl rfl fa43_1 ?_
  refine Ie.load rfl rfl rfl rfl rfl ag3 (by first | exact .head | exact .tail .head | exact .tail (.tail .head) | exact .tail (.tail (.tail .head)) | exact .base ‹_› ‹_› (by simp)) rfl ?_
  refine Ie.fieldAddr rfl rfl rfl rfl rfl fa43_2 ?_
  refine Ie.load rfl rfl rfl rfl rfl ag2 (by first | exact .head | exact .tail .head | exact .tail (.tail .head) | exact .tail (.tail (.tail .head)) | exact .base ‹_› ‹_› (by simp)) rfl ?_
  refine Ie.fieldAddr rfl rfl rfl rfl rfl fa43_3 ?_
  refine Ie.load rfl rfl rfl rfl rfl ag2 (by first | exact .head | exact .tail .head | exact .tail (.tail .head) | exact .tail (.tail (.tail .head)) | exact .base ‹_› ‹_› (by simp)) rfl ?_
  refine Ie.call _ rfl rfl rfl rfl rfl rfl (fun m hm => RCompare_nan2_11 hm.lole ha hb h1 h2) ?_
  refine Ie.eqBool rfl rfl rfl rfl Tryz.underlying4 rfl rfl ?_
  refine Ie.as 55 (.bool true) rfl (by rw [hc]; exact congrArg Value.bool (beq_self_eq_true _)) ?_
  refine Ie.p rfl rfl rfl rfl ?_
  refine Ie.p rfl rfl rfl rfl ?_
  refine Ie.nil ?_
  refine Ne.seq ?_
  refine Ce.ret ?_
  exact Re.end_ rfl rfl (fun m hm => ⟨rfl, hm.ext⟩)

theorem compares_real_12 {a b : Int} {m : AW} (hm : m.lo ≤ m.next) (hlay : LaidAt lays m) (ha : Fit .i64 a) (hb : Fit .i64 b) (h1 : w4 a ≠ 9221120237041090561) (h2 : w4 b ≠ 9221120237041090561) (hc : (FloatKind.f64.format.order (flb (w4 a)) (flb (w4 b)) == some .lt) = (FloatKind.f64.format.order (flb (w4 a)) (flb (w4 b)) == some .lt)) : Fc Tryz.prog 9 [.agg ⟨[.int .i64 4, .int .i64 12, .int .i64 a, .int .i64 b]⟩] m fun v m' => v = .bool true ∧ Ext m m' := by
  refine Fc.body (c := _) Tryz.func9 rfl rfl rfl rfl hm ?_
  refine Ce.seq ?_
  refine Ce.region ?_
  refine Ie.box rfl rfl rfl rfl rfl (fun b1 hb1 => ?_)
  refine Ie.p rfl rfl rfl rfl ?_
  refine Ie.nil ?_
  refine Ne.seq ?_
  refine Ce.seq ?_
  refine Ce.region ?_
  refine Ie.fieldAddr rfl rfl rfl rfl rfl fa43_0 ?_
  refine Ie.load rfl rfl rfl rfl rfl ag3 (by first | exact .head | exact .tail .head | exact .tail (.tail .head) | exact .tail (.tail (.tail .head)) | exact .base ‹_› ‹_› (by simp)) rfl ?_
  refine Ie.fieldAddr rfl rfl rfl rfl rfl fa43_1 ?_
  refine Ie.load rfl rfl rfl rfl rfl ag3 (by first | exact .head | exact .tail .head | exact .tail (.tail .head) | exact .tail (.tail (.tail .head)) | exact .base ‹_› ‹_› (by simp)) rfl ?_
  refine Ie.fieldAddr rfl rfl rfl rfl rfl fa43_2 ?_
  refine Ie.load rfl rfl rfl rfl rfl ag2 (by first | exact .head | exact .tail .head | exact .tail (.tail .head) | exact .tail (.tail (.tail .head)) | exact .base ‹_› ‹_› (by simp)) rfl ?_
  refine Ie.fieldAddr rfl rfl rfl rfl rfl fa43_3 ?_
  refine Ie.load rfl rfl rfl rfl rfl ag2 (by first | exact .head | exact .tail .head | exact .tail (.tail .head) | exact .tail (.tail (.tail .head)) | exact .base ‹_› ‹_› (by simp)) rfl ?_
  refine Ie.call _ rfl rfl rfl rfl rfl rfl (fun m hm => Compare_real_12 hm.lole ha hb) ?_
  refine Ie.p rfl rfl rfl rfl ?_
  refine Ie.p rfl rfl rfl rfl ?_
  refine Ie.p rfl rfl rfl rfl ?_
  refine Ie.p rfl rfl rfl rfl ?_
  refine Ie.p rfl rfl rfl rfl ?_
  refine Ie.nil ?_
  refine Ne.seq ?_
  refine Ce.seq ?_
  refine Ce.block ?_
  refine Ce.seq ?_
  refine Ce.region ?_
  refine Ie.call _ rfl rfl rfl rfl rfl rfl (fun m hm => awake_ok (hlay.kr hm)) ?_
  refine Ie.p rfl rfl rfl rfl ?_
  refine Ie.p rfl rfl rfl rfl ?_
  refine Ie.nil ?_
  refine Ne.seq ?_
  refine Ce.cond_false rfl ?_
  refine Ce.seq ?_
  refine Ce.region ?_
  refine Ie.fieldAddr rfl rfl rfl rfl rfl fa43_0 ?_
  refine Ie.load rfl rfl rfl rfl rfl ag3 (by first | exact .head | exact .tail .head | exact .tail (.tail .head) | exact .tail (.tail (.tail .head)) | exact .base ‹_› ‹_› (by simp)) rfl ?_
  refine Ie.call _ rfl rfl rfl rfl rfl rfl (fun m hm => Kind_real hm.lole) ?_
  refine Ie.p rfl rfl rfl rfl ?_
  refine Ie.p rfl rfl rfl rfl ?_
  refine Ie.nil ?_
  refine Ne.seq ?_
  refine Ce.cond_false rfl ?_
  refine Ce.seq ?_
  refine Ce.region ?_
  refine Ie.fieldAddr rfl rfl rfl rfl rfl fa43_1 ?_
  refine Ie.load rfl rfl rfl rfl rfl ag3 (by first | exact .head | exact .tail .head | exact .tail (.tail .head) | exact .tail (.tail (.tail .head)) | exact .base ‹_› ‹_› (by simp)) rfl ?_
  refine Ie.call _ rfl rfl rfl rfl rfl rfl (fun m hm => FitsCompare_12 hm.lole) ?_
  refine Ie.p rfl rfl rfl rfl ?_
  refine Ie.p rfl rfl rfl rfl ?_
  refine Ie.nil ?_
  refine Ne.seq ?_
  refine Ce.cond_false rfl ?_
  refine Ce.skip ?_
  refine Ne.blk ?_
  refine Ne.seq ?_
  refine Ce.seq ?_
  refine Ce.region ?_
  refine Ie.p rfl rfl rfl rfl ?_
  refine Ie.p rfl rfl rfl rfl ?_
  refine Ie.p rfl rfl rfl rfl ?_
  refine Ie.p rfl rfl rfl rfl ?_
  refine Ie.fieldAddr rfl rfl rfl rfl rfl fa43_0 ?_
  refine Ie.load rfl rfl rfl rfl rfl ag3 (by first | exact .head | exact .tail .head | exact .tail (.tail .head) | exact .tail (.tail (.tail .head)) | exact .base ‹_› ‹_› (by simp)) rfl ?_
  refine Ie.fieldAddr rfl rfl rfl rfl rfl fa43_1 ?_
  refine Ie.load rfl rfl rfl rfl rfl ag3 (by first | exact .head | exact .tail .head | exact .tail (.tail .head) | exact .tail (.tail (.tail .head)) | exact .base ‹_› ‹_› (by simp)) rfl ?_
  refine Ie.fieldAddr rfl rfl rfl rfl rfl fa43_2 ?_
  refine Ie.load rfl rfl rfl rfl rfl ag2 (by first | exact .head | exact .tail .head | exact .tail (.tail .head) | exact .tail (.tail (.tail .head)) | exact .base ‹_› ‹_› (by simp)) rfl ?_
  refine Ie.fieldAddr rfl rfl rfl rfl rfl fa43_3 ?_
  refine Ie.load rfl rfl rfl rfl rfl ag2 (by first | exact .head | exact .tail .head | exact .tail (.tail .head) | exact .tail (.tail (.tail .head)) | exact .base ‹_› ‹_› (by simp)) rfl ?_
  refine Ie.call _ rfl rfl rfl rfl rfl rfl (fun m hm => RCompare_real_12 hm.lole ha hb h1 h2) ?_
  refine Ie.eqBool rfl rfl rfl rfl Tryz.underlying4 rfl rfl ?_
  refine Ie.as 55 (.bool true) rfl (by rw [hc]; exact congrArg Value.bool (beq_self_eq_true _)) ?_
  refine Ie.p rfl rfl rfl rfl ?_
  refine Ie.p rfl rfl rfl rfl ?_
  refine Ie.nil ?_
  refine Ne.seq ?_
  refine Ce.ret ?_
  exact Re.end_ rfl rfl (fun m hm => ⟨rfl, hm.ext⟩)

theorem compares_nan1_12 {a b : Int} {m : AW} (hm : m.lo ≤ m.next) (hlay : LaidAt lays m) (ha : Fit .i64 a) (hb : Fit .i64 b) (h1 : w4 a = 9221120237041090561) (hc : (FloatKind.f64.format.order (flb (w4 a)) (flb (w4 b)) == some .lt) = false) : Fc Tryz.prog 9 [.agg ⟨[.int .i64 4, .int .i64 12, .int .i64 a, .int .i64 b]⟩] m fun v m' => v = .bool true ∧ Ext m m' := by
  refine Fc.body (c := _) Tryz.func9 rfl rfl rfl rfl hm ?_
  refine Ce.seq ?_
  refine Ce.region ?_
  refine Ie.box rfl rfl rfl rfl rfl (fun b1 hb1 => ?_)
  refine Ie.p rfl rfl rfl rfl ?_
  refine Ie.nil ?_
  refine Ne.seq ?_
  refine Ce.seq ?_
  refine Ce.region ?_
  refine Ie.fieldAddr rfl rfl rfl rfl rfl fa43_0 ?_
  refine Ie.load rfl rfl rfl rfl rfl ag3 (by first | exact .head | exact .tail .head | exact .tail (.tail .head) | exact .tail (.tail (.tail .head)) | exact .base ‹_› ‹_› (by simp)) rfl ?_
  refine Ie.fieldAddr rfl rfl rfl rfl rfl fa43_1 ?_
  refine Ie.load rfl rfl rfl rfl rfl ag3 (by first | exact .head | exact .tail .head | exact .tail (.tail .head) | exact .tail (.tail (.tail .head)) | exact .base ‹_› ‹_› (by simp)) rfl ?_
  refine Ie.fieldAddr rfl rfl rfl rfl rfl fa43_2 ?_
  refine Ie.load rfl rfl rfl rfl rfl ag2 (by first | exact .head | exact .tail .head | exact .tail (.tail .head) | exact .tail (.tail (.tail .head)) | exact .base ‹_› ‹_› (by simp)) rfl ?_
  refine Ie.fieldAddr rfl rfl rfl rfl rfl fa43_3 ?_
  refine Ie.load rfl rfl rfl rfl rfl ag2 (by first | exact .head | exact .tail .head | exact .tail (.tail .head) | exact .tail (.tail (.tail .head)) | exact .base ‹_› ‹_› (by simp)) rfl ?_
  refine Ie.call _ rfl rfl rfl rfl rfl rfl (fun m hm => Compare_real_12 hm.lole ha hb) ?_
  refine Ie.p rfl rfl rfl rfl ?_
  refine Ie.p rfl rfl rfl rfl ?_
  refine Ie.p rfl rfl rfl rfl ?_
  refine Ie.p rfl rfl rfl rfl ?_
  refine Ie.p rfl rfl rfl rfl ?_
  refine Ie.nil ?_
  refine Ne.seq ?_
  refine Ce.seq ?_
  refine Ce.block ?_
  refine Ce.seq ?_
  refine Ce.region ?_
  refine Ie.call _ rfl rfl rfl rfl rfl rfl (fun m hm => awake_ok (hlay.kr hm)) ?_
  refine Ie.p rfl rfl rfl rfl ?_
  refine Ie.p rfl rfl rfl rfl ?_
  refine Ie.nil ?_
  refine Ne.seq ?_
  refine Ce.cond_false rfl ?_
  refine Ce.seq ?_
  refine Ce.region ?_
  refine Ie.fieldAddr rfl rfl rfl rfl rfl fa43_0 ?_
  refine Ie.load rfl rfl rfl rfl rfl ag3 (by first | exact .head | exact .tail .head | exact .tail (.tail .head) | exact .tail (.tail (.tail .head)) | exact .base ‹_› ‹_› (by simp)) rfl ?_
  refine Ie.call _ rfl rfl rfl rfl rfl rfl (fun m hm => Kind_real hm.lole) ?_
  refine Ie.p rfl rfl rfl rfl ?_
  refine Ie.p rfl rfl rfl rfl ?_
  refine Ie.nil ?_
  refine Ne.seq ?_
  refine Ce.cond_false rfl ?_
  refine Ce.seq ?_
  refine Ce.region ?_
  refine Ie.fieldAddr rfl rfl rfl rfl rfl fa43_1 ?_
  refine Ie.load rfl rfl rfl rfl rfl ag3 (by first | exact .head | exact .tail .head | exact .tail (.tail .head) | exact .tail (.tail (.tail .head)) | exact .base ‹_› ‹_› (by simp)) rfl ?_
  refine Ie.call _ rfl rfl rfl rfl rfl rfl (fun m hm => FitsCompare_12 hm.lole) ?_
  refine Ie.p rfl rfl rfl rfl ?_
  refine Ie.p rfl rfl rfl rfl ?_
  refine Ie.nil ?_
  refine Ne.seq ?_
  refine Ce.cond_false rfl ?_
  refine Ce.skip ?_
  refine Ne.blk ?_
  refine Ne.seq ?_
  refine Ce.seq ?_
  refine Ce.region ?_
  refine Ie.p rfl rfl rfl rfl ?_
  refine Ie.p rfl rfl rfl rfl ?_
  refine Ie.p rfl rfl rfl rfl ?_
  refine Ie.p rfl rfl rfl rfl ?_
  refine Ie.fieldAddr rfl rfl rfl rfl rfl fa43_0 ?_
  refine Ie.load rfl rfl rfl rfl rfl ag3 (by first | exact .head | exact .tail .head | exact .tail (.tail .head) | exact .tail (.tail (.tail .head)) | exact .base ‹_› ‹_› (by simp)) rfl ?_
  refine Ie.fieldAddr rfl rfl rfl rfl rfl fa43_1 ?_
  refine Ie.load rfl rfl rfl rfl rfl ag3 (by first | exact .head | exact .tail .head | exact .tail (.tail .head) | exact .tail (.tail (.tail .head)) | exact .base ‹_› ‹_› (by simp)) rfl ?_
  refine Ie.fieldAddr rfl rfl rfl rfl rfl fa43_2 ?_
  refine Ie.load rfl rfl rfl rfl rfl ag2 (by first | exact .head | exact .tail .head | exact .tail (.tail .head) | exact .tail (.tail (.tail .head)) | exact .base ‹_› ‹_› (by simp)) rfl ?_
  refine Ie.fieldAddr rfl rfl rfl rfl rfl fa43_3 ?_
  refine Ie.load rfl rfl rfl rfl rfl ag2 (by first | exact .head | exact .tail .head | exact .tail (.tail .head) | exact .tail (.tail (.tail .head)) | exact .base ‹_› ‹_› (by simp)) rfl ?_
  refine Ie.call _ rfl rfl rfl rfl rfl rfl (fun m hm => RCompare_nan1_12 hm.lole ha hb h1) ?_
  refine Ie.eqBool rfl rfl rfl rfl Tryz.underlying4 rfl rfl ?_
  refine Ie.as 55 (.bool true) rfl (by rw [hc]; exact congrArg Value.bool (beq_self_eq_true _)) ?_
  refine Ie.p rfl rfl rfl rfl ?_
  refine Ie.p rfl rfl rfl rfl ?_
  refine Ie.nil ?_
  refine Ne.seq ?_
  refine Ce.ret ?_
  exact Re.end_ rfl rfl (fun m hm => ⟨rfl, hm.ext⟩)

theorem compares_nan2_12 {a b : Int} {m : AW} (hm : m.lo ≤ m.next) (hlay : LaidAt lays m) (ha : Fit .i64 a) (hb : Fit .i64 b) (h1 : w4 a ≠ 9221120237041090561) (h2 : w4 b = 9221120237041090561) (hc : (FloatKind.f64.format.order (flb (w4 a)) (flb (w4 b)) == some .lt) = false) : Fc Tryz.prog 9 [.agg ⟨[.int .i64 4, .int .i64 12, .int .i64 a, .int .i64 b]⟩] m fun v m' => v = .bool true ∧ Ext m m' := by
  refine Fc.body (c := _) Tryz.func9 rfl rfl rfl rfl hm ?_
  refine Ce.seq ?_
  refine Ce.region ?_
  refine Ie.box rfl rfl rfl rfl rfl (fun b1 hb1 => ?_)
  refine Ie.p rfl rfl rfl rfl ?_
  refine Ie.nil ?_
  refine Ne.seq ?_
  refine Ce.seq ?_
  refine Ce.region ?_
  refine Ie.fieldAddr rfl rfl rfl rfl rfl fa43_0 ?_
  refine Ie.load rfl rfl rfl rfl rfl ag3 (by first | exact .head | exact .tail .head | exact .tail (.tail .head) | exact .tail (.tail (.tail .head)) | exact .base ‹_› ‹_› (by simp)) rfl ?_
  refine Ie.fieldAddr rfl rfl rfl rfl rfl fa43_1 ?_
  refine Ie.load rfl rfl rfl rfl rfl ag3 (by first | exact .head | exact .tail .head | exact .tail (.tail .head) | exact .tail (.tail (.tail .head)) | exact .base ‹_› ‹_› (by simp)) rfl ?_
  refine Ie.fieldAddr rfl rfl rfl rfl rfl fa43_2 ?_
  refine Ie.load rfl rfl rfl rfl rfl ag2 (by first | exact .head | exact .tail .head | exact .tail (.tail .head) | exact .tail (.tail (.tail .head)) | exact .base ‹_› ‹_› (by simp)) rfl ?_
  refine Ie.fieldAddr rfl rfl rfl rfl rfl fa43_3 ?_
  refine Ie.load rfl rfl rfl rfl rfl ag2 (by first | exact .head | exact .tail .head | exact .tail (.tail .head) | exact .tail (.tail (.tail .head)) | exact .base ‹_› ‹_› (by simp)) rfl ?_
  refine Ie.call _ rfl rfl rfl rfl rfl rfl (fun m hm => Compare_real_12 hm.lole ha hb) ?_
  refine Ie.p rfl rfl rfl rfl ?_
  refine Ie.p rfl rfl rfl rfl ?_
  refine Ie.p rfl rfl rfl rfl ?_
  refine Ie.p rfl rfl rfl rfl ?_
  refine Ie.p rfl rfl rfl rfl ?_
  refine Ie.nil ?_
  refine Ne.seq ?_
  refine Ce.seq ?_
  refine Ce.block ?_
  refine Ce.seq ?_
  refine Ce.region ?_
  refine Ie.call _ rfl rfl rfl rfl rfl rfl (fun m hm => awake_ok (hlay.kr hm)) ?_
  refine Ie.p rfl rfl rfl rfl ?_
  refine Ie.p rfl rfl rfl rfl ?_
  refine Ie.nil ?_
  refine Ne.seq ?_
  refine Ce.cond_false rfl ?_
  refine Ce.seq ?_
  refine Ce.region ?_
  refine Ie.fieldAddr rfl rfl rfl rfl rfl fa43_0 ?_
  refine Ie.load rfl rfl rfl rfl rfl ag3 (by first | exact .head | exact .tail .head | exact .tail (.tail .head) | exact .tail (.tail (.tail .head)) | exact .base ‹_› ‹_› (by simp)) rfl ?_
  refine Ie.call _ rfl rfl rfl rfl rfl rfl (fun m hm => Kind_real hm.lole) ?_
  refine Ie.p rfl rfl rfl rfl ?_
  refine Ie.p rfl rfl rfl rfl ?_
  refine Ie.nil ?_
  refine Ne.seq ?_
  refine Ce.cond_false rfl ?_
  refine Ce.seq ?_
  refine Ce.region ?_
  refine Ie.fieldAddr rfl rfl rfl rfl rfl fa43_1 ?_
  refine Ie.load rfl rfl rfl rfl rfl ag3 (by first | exact .head | exact .tail .head | exact .tail (.tail .head) | exact .tail (.tail (.tail .head)) | exact .base ‹_› ‹_› (by simp)) rfl ?_
  refine Ie.call _ rfl rfl rfl rfl rfl rfl (fun m hm => FitsCompare_12 hm.lole) ?_
  refine Ie.p rfl rfl rfl rfl ?_
  refine Ie.p rfl rfl rfl rfl ?_
  refine Ie.nil ?_
  refine Ne.seq ?_
  refine Ce.cond_false rfl ?_
  refine Ce.skip ?_
  refine Ne.blk ?_
  refine Ne.seq ?_
  refine Ce.seq ?_
  refine Ce.region ?_
  refine Ie.p rfl rfl rfl rfl ?_
  refine Ie.p rfl rfl rfl rfl ?_
  refine Ie.p rfl rfl rfl rfl ?_
  refine Ie.p rfl rfl rfl rfl ?_
  refine Ie.fieldAddr rfl rfl rfl rfl rfl fa43_0 ?_
  refine Ie.load rfl rfl rfl rfl rfl ag3 (by first | exact .head | exact .tail .head | exact .tail (.tail .head) | exact .tail (.tail (.tail .head)) | exact .base ‹_› ‹_› (by simp)) rfl ?_
  refine Ie.fieldAddr rfl rfl rfl rfl rfl fa43_1 ?_
  refine Ie.load rfl rfl rfl rfl rfl ag3 (by first | exact .head | exact .tail .head | exact .tail (.tail .head) | exact .tail (.tail (.tail .head)) | exact .base ‹_› ‹_› (by simp)) rfl ?_
  refine Ie.fieldAddr rfl rfl rfl rfl rfl fa43_2 ?_
  refine Ie.load rfl rfl rfl rfl rfl ag2 (by first | exact .head | exact .tail .head | exact .tail (.tail .head) | exact .tail (.tail (.tail .head)) | exact .base ‹_› ‹_› (by simp)) rfl ?_
  refine Ie.fieldAddr rfl rfl rfl rfl rfl fa43_3 ?_
  refine Ie.load rfl rfl rfl rfl rfl ag2 (by first | exact .head | exact .tail .head | exact .tail (.tail .head) | exact .tail (.tail (.tail .head)) | exact .base ‹_› ‹_› (by simp)) rfl ?_
  refine Ie.call _ rfl rfl rfl rfl rfl rfl (fun m hm => RCompare_nan2_12 hm.lole ha hb h1 h2) ?_
  refine Ie.eqBool rfl rfl rfl rfl Tryz.underlying4 rfl rfl ?_
  refine Ie.as 55 (.bool true) rfl (by rw [hc]; exact congrArg Value.bool (beq_self_eq_true _)) ?_
  refine Ie.p rfl rfl rfl rfl ?_
  refine Ie.p rfl rfl rfl rfl ?_
  refine Ie.nil ?_
  refine Ne.seq ?_
  refine Ce.ret ?_
  exact Re.end_ rfl rfl (fun m hm => ⟨rfl, hm.ext⟩)

theorem compares_real_13 {a b : Int} {m : AW} (hm : m.lo ≤ m.next) (hlay : LaidAt lays m) (ha : Fit .i64 a) (hb : Fit .i64 b) (h1 : w4 a ≠ 9221120237041090561) (h2 : w4 b ≠ 9221120237041090561) (hc : ((FloatKind.f64.format.order (flb (w4 a)) (flb (w4 b)) == some .lt) || (FloatKind.f64.format.order (flb (w4 a)) (flb (w4 b)) == some .eq)) = (!(FloatKind.f64.format.order (flb (w4 a)) (flb (w4 b)) == some .gt))) : Fc Tryz.prog 9 [.agg ⟨[.int .i64 4, .int .i64 13, .int .i64 a, .int .i64 b]⟩] m fun v m' => v = .bool true ∧ Ext m m' := by
  refine Fc.body (c := _) Tryz.func9 rfl rfl rfl rfl hm ?_
  refine Ce.seq ?_
  refine Ce.region ?_
  refine Ie.box rfl rfl rfl rfl rfl (fun b1 hb1 => ?_)
  refine Ie.p rfl rfl rfl rfl ?_
  refine Ie.nil ?_
  refine Ne.seq ?_
  refine Ce.seq ?_
  refine Ce.region ?_
  refine Ie.fieldAddr rfl rfl rfl rfl rfl fa43_0 ?_
  refine Ie.load rfl rfl rfl rfl rfl ag3 (by first | exact .head | exact .tail .head | exact .tail (.tail .head) | exact .tail (.tail (.tail .head)) | exact .base ‹_› ‹_› (by simp)) rfl ?_
  refine Ie.fieldAddr rfl rfl rfl rfl rfl fa43_1 ?_
  refine Ie.load rfl rfl rfl rfl rfl ag3 (by first | exact .head | exact .tail .head | exact .tail (.tail .head) | exact .tail (.tail (.tail .head)) | exact .base ‹_› ‹_› (by simp)) rfl ?_
  refine Ie.fieldAddr rfl rfl rfl rfl rfl fa43_2 ?_
  refine Ie.load rfl rfl rfl rfl rfl ag2 (by first | exact .head | exact .tail .head | exact .tail (.tail .head) | exact .tail (.tail (.tail .head)) | exact .base ‹_› ‹_› (by simp)) rfl ?_
  refine Ie.fieldAddr rfl rfl rfl rfl rfl fa43_3 ?_
  refine Ie.load rfl rfl rfl rfl rfl ag2 (by first | exact .head | exact .tail .head | exact .tail (.tail .head) | exact .tail (.tail (.tail .head)) | exact .base ‹_› ‹_› (by simp)) rfl ?_
  refine Ie.call _ rfl rfl rfl rfl rfl rfl (fun m hm => Compare_real_13 hm.lole ha hb) ?_
  refine Ie.p rfl rfl rfl rfl ?_
  refine Ie.p rfl rfl rfl rfl ?_
  refine Ie.p rfl rfl rfl rfl ?_
  refine Ie.p rfl rfl rfl rfl ?_
  refine Ie.p rfl rfl rfl rfl ?_
  refine Ie.nil ?_
  refine Ne.seq ?_
  refine Ce.seq ?_
  refine Ce.block ?_
  refine Ce.seq ?_
  refine Ce.region ?_
  refine Ie.call _ rfl rfl rfl rfl rfl rfl (fun m hm => awake_ok (hlay.kr hm)) ?_
  refine Ie.p rfl rfl rfl rfl ?_
  refine Ie.p rfl rfl rfl rfl ?_
  refine Ie.nil ?_
  refine Ne.seq ?_
  refine Ce.cond_false rfl ?_
  refine Ce.seq ?_
  refine Ce.region ?_
  refine Ie.fieldAddr rfl rfl rfl rfl rfl fa43_0 ?_
  refine Ie.load rfl rfl rfl rfl rfl ag3 (by first | exact .head | exact .tail .head | exact .tail (.tail .head) | exact .tail (.tail (.tail .head)) | exact .base ‹_› ‹_› (by simp)) rfl ?_
  refine Ie.call _ rfl rfl rfl rfl rfl rfl (fun m hm => Kind_real hm.lole) ?_
  refine Ie.p rfl rfl rfl rfl ?_
  refine Ie.p rfl rfl rfl rfl ?_
  refine Ie.nil ?_
  refine Ne.seq ?_
  refine Ce.cond_false rfl ?_
  refine Ce.seq ?_
  refine Ce.region ?_
  refine Ie.fieldAddr rfl rfl rfl rfl rfl fa43_1 ?_
  refine Ie.load rfl rfl rfl rfl rfl ag3 (by first | exact .head | exact .tail .head | exact .tail (.tail .head) | exact .tail (.tail (.tail .head)) | exact .base ‹_› ‹_› (by simp)) rfl ?_
  refine Ie.call _ rfl rfl rfl rfl rfl rfl (fun m hm => FitsCompare_13 hm.lole) ?_
  refine Ie.p rfl rfl rfl rfl ?_
  refine Ie.p rfl rfl rfl rfl ?_
  refine Ie.nil ?_
  refine Ne.seq ?_
  refine Ce.cond_false rfl ?_
  refine Ce.skip ?_
  refine Ne.blk ?_
  refine Ne.seq ?_
  refine Ce.seq ?_
  refine Ce.region ?_
  refine Ie.p rfl rfl rfl rfl ?_
  refine Ie.p rfl rfl rfl rfl ?_
  refine Ie.p rfl rfl rfl rfl ?_
  refine Ie.p rfl rfl rfl rfl ?_
  refine Ie.fieldAddr rfl rfl rfl rfl rfl fa43_0 ?_
  refine Ie.load rfl rfl rfl rfl rfl ag3 (by first | exact .head | exact .tail .head | exact .tail (.tail .head) | exact .tail (.tail (.tail .head)) | exact .base ‹_› ‹_› (by simp)) rfl ?_
  refine Ie.fieldAddr rfl rfl rfl rfl rfl fa43_1 ?_
  refine Ie.load rfl rfl rfl rfl rfl ag3 (by first | exact .head | exact .tail .head | exact .tail (.tail .head) | exact .tail (.tail (.tail .head)) | exact .base ‹_› ‹_› (by simp)) rfl ?_
  refine Ie.fieldAddr rfl rfl rfl rfl rfl fa43_2 ?_
  refine Ie.load rfl rfl rfl rfl rfl ag2 (by first | exact .head | exact .tail .head | exact .tail (.tail .head) | exact .tail (.tail (.tail .head)) | exact .base ‹_› ‹_› (by simp)) rfl ?_
  refine Ie.fieldAddr rfl rfl rfl rfl rfl fa43_3 ?_
  refine Ie.load rfl rfl rfl rfl rfl ag2 (by first | exact .head | exact .tail .head | exact .tail (.tail .head) | exact .tail (.tail (.tail .head)) | exact .base ‹_› ‹_› (by simp)) rfl ?_
  refine Ie.call _ rfl rfl rfl rfl rfl rfl (fun m hm => RCompare_real_13 hm.lole ha hb h1 h2) ?_
  refine Ie.eqBool rfl rfl rfl rfl Tryz.underlying4 rfl rfl ?_
  refine Ie.as 55 (.bool true) rfl (by rw [hc]; exact congrArg Value.bool (beq_self_eq_true _)) ?_
  refine Ie.p rfl rfl rfl rfl ?_
  refine Ie.p rfl rfl rfl rfl ?_
  refine Ie.nil ?_
  refine Ne.seq ?_
  refine Ce.ret ?_
  exact Re.end_ rfl rfl (fun m hm => ⟨rfl, hm.ext⟩)

theorem compares_nan1_13 {a b : Int} {m : AW} (hm : m.lo ≤ m.next) (hlay : LaidAt lays m) (ha : Fit .i64 a) (hb : Fit .i64 b) (h1 : w4 a = 9221120237041090561) (hc : ((FloatKind.f64.format.order (flb (w4 a)) (flb (w4 b)) == some .lt) || (FloatKind.f64.format.order (flb (w4 a)) (flb (w4 b)) == some .eq)) = false) : Fc Tryz.prog 9 [.agg ⟨[.int .i64 4, .int .i64 13, .int .i64 a, .int .i64 b]⟩] m fun v m' => v = .bool true ∧ Ext m m' := by
  refine Fc.body (c := _) Tryz.func9 rfl rfl rfl rfl hm ?_
  refine Ce.seq ?_
  refine Ce.region ?_
  refine Ie.box rfl rfl rfl rfl rfl (fun b1 hb1 => ?_)
  refine Ie.p rfl rfl rfl rfl ?_
  refine Ie.nil ?_
  refine Ne.seq ?_
  refine Ce.seq ?_
  refine Ce.region ?_
  refine Ie.fieldAddr rfl rfl rfl rfl rfl fa43_0 ?_
  refine Ie.load rfl rfl rfl rfl rfl ag3 (by first | exact .head | exact .tail .head | exact .tail (.tail .head) | exact .tail (.tail (.tail .head)) | exact .base ‹_› ‹_› (by simp)) rfl ?_
  refine Ie.fieldAddr rfl rfl rfl rfl rfl fa43_1 ?_
  refine Ie.load rfl rfl rfl rfl rfl ag3 (by first | exact .head | exact .tail .head | exact .tail (.tail .head) | exact .tail (.tail (.tail .head)) | exact .base ‹_› ‹_› (by simp)) rfl ?_
  refine Ie.fieldAddr rfl rfl rfl rfl rfl fa43_2 ?_
  refine Ie.load rfl rfl rfl rfl rfl ag2 (by first | exact .head | exact .tail .head | exact .tail (.tail .head) | exact .tail (.tail (.tail .head)) | exact .base ‹_› ‹_› (by simp)) rfl ?_
  refine Ie.fieldAddr rfl rfl rfl rfl rfl fa43_3 ?_
  refine Ie.load rfl rfl rfl rfl rfl ag2 (by first | exact .head | exact .tail .head | exact .tail (.tail .head) | exact .tail (.tail (.tail .head)) | exact .base ‹_› ‹_› (by simp)) rfl ?_
  refine Ie.call _ rfl rfl rfl rfl rfl rfl (fun m hm => Compare_real_13 hm.lole ha hb) ?_
  refine Ie.p rfl rfl rfl rfl ?_
  refine Ie.p rfl rfl rfl rfl ?_
  refine Ie.p rfl rfl rfl rfl ?_
  refine Ie.p rfl rfl rfl rfl ?_
  refine Ie.p rfl rfl rfl rfl ?_
  refine Ie.nil ?_
  refine Ne.seq ?_
  refine Ce.seq ?_
  refine Ce.block ?_
  refine Ce.seq ?_
  refine Ce.region ?_
  refine Ie.call _ rfl rfl rfl rfl rfl rfl (fun m hm => awake_ok (hlay.kr hm)) ?_
  refine Ie.p rfl rfl rfl rfl ?_
  refine Ie.p rfl rfl rfl rfl ?_
  refine Ie.nil ?_
  refine Ne.seq ?_
  refine Ce.cond_false rfl ?_
  refine Ce.seq ?_
  refine Ce.region ?_
  refine Ie.fieldAddr rfl rfl rfl rfl rfl fa43_0 ?_
  refine Ie.load rfl rfl rfl rfl rfl ag3 (by first | exact .head | exact .tail .head | exact .tail (.tail .head) | exact .tail (.tail (.tail .head)) | exact .base ‹_› ‹_› (by simp)) rfl ?_
  refine Ie.call _ rfl rfl rfl rfl rfl rfl (fun m hm => Kind_real hm.lole) ?_
  refine Ie.p rfl rfl rfl rfl ?_
  refine Ie.p rfl rfl rfl rfl ?_
  refine Ie.nil ?_
  refine Ne.seq ?_
  refine Ce.cond_false rfl ?_
  refine Ce.seq ?_
  refine Ce.region ?_
  refine Ie.fieldAddr rfl rfl rfl rfl rfl fa43_1 ?_
  refine Ie.load rfl rfl rfl rfl rfl ag3 (by first | exact .head | exact .tail .head | exact .tail (.tail .head) | exact .tail (.tail (.tail .head)) | exact .base ‹_› ‹_› (by simp)) rfl ?_
  refine Ie.call _ rfl rfl rfl rfl rfl rfl (fun m hm => FitsCompare_13 hm.lole) ?_
  refine Ie.p rfl rfl rfl rfl ?_
  refine Ie.p rfl rfl rfl rfl ?_
  refine Ie.nil ?_
  refine Ne.seq ?_
  refine Ce.cond_false rfl ?_
  refine Ce.skip ?_
  refine Ne.blk ?_
  refine Ne.seq ?_
  refine Ce.seq ?_
  refine Ce.region ?_
  refine Ie.p rfl rfl rfl rfl ?_
  refine Ie.p rfl rfl rfl rfl ?_
  refine Ie.p rfl rfl rfl rfl ?_
  refine Ie.p rfl rfl rfl rfl ?_
  refine Ie.fieldAddr rfl rfl rfl rfl rfl fa43_0 ?_
  refine Ie.load rfl rfl rfl rfl rfl ag3 (by first | exact .head | exact .tail .head | exact .tail (.tail .head) | exact .tail (.tail (.tail .head)) | exact .base ‹_› ‹_› (by simp)) rfl ?_
  refine Ie.fieldAddr rfl rfl rfl rfl rfl fa43_1 ?_
  refine Ie.load rfl rfl rfl rfl rfl ag3 (by first | exact .head | exact .tail .head | exact .tail (.tail .head) | exact .tail (.tail (.tail .head)) | exact .base ‹_› ‹_› (by simp)) rfl ?_
  refine Ie.fieldAddr rfl rfl rfl rfl rfl fa43_2 ?_
  refine Ie.load rfl rfl rfl rfl rfl ag2 (by first | exact .head | exact .tail .head | exact .tail (.tail .head) | exact .tail (.tail (.tail .head)) | exact .base ‹_› ‹_› (by simp)) rfl ?_
  refine Ie.fieldAddr rfl rfl rfl rfl rfl fa43_3 ?_
  refine Ie.load rfl rfl rfl rfl rfl ag2 (by first | exact .head | exact .tail .head | exact .tail (.tail .head) | exact .tail (.tail (.tail .head)) | exact .base ‹_› ‹_› (by simp)) rfl ?_
  refine Ie.call _ rfl rfl rfl rfl rfl rfl (fun m hm => RCompare_nan1_13 hm.lole ha hb h1) ?_
  refine Ie.eqBool rfl rfl rfl rfl Tryz.underlying4 rfl rfl ?_
  refine Ie.as 55 (.bool true) rfl (by rw [hc]; exact congrArg Value.bool (beq_self_eq_true _)) ?_
  refine Ie.p rfl rfl rfl rfl ?_
  refine Ie.p rfl rfl rfl rfl ?_
  refine Ie.nil ?_
  refine Ne.seq ?_
  refine Ce.ret ?_
  exact Re.end_ rfl rfl (fun m hm => ⟨rfl, hm.ext⟩)

theorem compares_nan2_13 {a b : Int} {m : AW} (hm : m.lo ≤ m.next) (hlay : LaidAt lays m) (ha : Fit .i64 a) (hb : Fit .i64 b) (h1 : w4 a ≠ 9221120237041090561) (h2 : w4 b = 9221120237041090561) (hc : ((FloatKind.f64.format.order (flb (w4 a)) (flb (w4 b)) == some .lt) || (FloatKind.f64.format.order (flb (w4 a)) (flb (w4 b)) == some .eq)) = false) : Fc Tryz.prog 9 [.agg ⟨[.int .i64 4, .int .i64 13, .int .i64 a, .int .i64 b]⟩] m fun v m' => v = .bool true ∧ Ext m m' := by
  refine Fc.body (c := _) Tryz.func9 rfl rfl rfl rfl hm ?_
  refine Ce.seq ?_
  refine Ce.region ?_
  refine Ie.box rfl rfl rfl rfl rfl (fun b1 hb1 => ?_)
  refine Ie.p rfl rfl rfl rfl ?_
  refine Ie.nil ?_
  refine Ne.seq ?_
  refine Ce.seq ?_
  refine Ce.region ?_
  refine Ie.fieldAddr rfl rfl rfl rfl rfl fa43_0 ?_
  refine Ie.load rfl rfl rfl rfl rfl ag3 (by first | exact .head | exact .tail .head | exact .tail (.tail .head) | exact .tail (.tail (.tail .head)) | exact .base ‹_› ‹_› (by simp)) rfl ?_
  refine Ie.fieldAddr rfl rfl rfl rfl rfl fa43_1 ?_
  refine Ie.load rfl rfl rfl rfl rfl ag3 (by first | exact .head | exact .tail .head | exact .tail (.tail .head) | exact .tail (.tail (.tail .head)) | exact .base ‹_› ‹_› (by simp)) rfl ?_
  refine Ie.fieldAddr rfl rfl rfl rfl rfl fa43_2 ?_
  refine Ie.load rfl rfl rfl rfl rfl ag2 (by first | exact .head | exact .tail .head | exact .tail (.tail .head) | exact .tail (.tail (.tail .head)) | exact .base ‹_› ‹_› (by simp)) rfl ?_
  refine Ie.fieldAddr rfl rfl rfl rfl rfl fa43_3 ?_
  refine Ie.load rfl rfl rfl rfl rfl ag2 (by first | exact .head | exact .tail .head | exact .tail (.tail .head) | exact .tail (.tail (.tail .head)) | exact .base ‹_› ‹_› (by simp)) rfl ?_
  refine Ie.call _ rfl rfl rfl rfl rfl rfl (fun m hm => Compare_real_13 hm.lole ha hb) ?_
  refine Ie.p rfl rfl rfl rfl ?_
  refine Ie.p rfl rfl rfl rfl ?_
  refine Ie.p rfl rfl rfl rfl ?_
  refine Ie.p rfl rfl rfl rfl ?_
  refine Ie.p rfl rfl rfl rfl ?_
  refine Ie.nil ?_
  refine Ne.seq ?_
  refine Ce.seq ?_
  refine Ce.block ?_
  refine Ce.seq ?_
  refine Ce.region ?_
  refine Ie.call _ rfl rfl rfl rfl rfl rfl (fun m hm => awake_ok (hlay.kr hm)) ?_
  refine Ie.p rfl rfl rfl rfl ?_
  refine Ie.p rfl rfl rfl rfl ?_
  refine Ie.nil ?_
  refine Ne.seq ?_
  refine Ce.cond_false rfl ?_
  refine Ce.seq ?_
  refine Ce.region ?_
  refine Ie.fieldAddr rfl rfl rfl rfl rfl fa43_0 ?_
  refine Ie.load rfl rfl rfl rfl rfl ag3 (by first | exact .head | exact .tail .head | exact .tail (.tail .head) | exact .tail (.tail (.tail .head)) | exact .base ‹_› ‹_› (by simp)) rfl ?_
  refine Ie.call _ rfl rfl rfl rfl rfl rfl (fun m hm => Kind_real hm.lole) ?_
  refine Ie.p rfl rfl rfl rfl ?_
  refine Ie.p rfl rfl rfl rfl ?_
  refine Ie.nil ?_
  refine Ne.seq ?_
  refine Ce.cond_false rfl ?_
  refine Ce.seq ?_
  refine Ce.region ?_
  refine Ie.fieldAddr rfl rfl rfl rfl rfl fa43_1 ?_
  refine Ie.load rfl rfl rfl rfl rfl ag3 (by first | exact .head | exact .tail .head | exact .tail (.tail .head) | exact .tail (.tail (.tail .head)) | exact .base ‹_› ‹_› (by simp)) rfl ?_
  refine Ie.call _ rfl rfl rfl rfl rfl rfl (fun m hm => FitsCompare_13 hm.lole) ?_
  refine Ie.p rfl rfl rfl rfl ?_
  refine Ie.p rfl rfl rfl rfl ?_
  refine Ie.nil ?_
  refine Ne.seq ?_
  refine Ce.cond_false rfl ?_
  refine Ce.skip ?_
  refine Ne.blk ?_
  refine Ne.seq ?_
  refine Ce.seq ?_
  refine Ce.region ?_
  refine Ie.p rfl rfl rfl rfl ?_
  refine Ie.p rfl rfl rfl rfl ?_
  refine Ie.p rfl rfl rfl rfl ?_
  refine Ie.p rfl rfl rfl rfl ?_
  refine Ie.fieldAddr rfl rfl rfl rfl rfl fa43_0 ?_
  refine Ie.load rfl rfl rfl rfl rfl ag3 (by first | exact .head | exact .tail .head | exact .tail (.tail .head) | exact .tail (.tail (.tail .head)) | exact .base ‹_› ‹_› (by simp)) rfl ?_
  refine Ie.fieldAddr rfl rfl rfl rfl rfl fa43_1 ?_
  refine Ie.load rfl rfl rfl rfl rfl ag3 (by first | exact .head | exact .tail .head | exact .tail (.tail .head) | exact .tail (.tail (.tail .head)) | exact .base ‹_› ‹_› (by simp)) rfl ?_
  refine Ie.fieldAddr rfl rfl rfl rfl rfl fa43_2 ?_
  refine Ie.load rfl rfl rfl rfl rfl ag2 (by first | exact .head | exact .tail .head | exact .tail (.tail .head) | exact .tail (.tail (.tail .head)) | exact .base ‹_› ‹_› (by simp)) rfl ?_
  refine Ie.fieldAddr rfl rfl rfl rfl rfl fa43_3 ?_
  refine Ie.load rfl rfl rfl rfl rfl ag2 (by first | exact .head | exact .tail .head | exact .tail (.tail .head) | exact .tail (.tail (.tail .head)) | exact .base ‹_› ‹_› (by simp)) rfl ?_
  refine Ie.call _ rfl rfl rfl rfl rfl rfl (fun m hm => RCompare_nan2_13 hm.lole ha hb h1 h2) ?_
  refine Ie.eqBool rfl rfl rfl rfl Tryz.underlying4 rfl rfl ?_
  refine Ie.as 55 (.bool true) rfl (by rw [hc]; exact congrArg Value.bool (beq_self_eq_true _)) ?_
  refine Ie.p rfl rfl rfl rfl ?_
  refine Ie.p rfl rfl rfl rfl ?_
  refine Ie.nil ?_
  refine Ne.seq ?_
  refine Ce.ret ?_
  exact Re.end_ rfl rfl (fun m hm => ⟨rfl, hm.ext⟩)

theorem compares_real_14 {a b : Int} {m : AW} (hm : m.lo ≤ m.next) (hlay : LaidAt lays m) (ha : Fit .i64 a) (hb : Fit .i64 b) (h1 : w4 a ≠ 9221120237041090561) (h2 : w4 b ≠ 9221120237041090561) (hc : (FloatKind.f64.format.order (flb (w4 b)) (flb (w4 a)) == some .lt) = (FloatKind.f64.format.order (flb (w4 a)) (flb (w4 b)) == some .gt)) : Fc Tryz.prog 9 [.agg ⟨[.int .i64 4, .int .i64 14, .int .i64 a, .int .i64 b]⟩] m fun v m' => v = .bool true ∧ Ext m m' := by
  refine Fc.body (c := _) Tryz.func9 rfl rfl rfl rfl hm ?_
  refine Ce.seq ?_
  refine Ce.region ?_
  refine Ie.box rfl rfl rfl rfl rfl (fun b1 hb1 => ?_)
  refine Ie.p rfl rfl rfl rfl ?_
  refine Ie.nil ?_
  refine Ne.seq ?_
  refine Ce.seq ?_
  refine Ce.region ?_
  refine Ie.fieldAddr rfl rfl rfl rfl rfl fa43_0 ?_
  refine Ie.load rfl rfl rfl rfl rfl ag3 (by first | exact .head | exact .tail .head | exact .tail (.tail .head) | exact .tail (.tail (.tail .head)) | exact .base ‹_› ‹_› (by simp)) rfl ?_
  refine Ie.fieldAddr rfl rfl rfl rfl rfl fa43_1 ?_
  refine Ie.load rfl rfl rfl rfl rfl ag3 (by first | exact .head | exact .tail .head | exact .tail (.tail .head) | exact .tail (.tail (.tail .head)) | exact .base ‹_› ‹_› (by simp)) rfl ?_
  refine Ie.fieldAddr rfl rfl rfl rfl rfl fa43_2 ?_
  refine Ie.load rfl rfl rfl rfl rfl ag2 (by first | exact .head | exact .tail .head | exact .tail (.tail .head) | exact .tail (.tail (.tail .head)) | exact .base ‹_› ‹_› (by simp)) rfl ?_
  refine Ie.fieldAddr rfl rfl rfl rfl rfl fa43_3 ?_
  refine Ie.load rfl rfl rfl rfl rfl ag2 (by first | exact .head | exact .tail .head | exact .tail (.tail .head) | exact .tail (.tail (.tail .head)) | exact .base ‹_› ‹_› (by simp)) rfl ?_
  refine Ie.call _ rfl rfl rfl rfl rfl rfl (fun m hm => Compare_real_14 hm.lole ha hb) ?_
  refine Ie.p rfl rfl rfl rfl ?_
  refine Ie.p rfl rfl rfl rfl ?_
  refine Ie.p rfl rfl rfl rfl ?_
  refine Ie.p rfl rfl rfl rfl ?_
  refine Ie.p rfl rfl rfl rfl ?_
  refine Ie.nil ?_
  refine Ne.seq ?_
  refine Ce.seq ?_
  refine Ce.block ?_
  refine Ce.seq ?_
  refine Ce.region ?_
  refine Ie.call _ rfl rfl rfl rfl rfl rfl (fun m hm => awake_ok (hlay.kr hm)) ?_
  refine Ie.p rfl rfl rfl rfl ?_
  refine Ie.p rfl rfl rfl rfl ?_
  refine Ie.nil ?_
  refine Ne.seq ?_
  refine Ce.cond_false rfl ?_
  refine Ce.seq ?_
  refine Ce.region ?_
  refine Ie.fieldAddr rfl rfl rfl rfl rfl fa43_0 ?_
  refine Ie.load rfl rfl rfl rfl rfl ag3 (by first | exact .head | exact .tail .head | exact .tail (.tail .head) | exact .tail (.tail (.tail .head)) | exact .base ‹_› ‹_› (by simp)) rfl ?_
  refine Ie.call _ rfl rfl rfl rfl rfl rfl (fun m hm => Kind_real hm.lole) ?_
  refine Ie.p rfl rfl rfl rfl ?_
  refine Ie.p rfl rfl rfl rfl ?_
  refine Ie.nil ?_
  refine Ne.seq ?_
  refine Ce.cond_false rfl ?_
  refine Ce.seq ?_
  refine Ce.region ?_
  refine Ie.fieldAddr rfl rfl rfl rfl rfl fa43_1 ?_
  refine Ie.load rfl rfl rfl rfl rfl ag3 (by first | exact .head | exact .tail .head | exact .tail (.tail .head) | exact .tail (.tail (.tail .head)) | exact .base ‹_› ‹_› (by simp)) rfl ?_
  refine Ie.call _ rfl rfl rfl rfl rfl rfl (fun m hm => FitsCompare_14 hm.lole) ?_
  refine Ie.p rfl rfl rfl rfl ?_
  refine Ie.p rfl rfl rfl rfl ?_
  refine Ie.nil ?_
  refine Ne.seq ?_
  refine Ce.cond_false rfl ?_
  refine Ce.skip ?_
  refine Ne.blk ?_
  refine Ne.seq ?_
  refine Ce.seq ?_
  refine Ce.region ?_
  refine Ie.p rfl rfl rfl rfl ?_
  refine Ie.p rfl rfl rfl rfl ?_
  refine Ie.p rfl rfl rfl rfl ?_
  refine Ie.p rfl rfl rfl rfl ?_
  refine Ie.fieldAddr rfl rfl rfl rfl rfl fa43_0 ?_
  refine Ie.load rfl rfl rfl rfl rfl ag3 (by first | exact .head | exact .tail .head | exact .tail (.tail .head) | exact .tail (.tail (.tail .head)) | exact .base ‹_› ‹_› (by simp)) rfl ?_
  refine Ie.fieldAddr rfl rfl rfl rfl rfl fa43_1 ?_
  refine Ie.load rfl rfl rfl rfl rfl ag3 (by first | exact .head | exact .tail .head | exact .tail (.tail .head) | exact .tail (.tail (.tail .head)) | exact .base ‹_› ‹_› (by simp)) rfl ?_
  refine Ie.fieldAddr rfl rfl rfl rfl rfl fa43_2 ?_
  refine Ie.load rfl rfl rfl rfl rfl ag2 (by first | exact .head | exact .tail .head | exact .tail (.tail .head) | exact .tail (.tail (.tail .head)) | exact .base ‹_› ‹_› (by simp)) rfl ?_
  refine Ie.fieldAddr rfl rfl rfl rfl rfl fa43_3 ?_
  refine Ie.load rfl rfl rfl rfl rfl ag2 (by first | exact .head | exact .tail .head | exact .tail (.tail .head) | exact .tail (.tail (.tail .head)) | exact .base ‹_› ‹_› (by simp)) rfl ?_
  refine Ie.call _ rfl rfl rfl rfl rfl rfl (fun m hm => RCompare_real_14 hm.lole ha hb h1 h2) ?_
  refine Ie.eqBool rfl rfl rfl rfl Tryz.underlying4 rfl rfl ?_
  refine Ie.as 55 (.bool true) rfl (by rw [hc]; exact congrArg Value.bool (beq_self_eq_true _)) ?_
  refine Ie.p rfl rfl rfl rfl ?_
  refine Ie.p rfl rfl rfl rfl ?_
  refine Ie.nil ?_
  refine Ne.seq ?_
  refine Ce.ret ?_
  exact Re.end_ rfl rfl (fun m hm => ⟨rfl, hm.ext⟩)

theorem compares_nan1_14 {a b : Int} {m : AW} (hm : m.lo ≤ m.next) (hlay : LaidAt lays m) (ha : Fit .i64 a) (hb : Fit .i64 b) (h1 : w4 a = 9221120237041090561) (hc : (FloatKind.f64.format.order (flb (w4 b)) (flb (w4 a)) == some .lt) = false) : Fc Tryz.prog 9 [.agg ⟨[.int .i64 4, .int .i64 14, .int .i64 a, .int .i64 b]⟩] m fun v m' => v = .bool true ∧ Ext m m' := by
  refine Fc.body (c := _) Tryz.func9 rfl rfl rfl rfl hm ?_
  refine Ce.seq ?_
  refine Ce.region ?_
  refine Ie.box rfl rfl rfl rfl rfl (fun b1 hb1 => ?_)
  refine Ie.p rfl rfl rfl rfl ?_
  refine Ie.nil ?_
  refine Ne.seq ?_
  refine Ce.seq ?_
  refine Ce.region ?_
  refine Ie.fieldAddr rfl rfl rfl rfl rfl fa43_0 ?_
  refine Ie.load rfl rfl rfl rfl rfl ag3 (by first | exact .head | exact .tail .head | exact .tail (.tail .head) | exact .tail (.tail (.tail .head)) | exact .base ‹_› ‹_› (by simp)) rfl ?_
  refine Ie.fieldAddr rfl rfl rfl rfl rfl fa43_1 ?_
  refine Ie.load rfl rfl rfl rfl rfl ag3 (by first | exact .head | exact .tail .head | exact .tail (.tail .head) | exact .tail (.tail (.tail .head)) | exact .base ‹_› ‹_› (by simp)) rfl ?_
  refine Ie.fieldAddr rfl rfl rfl rfl rfl fa43_2 ?_
  refine Ie.load rfl rfl rfl rfl rfl ag2 (by first | exact .head | exact .tail .head | exact .tail (.tail .head) | exact .tail (.tail (.tail .head)) | exact .base ‹_› ‹_› (by simp)) rfl ?_
  refine Ie.fieldAddr rfl rfl rfl rfl rfl fa43_3 ?_
  refine Ie.load rfl rfl rfl rfl rfl ag2 (by first | exact .head | exact .tail .head | exact .tail (.tail .head) | exact .tail (.tail (.tail .head)) | exact .base ‹_› ‹_› (by simp)) rfl ?_
  refine Ie.call _ rfl rfl rfl rfl rfl rfl (fun m hm => Compare_real_14 hm.lole ha hb) ?_
  refine Ie.p rfl rfl rfl rfl ?_
  refine Ie.p rfl rfl rfl rfl ?_
  refine Ie.p rfl rfl rfl rfl ?_
  refine Ie.p rfl rfl rfl rfl ?_
  refine Ie.p rfl rfl rfl rfl ?_
  refine Ie.nil ?_
  refine Ne.seq ?_
  refine Ce.seq ?_
  refine Ce.block ?_
  refine Ce.seq ?_
  refine Ce.region ?_
  refine Ie.call _ rfl rfl rfl rfl rfl rfl (fun m hm => awake_ok (hlay.kr hm)) ?_
  refine Ie.p rfl rfl rfl rfl ?_
  refine Ie.p rfl rfl rfl rfl ?_
  refine Ie.nil ?_
  refine Ne.seq ?_
  refine Ce.cond_false rfl ?_
  refine Ce.seq ?_
  refine Ce.region ?_
  refine Ie.fieldAddr rfl rfl rfl rfl rfl fa43_0 ?_
  refine Ie.load rfl rfl rfl rfl rfl ag3 (by first | exact .head | exact .tail .head | exact .tail (.tail .head) | exact .tail (.tail (.tail .head)) | exact .base ‹_› ‹_› (by simp)) rfl ?_
  refine Ie.call _ rfl rfl rfl rfl rfl rfl (fun m hm => Kind_real hm.lole) ?_
  refine Ie.p rfl rfl rfl rfl ?_
  refine Ie.p rfl rfl rfl rfl ?_
  refine Ie.nil ?_
  refine Ne.seq ?_
  refine Ce.cond_false rfl ?_
  refine Ce.seq ?_
  refine Ce.region ?_
  refine Ie.fieldAddr rfl rfl rfl rfl rfl fa43_1 ?_
  refine Ie.load rfl rfl rfl rfl rfl ag3 (by first | exact .head | exact .tail .head | exact .tail (.tail .head) | exact .tail (.tail (.tail .head)) | exact .base ‹_› ‹_› (by simp)) rfl ?_
  refine Ie.call _ rfl rfl rfl rfl rfl rfl (fun m hm => FitsCompare_14 hm.lole) ?_
  refine Ie.p rfl rfl rfl rfl ?_
  refine Ie.p rfl rfl rfl rfl ?_
  refine Ie.nil ?_
  refine Ne.seq ?_
  refine Ce.cond_false rfl ?_
  refine Ce.skip ?_
  refine Ne.blk ?_
  refine Ne.seq ?_
  refine Ce.seq ?_
  refine Ce.region ?_
  refine Ie.p rfl rfl rfl rfl ?_
  refine Ie.p rfl rfl rfl rfl ?_
  refine Ie.p rfl rfl rfl rfl ?_
  refine Ie.p rfl rfl rfl rfl ?_
  refine Ie.fieldAddr rfl rfl rfl rfl rfl fa43_0 ?_
  refine Ie.load rfl rfl rfl rfl rfl ag3 (by first | exact .head | exact .tail .head | exact .tail (.tail .head) | exact .tail (.tail (.tail .head)) | exact .base ‹_› ‹_› (by simp)) rfl ?_
  refine Ie.fieldAddr rfl rfl rfl rfl rfl fa43_1 ?_
  refine Ie.load rfl rfl rfl rfl rfl ag3 (by first | exact .head | exact .tail .head | exact .tail (.tail .head) | exact .tail (.tail (.tail .head)) | exact .base ‹_› ‹_› (by simp)) rfl ?_
  refine Ie.fieldAddr rfl rfl rfl rfl rfl fa43_2 ?_
  refine Ie.load rfl rfl rfl rfl rfl ag2 (by first | exact .head | exact .tail .head | exact .tail (.tail .head) | exact .tail (.tail (.tail .head)) | exact .base ‹_› ‹_› (by simp)) rfl ?_
  refine Ie.fieldAddr rfl rfl rfl rfl rfl fa43_3 ?_
  refine Ie.load rfl rfl rfl rfl rfl ag2 (by first | exact .head | exact .tail .head | exact .tail (.tail .head) | exact .tail (.tail (.tail .head)) | exact .base ‹_› ‹_› (by simp)) rfl ?_
  refine Ie.call _ rfl rfl rfl rfl rfl rfl (fun m hm => RCompare_nan1_14 hm.lole ha hb h1) ?_
  refine Ie.eqBool rfl rfl rfl rfl Tryz.underlying4 rfl rfl ?_
  refine Ie.as 55 (.bool true) rfl (by rw [hc]; exact congrArg Value.bool (beq_self_eq_true _)) ?_
  refine Ie.p rfl rfl rfl rfl ?_
  refine Ie.p rfl rfl rfl rfl ?_
  refine Ie.nil ?_
  refine Ne.seq ?_
  refine Ce.ret ?_
  exact Re.end_ rfl rfl (fun m hm => ⟨rfl, hm.ext⟩)

theorem compares_nan2_14 {a b : Int} {m : AW} (hm : m.lo ≤ m.next) (hlay : LaidAt lays m) (ha : Fit .i64 a) (hb : Fit .i64 b) (h1 : w4 a ≠ 9221120237041090561) (h2 : w4 b = 9221120237041090561) (hc : (FloatKind.f64.format.order (flb (w4 b)) (flb (w4 a)) == some .lt) = false) : Fc Tryz.prog 9 [.agg ⟨[.int .i64 4, .int .i64 14, .int .i64 a, .int .i64 b]⟩] m fun v m' => v = .bool true ∧ Ext m m' := by
  refine Fc.body (c := _) Tryz.func9 rfl rfl rfl rfl hm ?_
  refine Ce.seq ?_
  refine Ce.region ?_
  refine Ie.box rfl rfl rfl rfl rfl (fun b1 hb1 => ?_)
  refine Ie.p rfl rfl rfl rfl ?_
  refine Ie.nil ?_
  refine Ne.seq ?_
  refine Ce.seq ?_
  refine Ce.region ?_
  refine Ie.fieldAddr rfl rfl rfl rfl rfl fa43_0 ?_
  refine Ie.load rfl rfl rfl rfl rfl ag3 (by first | exact .head | exact .tail .head | exact .tail (.tail .head) | exact .tail (.tail (.tail .head)) | exact .base ‹_› ‹_› (by simp)) rfl ?_
  refine Ie.fieldAddr rfl rfl rfl rfl rfl fa43_1 ?_
  refine Ie.load rfl rfl rfl rfl rfl ag3 (by first | exact .head | exact .tail .head | exact .tail (.tail .head) | exact .tail (.tail (.tail .head)) | exact .base ‹_› ‹_› (by simp)) rfl ?_
  refine Ie.fieldAddr rfl rfl rfl rfl rfl fa43_2 ?_
  refine Ie.load rfl rfl rfl rfl rfl ag2 (by first | exact .head | exact .tail .head | exact .tail (.tail .head) | exact .tail (.tail (.tail .head)) | exact .base ‹_› ‹_› (by simp)) rfl ?_
  refine Ie.fieldAddr rfl rfl rfl rfl rfl fa43_3 ?_
  refine Ie.load rfl rfl rfl rfl rfl ag2 (by first | exact .head | exact .tail .head | exact .tail (.tail .head) | exact .tail (.tail (.tail .head)) | exact .base ‹_› ‹_› (by simp)) rfl ?_
  refine Ie.call _ rfl rfl rfl rfl rfl rfl (fun m hm => Compare_real_14 hm.lole ha hb) ?_
  refine Ie.p rfl rfl rfl rfl ?_
  refine Ie.p rfl rfl rfl rfl ?_
  refine Ie.p rfl rfl rfl rfl ?_
  refine Ie.p rfl rfl rfl rfl ?_
  refine Ie.p rfl rfl rfl rfl ?_
  refine Ie.nil ?_
  refine Ne.seq ?_
  refine Ce.seq ?_
  refine Ce.block ?_
  refine Ce.seq ?_
  refine Ce.region ?_
  refine Ie.call _ rfl rfl rfl rfl rfl rfl (fun m hm => awake_ok (hlay.kr hm)) ?_
  refine Ie.p rfl rfl rfl rfl ?_
  refine Ie.p rfl rfl rfl rfl ?_
  refine Ie.nil ?_
  refine Ne.seq ?_
  refine Ce.cond_false rfl ?_
  refine Ce.seq ?_
  refine Ce.region ?_
  refine Ie.fieldAddr rfl rfl rfl rfl rfl fa43_0 ?_
  refine Ie.load rfl rfl rfl rfl rfl ag3 (by first | exact .head | exact .tail .head | exact .tail (.tail .head) | exact .tail (.tail (.tail .head)) | exact .base ‹_› ‹_› (by simp)) rfl ?_
  refine Ie.call _ rfl rfl rfl rfl rfl rfl (fun m hm => Kind_real hm.lole) ?_
  refine Ie.p rfl rfl rfl rfl ?_
  refine Ie.p rfl rfl rfl rfl ?_
  refine Ie.nil ?_
  refine Ne.seq ?_
  refine Ce.cond_false rfl ?_
  refine Ce.seq ?_
  refine Ce.region ?_
  refine Ie.fieldAddr rfl rfl rfl rfl rfl fa43_1 ?_
  refine Ie.load rfl rfl rfl rfl rfl ag3 (by first | exact .head | exact .tail .head | exact .tail (.tail .head) | exact .tail (.tail (.tail .head)) | exact .base ‹_› ‹_› (by simp)) rfl ?_
  refine Ie.call _ rfl rfl rfl rfl rfl rfl (fun m hm => FitsCompare_14 hm.lole) ?_
  refine Ie.p rfl rfl rfl rfl ?_
  refine Ie.p rfl rfl rfl rfl ?_
  refine Ie.nil ?_
  refine Ne.seq ?_
  refine Ce.cond_false rfl ?_
  refine Ce.skip ?_
  refine Ne.blk ?_
  refine Ne.seq ?_
  refine Ce.seq ?_
  refine Ce.region ?_
  refine Ie.p rfl rfl rfl rfl ?_
  refine Ie.p rfl rfl rfl rfl ?_
  refine Ie.p rfl rfl rfl rfl ?_
  refine Ie.p rfl rfl rfl rfl ?_
  refine Ie.fieldAddr rfl rfl rfl rfl rfl fa43_0 ?_
  refine Ie.load rfl rfl rfl rfl rfl ag3 (by first | exact .head | exact .tail .head | exact .tail (.tail .head) | exact .tail (.tail (.tail .head)) | exact .base ‹_› ‹_› (by simp)) rfl ?_
  refine Ie.fieldAddr rfl rfl rfl rfl rfl fa43_1 ?_
  refine Ie.load rfl rfl rfl rfl rfl ag3 (by first | exact .head | exact .tail .head | exact .tail (.tail .head) | exact .tail (.tail (.tail .head)) | exact .base ‹_› ‹_› (by simp)) rfl ?_
  refine Ie.fieldAddr rfl rfl rfl rfl rfl fa43_2 ?_
  refine Ie.load rfl rfl rfl rfl rfl ag2 (by first | exact .head | exact .tail .head | exact .tail (.tail .head) | exact .tail (.tail (.tail .head)) | exact .base ‹_› ‹_› (by simp)) rfl ?_
  refine Ie.fieldAddr rfl rfl rfl rfl rfl fa43_3 ?_
  refine Ie.load rfl rfl rfl rfl rfl ag2 (by first | exact .head | exact .tail .head | exact .tail (.tail .head) | exact .tail (.tail (.tail .head)) | exact .base ‹_› ‹_› (by simp)) rfl ?_
  refine Ie.call _ rfl rfl rfl rfl rfl rfl (fun m hm => RCompare_nan2_14 hm.lole ha hb h1 h2) ?_
  refine Ie.eqBool rfl rfl rfl rfl Tryz.underlying4 rfl rfl ?_
  refine Ie.as 55 (.bool true) rfl (by rw [hc]; exact congrArg Value.bool (beq_self_eq_true _)) ?_
  refine Ie.p rfl rfl rfl rfl ?_
  refine Ie.p rfl rfl rfl rfl ?_
  refine Ie.nil ?_
  refine Ne.seq ?_
  refine Ce.ret ?_
  exact Re.end_ rfl rfl (fun m hm => ⟨rfl, hm.ext⟩)

theorem compares_real_15 {a b : Int} {m : AW} (hm : m.lo ≤ m.next) (hlay : LaidAt lays m) (ha : Fit .i64 a) (hb : Fit .i64 b) (h1 : w4 a ≠ 9221120237041090561) (h2 : w4 b ≠ 9221120237041090561) (hc : ((FloatKind.f64.format.order (flb (w4 b)) (flb (w4 a)) == some .lt) || (FloatKind.f64.format.order (flb (w4 a)) (flb (w4 b)) == some .eq)) = (!(FloatKind.f64.format.order (flb (w4 a)) (flb (w4 b)) == some .lt))) : Fc Tryz.prog 9 [.agg ⟨[.int .i64 4, .int .i64 15, .int .i64 a, .int .i64 b]⟩] m fun v m' => v = .bool true ∧ Ext m m' := by
  refine Fc.body (c := _) Tryz.func9 rfl rfl rfl rfl hm ?_
  refine Ce.seq ?_
  refine Ce.region ?_
  refine Ie.box rfl rfl rfl rfl rfl (fun b1 hb1 => ?_)
  refine Ie.p rfl rfl rfl rfl ?_
  refine Ie.nil ?_
  refine Ne.seq ?_
  refine Ce.seq ?_
  refine Ce.region ?_
  refine Ie.fieldAddr rfl rfl rfl rfl rfl fa43_0 ?_
  refine Ie.load rfl rfl rfl rfl rfl ag3 (by first | exact .head | exact .tail .head | exact .tail (.tail .head) | exact .tail (.tail (.tail .head)) | exact .base ‹_› ‹_› (by simp)) rfl ?_
  refine Ie.fieldAddr rfl rfl rfl rfl rfl fa43_1 ?_
  refine Ie.load rfl rfl rfl rfl rfl ag3 (by first | exact .head | exact .tail .head | exact .tail (.tail .head) | exact .tail (.tail (.tail .head)) | exact .base ‹_› ‹_› (by simp)) rfl ?_
  refine Ie.fieldAddr rfl rfl rfl rfl rfl fa43_2 ?_
  refine Ie.load rfl rfl rfl rfl rfl ag2 (by first | exact .head | exact .tail .head | exact .tail (.tail .head) | exact .tail (.tail (.tail .head)) | exact .base ‹_› ‹_› (by simp)) rfl ?_
  refine Ie.fieldAddr rfl rfl rfl rfl rfl fa43_3 ?_
  refine Ie.load rfl rfl rfl rfl rfl ag2 (by first | exact .head | exact .tail .head | exact .tail (.tail .head) | exact .tail (.tail (.tail .head)) | exact .base ‹_› ‹_› (by simp)) rfl ?_
  refine Ie.call _ rfl rfl rfl rfl rfl rfl (fun m hm => Compare_real_15 hm.lole ha hb) ?_
  refine Ie.p rfl rfl rfl rfl ?_
  refine Ie.p rfl rfl rfl rfl ?_
  refine Ie.p rfl rfl rfl rfl ?_
  refine Ie.p rfl rfl rfl rfl ?_
  refine Ie.p rfl rfl rfl rfl ?_
  refine Ie.nil ?_
  refine Ne.seq ?_
  refine Ce.seq ?_
  refine Ce.block ?_
  refine Ce.seq ?_
  refine Ce.region ?_
  refine Ie.call _ rfl rfl rfl rfl rfl rfl (fun m hm => awake_ok (hlay.kr hm)) ?_
  refine Ie.p rfl rfl rfl rfl ?_
  refine Ie.p rfl rfl rfl rfl ?_
  refine Ie.nil ?_
  refine Ne.seq ?_
  refine Ce.cond_false rfl ?_
  refine Ce.seq ?_
  refine Ce.region ?_
  refine Ie.fieldAddr rfl rfl rfl rfl rfl fa43_0 ?_
  refine Ie.load rfl rfl rfl rfl rfl ag3 (by first | exact .head | exact .tail .head | exact .tail (.tail .head) | exact .tail (.tail (.tail .head)) | exact .base ‹_› ‹_› (by simp)) rfl ?_
  refine Ie.call _ rfl rfl rfl rfl rfl rfl (fun m hm => Kind_real hm.lole) ?_
  refine Ie.p rfl rfl rfl rfl ?_
  refine Ie.p rfl rfl rfl rfl ?_
  refine Ie.nil ?_
  refine Ne.seq ?_
  refine Ce.cond_false rfl ?_
  refine Ce.seq ?_
  refine Ce.region ?_
  refine Ie.fieldAddr rfl rfl rfl rfl rfl fa43_1 ?_
  refine Ie.load rfl rfl rfl rfl rfl ag3 (by first | exact .head | exact .tail .head | exact .tail (.tail .head) | exact .tail (.tail (.tail .head)) | exact .base ‹_› ‹_› (by simp)) rfl ?_
  refine Ie.call _ rfl rfl rfl rfl rfl rfl (fun m hm => FitsCompare_15 hm.lole) ?_
  refine Ie.p rfl rfl rfl rfl ?_
  refine Ie.p rfl rfl rfl rfl ?_
  refine Ie.nil ?_
  refine Ne.seq ?_
  refine Ce.cond_false rfl ?_
  refine Ce.skip ?_
  refine Ne.blk ?_
  refine Ne.seq ?_
  refine Ce.seq ?_
  refine Ce.region ?_
  refine Ie.p rfl rfl rfl rfl ?_
  refine Ie.p rfl rfl rfl rfl ?_
  refine Ie.p rfl rfl rfl rfl ?_
  refine Ie.p rfl rfl rfl rfl ?_
  refine Ie.fieldAddr rfl rfl rfl rfl rfl fa43_0 ?_
  refine Ie.load rfl rfl rfl rfl rfl ag3 (by first | exact .head | exact .tail .head | exact .tail (.tail .head) | exact .tail (.tail (.tail .head)) | exact .base ‹_› ‹_› (by simp)) rfl ?_
  refine Ie.fieldAddr rfl rfl rfl rfl rfl fa43_1 ?_
  refine Ie.load rfl rfl rfl rfl rfl ag3 (by first | exact .head | exact .tail .head | exact .tail (.tail .head) | exact .tail (.tail (.tail .head)) | exact .base ‹_› ‹_› (by simp)) rfl ?_
  refine Ie.fieldAddr rfl rfl rfl rfl rfl fa43_2 ?_
  refine Ie.load rfl rfl rfl rfl rfl ag2 (by first | exact .head | exact .tail .head | exact .tail (.tail .head) | exact .tail (.tail (.tail .head)) | exact .base ‹_› ‹_› (by simp)) rfl ?_
  refine Ie.fieldAddr rfl rfl rfl rfl rfl fa43_3 ?_
  refine Ie.load rfl rfl rfl rfl rfl ag2 (by first | exact .head | exact .tail .head | exact .tail (.tail .head) | exact .tail (.tail (.tail .head)) | exact .base ‹_› ‹_› (by simp)) rfl ?_
  refine Ie.call _ rfl rfl rfl rfl rfl rfl (fun m hm => RCompare_real_15 hm.lole ha hb h1 h2) ?_
  refine Ie.eqBool rfl rfl rfl rfl Tryz.underlying4 rfl rfl ?_
  refine Ie.as 55 (.bool true) rfl (by rw [hc]; exact congrArg Value.bool (beq_self_eq_true _)) ?_
  refine Ie.p rfl rfl rfl rfl ?_
  refine Ie.p rfl rfl rfl rfl ?_
  refine Ie.nil ?_
  refine Ne.seq ?_
  refine Ce.ret ?_
  exact Re.end_ rfl rfl (fun m hm => ⟨rfl, hm.ext⟩)

theorem compares_nan1_15 {a b : Int} {m : AW} (hm : m.lo ≤ m.next) (hlay : LaidAt lays m) (ha : Fit .i64 a) (hb : Fit .i64 b) (h1 : w4 a = 9221120237041090561) (hc : ((FloatKind.f64.format.order (flb (w4 b)) (flb (w4 a)) == some .lt) || (FloatKind.f64.format.order (flb (w4 a)) (flb (w4 b)) == some .eq)) = false) : Fc Tryz.prog 9 [.agg ⟨[.int .i64 4, .int .i64 15, .int .i64 a, .int .i64 b]⟩] m fun v m' => v = .bool true ∧ Ext m m' := by
  refine Fc.body (c := _) Tryz.func9 rfl rfl rfl rfl hm ?_
  refine Ce.seq ?_
  refine Ce.region ?_
  refine Ie.box rfl rfl rfl rfl rfl (fun b1 hb1 => ?_)
  refine Ie.p rfl rfl rfl rfl ?_
  refine Ie.nil ?_
  refine Ne.seq ?_
  refine Ce.seq ?_
  refine Ce.region ?_
  refine Ie.fieldAddr rfl rfl rfl rfl rfl fa43_0 ?_
  refine Ie.load rfl rfl rfl rfl rfl ag3 (by first | exact .head | exact .tail .head | exact .tail (.tail .head) | exact .tail (.tail (.tail .head)) | exact .base ‹_› ‹_› (by simp)) rfl ?_
  refine Ie.fieldAddr rfl rfl rfl rfl rfl fa43_1 ?_
  refine Ie.load rfl rfl rfl rfl rfl ag3 (by first | exact .head | exact .tail .head | exact .tail (.tail .head) | exact .tail (.tail (.tail .head)) | exact .base ‹_› ‹_› (by simp)) rfl ?_
  refine Ie.fieldAddr rfl rfl rfl rfl rfl fa43_2 ?_
  refine Ie.load rfl rfl rfl rfl rfl ag2 (by first | exact .head | exact .tail .head | exact .tail (.tail .head) | exact .tail (.tail (.tail .head)) | exact .base ‹_› ‹_› (by simp)) rfl ?_
  refine Ie.fieldAddr rfl rfl rfl rfl rfl fa43_3 ?_
  refine Ie.load rfl rfl rfl rfl rfl ag2 (by first | exact .head | exact .tail .head | exact .tail (.tail .head) | exact .tail (.tail (.tail .head)) | exact .base ‹_› ‹_› (by simp)) rfl ?_
  refine Ie.call _ rfl rfl rfl rfl rfl rfl (fun m hm => Compare_real_15 hm.lole ha hb) ?_
  refine Ie.p rfl rfl rfl rfl ?_
  refine Ie.p rfl rfl rfl rfl ?_
  refine Ie.p rfl rfl rfl rfl ?_
  refine Ie.p rfl rfl rfl rfl ?_
  refine Ie.p rfl rfl rfl rfl ?_
  refine Ie.nil ?_
  refine Ne.seq ?_
  refine Ce.seq ?_
  refine Ce.block ?_
  refine Ce.seq ?_
  refine Ce.region ?_
  refine Ie.call _ rfl rfl rfl rfl rfl rfl (fun m hm => awake_ok (hlay.kr hm)) ?_
  refine Ie.p rfl rfl rfl rfl ?_
  refine Ie.p rfl rfl rfl rfl ?_
  refine Ie.nil ?_
  refine Ne.seq ?_
  refine Ce.cond_false rfl ?_
  refine Ce.seq ?_
  refine Ce.region ?_
  refine Ie.fieldAddr rfl rfl rfl rfl rfl fa43_0 ?_
  refine Ie.load rfl rfl rfl rfl rfl ag3 (by first | exact .head | exact .tail .head | exact .tail (.tail .head) | exact .tail (.tail (.tail .head)) | exact .base ‹_› ‹_› (by simp)) rfl ?_
  refine Ie.call _ rfl rfl rfl rfl rfl rfl (fun m hm => Kind_real hm.lole) ?_
  refine Ie.p rfl rfl rfl rfl ?_
  refine Ie.p rfl rfl rfl rfl ?_
  refine Ie.nil ?_
  refine Ne.seq ?_
  refine Ce.cond_false rfl ?_
  refine Ce.seq ?_
  refine Ce.region ?_
  refine Ie.fieldAddr rfl rfl rfl rfl rfl fa43_1 ?_
  refine Ie.load rfl rfl rfl rfl rfl ag3 (by first | exact .head | exact .tail .head | exact .tail (.tail .head) | exact .tail (.tail (.tail .head)) | exact .base ‹_› ‹_› (by simp)) rfl ?_
  refine Ie.call _ rfl rfl rfl rfl rfl rfl (fun m hm => FitsCompare_15 hm.lole) ?_
  refine Ie.p rfl rfl rfl rfl ?_
  refine Ie.p rfl rfl rfl rfl ?_
  refine Ie.nil ?_
  refine Ne.seq ?_
  refine Ce.cond_false rfl ?_
  refine Ce.skip ?_
  refine Ne.blk ?_
  refine Ne.seq ?_
  refine Ce.seq ?_
  refine Ce.region ?_
  refine Ie.p rfl rfl rfl rfl ?_
  refine Ie.p rfl rfl rfl rfl ?_
  refine Ie.p rfl rfl rfl rfl ?_
  refine Ie.p rfl rfl rfl rfl ?_
  refine Ie.fieldAddr rfl rfl rfl rfl rfl fa43_0 ?_
  refine Ie.load rfl rfl rfl rfl rfl ag3 (by first | exact .head | exact .tail .head | exact .tail (.tail .head) | exact .tail (.tail (.tail .head)) | exact .base ‹_› ‹_› (by simp)) rfl ?_
  refine Ie.fieldAddr rfl rfl rfl rfl rfl fa43_1 ?_
  refine Ie.load rfl rfl rfl rfl rfl ag3 (by first | exact .head | exact .tail .head | exact .tail (.tail .head) | exact .tail (.tail (.tail .head)) | exact .base ‹_› ‹_› (by simp)) rfl ?_
  refine Ie.fieldAddr rfl rfl rfl rfl rfl fa43_2 ?_
  refine Ie.load rfl rfl rfl rfl rfl ag2 (by first | exact .head | exact .tail .head | exact .tail (.tail .head) | exact .tail (.tail (.tail .head)) | exact .base ‹_› ‹_› (by simp)) rfl ?_
  refine Ie.fieldAddr rfl rfl rfl rfl rfl fa43_3 ?_
  refine Ie.load rfl rfl rfl rfl rfl ag2 (by first | exact .head | exact .tail .head | exact .tail (.tail .head) | exact .tail (.tail (.tail .head)) | exact .base ‹_› ‹_› (by simp)) rfl ?_
  refine Ie.call _ rfl rfl rfl rfl rfl rfl (fun m hm => RCompare_nan1_15 hm.lole ha hb h1) ?_
  refine Ie.eqBool rfl rfl rfl rfl Tryz.underlying4 rfl rfl ?_
  refine Ie.as 55 (.bool true) rfl (by rw [hc]; exact congrArg Value.bool (beq_self_eq_true _)) ?_
  refine Ie.p rfl rfl rfl rfl ?_
  refine Ie.p rfl rfl rfl rfl ?_
  refine Ie.nil ?_
  refine Ne.seq ?_
  refine Ce.ret ?_
  exact Re.end_ rfl rfl (fun m hm => ⟨rfl, hm.ext⟩)

theorem compares_nan2_15 {a b : Int} {m : AW} (hm : m.lo ≤ m.next) (hlay : LaidAt lays m) (ha : Fit .i64 a) (hb : Fit .i64 b) (h1 : w4 a ≠ 9221120237041090561) (h2 : w4 b = 9221120237041090561) (hc : ((FloatKind.f64.format.order (flb (w4 b)) (flb (w4 a)) == some .lt) || (FloatKind.f64.format.order (flb (w4 a)) (flb (w4 b)) == some .eq)) = false) : Fc Tryz.prog 9 [.agg ⟨[.int .i64 4, .int .i64 15, .int .i64 a, .int .i64 b]⟩] m fun v m' => v = .bool true ∧ Ext m m' := by
  refine Fc.body (c := _) Tryz.func9 rfl rfl rfl rfl hm ?_
  refine Ce.seq ?_
  refine Ce.region ?_
  refine Ie.box rfl rfl rfl rfl rfl (fun b1 hb1 => ?_)
  refine Ie.p rfl rfl rfl rfl ?_
  refine Ie.nil ?_
  refine Ne.seq ?_
  refine Ce.seq ?_
  refine Ce.region ?_
  refine Ie.fieldAddr rfl rfl rfl rfl rfl fa43_0 ?_
  refine Ie.load rfl rfl rfl rfl rfl ag3 (by first | exact .head | exact .tail .head | exact .tail (.tail .head) | exact .tail (.tail (.tail .head)) | exact .base ‹_› ‹_› (by simp)) rfl ?_
  refine Ie.fieldAddr rfl rfl rfl rfl rfl fa43_1 ?_
  refine Ie.load rfl rfl rfl rfl rfl ag3 (by first | exact .head | exact .tail .head | exact .tail (.tail .head) | exact .tail (.tail (.tail .head)) | exact .base ‹_› ‹_› (by simp)) rfl ?_
  refine Ie.fieldAddr rfl rfl rfl rfl rfl fa43_2 ?_
  refine Ie.load rfl rfl rfl rfl rfl ag2 (by first | exact .head | exact .tail .head | exact .tail (.tail .head) | exact .tail (.tail (.tail .head)) | exact .base ‹_› ‹_› (by simp)) rfl ?_
  refine Ie.fieldAddr rfl rfl rfl rfl rfl fa43_3 ?_
  refine Ie.load rfl rfl rfl rfl rfl ag2 (by first | exact .head | exact .tail .head | exact .tail (.tail .head) | exact .tail (.tail (.tail .head)) | exact .base ‹_› ‹_› (by simp)) rfl ?_
  refine Ie.call _ rfl rfl rfl rfl rfl rfl (fun m hm => Compare_real_15 hm.lole ha hb) ?_
  refine Ie.p rfl rfl rfl rfl ?_
  refine Ie.p rfl rfl rfl rfl ?_
  refine Ie.p rfl rfl rfl rfl ?_
  refine Ie.p rfl rfl rfl rfl ?_
  refine Ie.p rfl rfl rfl rfl ?_
  refine Ie.nil ?_
  refine Ne.seq ?_
  refine Ce.seq ?_
  refine Ce.block ?_
  refine Ce.seq ?_
  refine Ce.region ?_
  refine Ie.call _ rfl rfl rfl rfl rfl rfl (fun m hm => awake_ok (hlay.kr hm)) ?_
  refine Ie.p rfl rfl rfl rfl ?_
  refine Ie.p rfl rfl rfl rfl ?_
  refine Ie.nil ?_
  refine Ne.seq ?_
  refine Ce.cond_false rfl ?_
  refine Ce.seq ?_
  refine Ce.region ?_
  refine Ie.fieldAddr rfl rfl rfl rfl rfl fa43_0 ?_
  refine Ie.load rfl rfl rfl rfl rfl ag3 (by first | exact .head | exact .tail .head | exact .tail (.tail .head) | exact .tail (.tail (.tail .head)) | exact .base ‹_› ‹_› (by simp)) rfl ?_
  refine Ie.call _ rfl rfl rfl rfl rfl rfl (fun m hm => Kind_real hm.lole) ?_
  refine Ie.p rfl rfl rfl rfl ?_
  refine Ie.p rfl rfl rfl rfl ?_
  refine Ie.nil ?_
  refine Ne.seq ?_
  refine Ce.cond_false rfl ?_
  refine Ce.seq ?_
  refine Ce.region ?_
  refine Ie.fieldAddr rfl rfl rfl rfl rfl fa43_1 ?_
  refine Ie.load rfl rfl rfl rfl rfl ag3 (by first | exact .head | exact .tail .head | exact .tail (.tail .head) | exact .tail (.tail (.tail .head)) | exact .base ‹_› ‹_› (by simp)) rfl ?_
  refine Ie.call _ rfl rfl rfl rfl rfl rfl (fun m hm => FitsCompare_15 hm.lole) ?_
  refine Ie.p rfl rfl rfl rfl ?_
  refine Ie.p rfl rfl rfl rfl ?_
  refine Ie.nil ?_
  refine Ne.seq ?_
  refine Ce.cond_false rfl ?_
  refine Ce.skip ?_
  refine Ne.blk ?_
  refine Ne.seq ?_
  refine Ce.seq ?_
  refine Ce.region ?_
  refine Ie.p rfl rfl rfl rfl ?_
  refine Ie.p rfl rfl rfl rfl ?_
  refine Ie.p rfl rfl rfl rfl ?_
  refine Ie.p rfl rfl rfl rfl ?_
  refine Ie.fieldAddr rfl rfl rfl rfl rfl fa43_0 ?_
  refine Ie.load rfl rfl rfl rfl rfl ag3 (by first | exact .head | exact .tail .head | exact .tail (.tail .head) | exact .tail (.tail (.tail .head)) | exact .base ‹_› ‹_› (by simp)) rfl ?_
  refine Ie.fieldAddr rfl rfl rfl rfl rfl fa43_1 ?_
  refine Ie.load rfl rfl rfl rfl rfl ag3 (by first | exact .head | exact .tail .head | exact .tail (.tail .head) | exact .tail (.tail (.tail .head)) | exact .base ‹_› ‹_› (by simp)) rfl ?_
  refine Ie.fieldAddr rfl rfl rfl rfl rfl fa43_2 ?_
  refine Ie.load rfl rfl rfl rfl rfl ag2 (by first | exact .head | exact .tail .head | exact .tail (.tail .head) | exact .tail (.tail (.tail .head)) | exact .base ‹_› ‹_› (by simp)) rfl ?_
  refine Ie.fieldAddr rfl rfl rfl rfl rfl fa43_3 ?_
  refine Ie.load rfl rfl rfl rfl rfl ag2 (by first | exact .head | exact .tail .head | exact .tail (.tail .head) | exact .tail (.tail (.tail .head)) | exact .base ‹_› ‹_› (by simp)) rfl ?_
  refine Ie.call _ rfl rfl rfl rfl rfl rfl (fun m hm => RCompare_nan2_15 hm.lole ha hb h1 h2) ?_
  refine Ie.eqBool rfl rfl rfl rfl Tryz.underlying4 rfl rfl ?_
  refine Ie.as 55 (.bool true) rfl (by rw [hc]; exact congrArg Value.bool (beq_self_eq_true _)) ?_
  refine Ie.p rfl rfl rfl rfl ?_
  refine Ie.p rfl rfl rfl rfl ?_
  refine Ie.nil ?_
  refine Ne.seq ?_
  refine Ce.ret ?_
  exact Re.end_ rfl rfl (fun m hm => ⟨rfl, hm.ext⟩)

theorem compares_real_other {op a b : Int} {m : AW} (hm : m.lo ≤ m.next) (hlay : LaidAt lays m) (ha : Fit .i64 a) (hb : Fit .i64 b) (hop : op < 10 ∨ 15 < op) : Fc Tryz.prog 9 [.agg ⟨[.int .i64 4, .int .i64 op, .int .i64 a, .int .i64 b]⟩] m fun v m' => v = .bool true ∧ Ext m m' := by
  refine Fc.body (c := _) Tryz.func9 rfl rfl rfl rfl hm ?_
  refine Ce.seq ?_
  refine Ce.region ?_
  refine Ie.box rfl rfl rfl rfl rfl (fun b1 hb1 => ?_)
  refine Ie.p rfl rfl rfl rfl ?_
  refine Ie.nil ?_
  refine Ne.seq ?_
  refine Ce.seq ?_
  refine Ce.region ?_
  refine Ie.fieldAddr rfl rfl rfl rfl rfl fa43_0 ?_
  refine Ie.load rfl rfl rfl rfl rfl ag3 (by first | exact .head | exact .tail .head | exact .tail (.tail .head) | exact .tail (.tail (.tail .head)) | exact .base ‹_› ‹_› (by simp)) rfl ?_
  refine Ie.fieldAddr rfl rfl rfl rfl rfl fa43_1 ?_
  refine Ie.load rfl rfl rfl rfl rfl ag3 (by first | exact .head | exact .tail .head | exact .tail (.tail .head) | exact .tail (.tail (.tail .head)) | exact .base ‹_› ‹_› (by simp)) rfl ?_
  refine Ie.fieldAddr rfl rfl rfl rfl rfl fa43_2 ?_
  refine Ie.load rfl rfl rfl rfl rfl ag2 (by first | exact .head | exact .tail .head | exact .tail (.tail .head) | exact .tail (.tail (.tail .head)) | exact .base ‹_› ‹_› (by simp)) rfl ?_
  refine Ie.fieldAddr rfl rfl rfl rfl rfl fa43_3 ?_
  refine Ie.load rfl rfl rfl rfl rfl ag2 (by first | exact .head | exact .tail .head | exact .tail (.tail .head) | exact .tail (.tail (.tail .head)) | exact .base ‹_› ‹_› (by simp)) rfl ?_
  refine Ie.call _ rfl rfl rfl rfl rfl rfl (fun m hm => Compare_real_other hm.lole ha hb hop) ?_
  refine Ie.p rfl rfl rfl rfl ?_
  refine Ie.p rfl rfl rfl rfl ?_
  refine Ie.p rfl rfl rfl rfl ?_
  refine Ie.p rfl rfl rfl rfl ?_
  refine Ie.p rfl rfl rfl rfl ?_
  refine Ie.nil ?_
  refine Ne.seq ?_
  refine Ce.seq ?_
  refine Ce.block ?_
  refine Ce.seq ?_
  refine Ce.region ?_
  refine Ie.call _ rfl rfl rfl rfl rfl rfl (fun m hm => awake_ok (hlay.kr hm)) ?_
  refine Ie.p rfl rfl rfl rfl ?_
  refine Ie.p rfl rfl rfl rfl ?_
  refine Ie.nil ?_
  refine Ne.seq ?_
  refine Ce.cond_false rfl ?_
  refine Ce.seq ?_
  refine Ce.region ?_
  refine Ie.fieldAddr rfl rfl rfl rfl rfl fa43_0 ?_
  refine Ie.load rfl rfl rfl rfl rfl ag3 (by first | exact .head | exact .tail .head | exact .tail (.tail .head) | exact .tail (.tail (.tail .head)) | exact .base ‹_› ‹_› (by simp)) rfl ?_
  refine Ie.call _ rfl rfl rfl rfl rfl rfl (fun m hm => Kind_real hm.lole) ?_
  refine Ie.p rfl rfl rfl rfl ?_
  refine Ie.p rfl rfl rfl rfl ?_
  refine Ie.nil ?_
  refine Ne.seq ?_
  refine Ce.cond_false rfl ?_
  refine Ce.seq ?_
  refine Ce.region ?_
  refine Ie.fieldAddr rfl rfl rfl rfl rfl fa43_1 ?_
  refine Ie.load rfl rfl rfl rfl rfl ag3 (by first | exact .head | exact .tail .head | exact .tail (.tail .head) | exact .tail (.tail (.tail .head)) | exact .base ‹_› ‹_› (by simp)) rfl ?_
  refine Ie.call _ rfl rfl rfl rfl rfl rfl (fun m hm => FitsCompare_other hm.lole hop) ?_
  refine Ie.p rfl rfl rfl rfl ?_
  refine Ie.p rfl rfl rfl rfl ?_
  refine Ie.nil ?_
  refine Ne.seq ?_
  refine Ce.cond_true rfl ?_
  refine Ce.seq ?_
  refine Ce.region ?_
  refine Ie.p rfl rfl rfl rfl ?_
  refine Ie.p rfl rfl rfl rfl ?_
  refine Ie.p rfl rfl rfl rfl ?_
  refine Ie.p rfl rfl rfl rfl ?_
  refine Ie.p rfl rfl rfl rfl ?_
  refine Ie.p rfl rfl rfl rfl ?_
  refine Ie.p rfl rfl rfl rfl ?_
  refine Ie.nil ?_
  refine Ne.seq ?_
  refine Ce.ret ?_
  refine Re.blk ?_
  refine Re.seq ?_
  exact Re.end_ rfl rfl (fun m hm => ⟨rfl, hm.ext⟩)

theorem compares_none {kind op a b : Int} {m : AW} (hm : m.lo ≤ m.next) (hlay : LaidAt lays m) (h1 : kind ≠ 1) (h2 : kind ≠ 2) (h3 : kind ≠ 3) (h4 : kind ≠ 4) : Fc Tryz.prog 9 [.agg ⟨[.int .i64 kind, .int .i64 op, .int .i64 a, .int .i64 b]⟩] m fun v m' => v = .bool true ∧ Ext m m' := by
  refine Fc.body (c := _) Tryz.func9 rfl rfl rfl rfl hm ?_
  refine Ce.seq ?_
  refine Ce.region ?_
  refine Ie.box rfl rfl rfl rfl rfl (fun b1 hb1 => ?_)
  refine Ie.p rfl rfl rfl rfl ?_
  refine Ie.nil ?_
  refine Ne.seq ?_
  refine Ce.seq ?_
  refine Ce.region ?_
  refine Ie.fieldAddr rfl rfl rfl rfl rfl fa43_0 ?_
  refine Ie.load rfl rfl rfl rfl rfl ag3 (by first | exact .head | exact .tail .head | exact .tail (.tail .head) | exact .tail (.tail (.tail .head)) | exact .base ‹_› ‹_› (by simp)) rfl ?_
  refine Ie.fieldAddr rfl rfl rfl rfl rfl fa43_1 ?_
  refine Ie.load rfl rfl rfl rfl rfl ag3 (by first | exact .head | exact .tail .head | exact .tail (.tail .head) | exact .tail (.tail (.tail .head)) | exact .base ‹_› ‹_› (by simp)) rfl ?_
  refine Ie.fieldAddr rfl rfl rfl rfl rfl fa43_2 ?_
  refine Ie.load rfl rfl rfl rfl rfl ag2 (by first | exact .head | exact .tail .head | exact .tail (.tail .head) | exact .tail (.tail (.tail .head)) | exact .base ‹_› ‹_› (by simp)) rfl ?_
  refine Ie.fieldAddr rfl rfl rfl rfl rfl fa43_3 ?_
  refine Ie.load rfl rfl rfl rfl rfl ag2 (by first | exact .head | exact .tail .head | exact .tail (.tail .head) | exact .tail (.tail (.tail .head)) | exact .base ‹_› ‹_› (by simp)) rfl ?_
  refine Ie.call _ rfl rfl rfl rfl rfl rfl (fun m hm => Compare_none hm.lole h1 h2 h3 h4) ?_
  refine Ie.p rfl rfl rfl rfl ?_
  refine Ie.p rfl rfl rfl rfl ?_
  refine Ie.p rfl rfl rfl rfl ?_
  refine Ie.p rfl rfl rfl rfl ?_
  refine Ie.p rfl rfl rfl rfl ?_
  refine Ie.nil ?_
  refine Ne.seq ?_
  refine Ce.seq ?_
  refine Ce.block ?_
  refine Ce.seq ?_
  refine Ce.region ?_
  refine Ie.call _ rfl rfl rfl rfl rfl rfl (fun m hm => awake_ok (hlay.kr hm)) ?_
  refine Ie.p rfl rfl rfl rfl ?_
  refine Ie.p rfl rfl rfl rfl ?_
  refine Ie.nil ?_
  refine Ne.seq ?_
  refine Ce.cond_false rfl ?_
  refine Ce.seq ?_
  refine Ce.region ?_
  refine Ie.fieldAddr rfl rfl rfl rfl rfl fa43_0 ?_
  refine Ie.load rfl rfl rfl rfl rfl ag3 (by first | exact .head | exact .tail .head | exact .tail (.tail .head) | exact .tail (.tail (.tail .head)) | exact .base ‹_› ‹_› (by simp)) rfl ?_
  refine Ie.call _ rfl rfl rfl rfl rfl rfl (fun m hm => Kind_none hm.lole h1 h2 h3 h4) ?_
  refine Ie.p rfl rfl rfl rfl ?_
  refine Ie.p rfl rfl rfl rfl ?_
  refine Ie.nil ?_
  refine Ne.seq ?_
  refine Ce.cond_true rfl ?_
  refine Ce.seq ?_
  refine Ce.region ?_
  refine Ie.p rfl rfl rfl rfl ?_
  refine Ie.p rfl rfl rfl rfl ?_
  refine Ie.p rfl rfl rfl rfl ?_
  refine Ie.p rfl rfl rfl rfl ?_
  refine Ie.p rfl rfl rfl rfl ?_
  refine Ie.p rfl rfl rfl rfl ?_
  refine Ie.p rfl rfl rfl rfl ?_
  refine Ie.nil ?_
  refine Ne.seq ?_
  refine Ce.ret ?_
  refine Re.blk ?_
  refine Re.seq ?_
  exact Re.end_ rfl rfl (fun m hm => ⟨rfl, hm.ext⟩)

theorem w4_num {a : Int} (h : w4 a ≠ 9221120237041090561) : nanB (flb (w4 a)) = false := by
  unfold w4 at h ⊢
  cases hn : nanB (flb a) with
  | true => rw [hn] at h; exact absurd rfl h
  | false => simpa using hn

theorem w4_nan {a : Int} (h : w4 a = 9221120237041090561) : nanB (flb (w4 a)) = true := by
  rw [h]
  kernel_rfl

end Go.Proofs.YtmcjihhfgmfcpaaGreatDoor
