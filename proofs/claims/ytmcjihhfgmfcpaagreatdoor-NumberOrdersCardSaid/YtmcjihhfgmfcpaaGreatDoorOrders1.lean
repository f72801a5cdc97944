/-
  NumberOrders: the functions that it calls, followed, 1. Conditions: none.
-/
import Derived.Test.YtmcjihhfgmfcpaaGreatDoorAwk
import Derived.Test.YtmcjihhfgmfcpaaGreatDoorPla
import Derived.Test.YtmcjihhfgmfcpaaGreatDoorOrders0
namespace Go.Proofs.YtmcjihhfgmfcpaaGreatDoor
open Go Go.Ab
set_option linter.unusedVariables false
set_option linter.unusedSimpArgs false
theorem orders_real_lt {a b : Int} {m : AW} (hm : m.lo ≤ m.next) (hlay : LaidAt lays m) (ha : Fit .i64 a) (hb : Fit .i64 b) (hl : (FloatKind.f64.format.order (flb (w4 a)) (flb (w4 b)) == some .lt) = true) (hq : (FloatKind.f64.format.order (flb (w4 a)) (flb (w4 b)) == some .eq) = false) (hg : (FloatKind.f64.format.order (flb (w4 b)) (flb (w4 a)) == some .lt) = false) (h1 : w4 a ≠ 9221120237041090561) (h2 : w4 b ≠ 9221120237041090561) : Fc Tryz.prog 10 [.int .i64 4, .int .i64 a, .int .i64 b] m fun v m' => v = .bool true ∧ Ext m m' := by
  refine Fc.body (c := _) Tryz.func10 rfl rfl rfl rfl hm ?_
  refine Ce.seq ?_
  refine Ce.region ?_
  refine Ie.p rfl rfl rfl rfl ?_
  refine Ie.nil ?_
  refine Ne.seq ?_
  refine Ce.seq ?_
  refine Ce.region ?_
  refine Ie.p rfl rfl rfl rfl ?_
  refine Ie.p rfl rfl rfl rfl ?_
  refine Ie.p rfl rfl rfl rfl ?_
  refine Ie.call _ rfl rfl rfl rfl rfl rfl (fun m hm => CL_real_12_lt hm.lole ha hb hl hq hg) ?_
  refine Ie.p rfl rfl rfl rfl ?_
  refine Ie.p rfl rfl rfl rfl ?_
  refine Ie.p rfl rfl rfl rfl ?_
  refine Ie.p rfl rfl rfl rfl ?_
  refine Ie.p rfl rfl rfl rfl ?_
  refine Ie.nil ?_
  refine Ne.seq ?_
  refine Ce.seq ?_
  refine Ce.seq ?_
  refine Ce.region ?_
  refine Ie.p rfl rfl rfl rfl ?_
  refine Ie.p rfl rfl rfl rfl ?_
  refine Ie.nil ?_
  refine Ne.seq ?_
  refine Ce.cond_false rfl ?_
  refine Ce.skip ?_
  refine Ne.seq ?_
  refine Ce.seq ?_
  refine Ce.region ?_
  refine Ie.p rfl rfl rfl rfl ?_
  refine Ie.p rfl rfl rfl rfl ?_
  refine Ie.p rfl rfl rfl rfl ?_
  refine Ie.call _ rfl rfl rfl rfl rfl rfl (fun m hm => CL_real_10_lt hm.lole ha hb hl hq hg) ?_
  refine Ie.p rfl rfl rfl rfl ?_
  refine Ie.p rfl rfl rfl rfl ?_
  refine Ie.p rfl rfl rfl rfl ?_
  refine Ie.p rfl rfl rfl rfl ?_
  refine Ie.p rfl rfl rfl rfl ?_
  refine Ie.nil ?_
  refine Ne.seq ?_
  refine Ce.seq ?_
  refine Ce.region ?_
  refine Ie.p rfl rfl rfl rfl ?_
  refine Ie.p rfl rfl rfl rfl ?_
  refine Ie.p rfl rfl rfl rfl ?_
  refine Ie.call _ rfl rfl rfl rfl rfl rfl (fun m hm => CL_real_14_lt hm.lole ha hb hl hq hg) ?_
  refine Ie.p rfl rfl rfl rfl ?_
  refine Ie.p rfl rfl rfl rfl ?_
  refine Ie.p rfl rfl rfl rfl ?_
  refine Ie.p rfl rfl rfl rfl ?_
  refine Ie.p rfl rfl rfl rfl ?_
  refine Ie.nil ?_
  refine Ne.seq ?_
  refine Ce.seq ?_
  refine Ce.region ?_
  refine Ie.p rfl rfl rfl rfl ?_
  refine Ie.p rfl rfl rfl rfl ?_
  refine Ie.p rfl rfl rfl rfl ?_
  refine Ie.call _ rfl rfl rfl rfl rfl rfl (fun m hm => CL_real_13_lt hm.lole ha hb hl hq hg) ?_
  refine Ie.p rfl rfl rfl rfl ?_
  refine Ie.p rfl rfl rfl rfl ?_
  refine Ie.p rfl rfl rfl rfl ?_
  refine Ie.p rfl rfl rfl rfl ?_
  refine Ie.p rfl rfl rfl rfl ?_
  refine Ie.nil ?_
  refine Ne.seq ?_
  refine Ce.seq ?_
  refine Ce.region ?_
  refine Ie.p rfl rfl rfl rfl ?_
  refine Ie.p rfl rfl rfl rfl ?_
  refine Ie.p rfl rfl rfl rfl ?_
  refine Ie.call _ rfl rfl rfl rfl rfl rfl (fun m hm => CL_real_15_lt hm.lole ha hb hl hq hg) ?_
  refine Ie.p rfl rfl rfl rfl ?_
  refine Ie.p rfl rfl rfl rfl ?_
  refine Ie.p rfl rfl rfl rfl ?_
  refine Ie.p rfl rfl rfl rfl ?_
  refine Ie.p rfl rfl rfl rfl ?_
  refine Ie.nil ?_
  refine Ne.seq ?_
  refine Ce.seq ?_
  refine Ce.region ?_
  refine Ie.p rfl rfl rfl rfl ?_
  refine Ie.p rfl rfl rfl rfl ?_
  refine Ie.p rfl rfl rfl rfl ?_
  refine Ie.call _ rfl rfl rfl rfl rfl rfl (fun m hm => CL_real_11_lt hm.lole ha hb hl hq hg) ?_
  refine Ie.p rfl rfl rfl rfl ?_
  refine Ie.p rfl rfl rfl rfl ?_
  refine Ie.p rfl rfl rfl rfl ?_
  refine Ie.p rfl rfl rfl rfl ?_
  refine Ie.p rfl rfl rfl rfl ?_
  refine Ie.nil ?_
  refine Ne.seq ?_
  refine Ce.seq ?_
  refine Ce.region ?_
  refine Ie.p rfl rfl rfl rfl ?_
  refine Ie.p rfl rfl rfl rfl ?_
  refine Ie.p rfl rfl rfl rfl ?_
  refine Ie.call _ rfl rfl rfl rfl rfl rfl (fun m hm => CM_real_lt hm.lole ha hb hg) ?_
  refine Ie.p rfl rfl rfl rfl ?_
  refine Ie.p rfl rfl rfl rfl ?_
  refine Ie.p rfl rfl rfl rfl ?_
  refine Ie.p rfl rfl rfl rfl ?_
  refine Ie.p rfl rfl rfl rfl ?_
  refine Ie.nil ?_
  refine Ne.seq ?_
  refine Ce.seq ?_
  refine Ce.region ?_
  refine Ie.p rfl rfl rfl rfl ?_
  refine Ie.nil ?_
  refine Ne.seq ?_
  refine Ce.seq ?_
  refine Ce.seq ?_
  refine Ce.region ?_
  refine Ie.p rfl rfl rfl rfl ?_
  refine Ie.nil ?_
  refine Ne.seq ?_
  refine Ce.cond_true rfl ?_
  refine Ce.region ?_
  refine Ie.p rfl rfl rfl rfl ?_
  refine Ie.p rfl rfl rfl rfl ?_
  refine Ie.p rfl rfl rfl rfl ?_
  refine Ie.nil ?_
  refine Ne.seq ?_
  refine Ce.seq ?_
  refine Ce.seq ?_
  refine Ce.region ?_
  refine Ie.p rfl rfl rfl rfl ?_
  refine Ie.nil ?_
  refine Ne.seq ?_
  refine Ce.cond_false rfl ?_
  refine Ce.skip ?_
  refine Ne.seq ?_
  refine Ce.seq ?_
  refine Ce.seq ?_
  refine Ce.region ?_
  refine Ie.p rfl rfl rfl rfl ?_
  refine Ie.nil ?_
  refine Ne.seq ?_
  refine Ce.cond_false rfl ?_
  refine Ce.skip ?_
  refine Ne.seq ?_
  refine Ce.seq ?_
  refine Ce.region ?_
  refine Ie.p rfl rfl rfl rfl ?_
  refine Ie.nil ?_
  refine Ne.seq ?_
  refine Ce.seq ?_
  refine Ce.seq ?_
  refine Ce.region ?_
  refine Ie.p rfl rfl rfl rfl ?_
  refine Ie.p rfl rfl rfl rfl ?_
  refine Ie.nil ?_
  refine Ne.seq ?_
  refine Ce.cond_true rfl ?_
  refine Ce.seq ?_
  refine Ce.region ?_
  refine Ie.p rfl rfl rfl rfl ?_
  refine Ie.p rfl rfl rfl rfl ?_
  refine Ie.call _ rfl rfl rfl rfl rfl rfl (fun m hm => Wrap_real hm.lole ha) ?_
  refine Ie.p rfl rfl rfl rfl ?_
  refine Ie.p rfl rfl rfl rfl ?_
  refine Ie.p rfl rfl rfl rfl ?_
  refine Ie.p rfl rfl rfl rfl ?_
  refine Ie.nil ?_
  refine Ne.seq ?_
  refine Ce.seq ?_
  refine Ce.region ?_
  refine Ie.p rfl rfl rfl rfl ?_
  refine Ie.p rfl rfl rfl rfl ?_
  refine Ie.call _ rfl rfl rfl rfl rfl rfl (fun m hm => Wrap_real hm.lole hb) ?_
  refine Ie.p rfl rfl rfl rfl ?_
  refine Ie.p rfl rfl rfl rfl ?_
  refine Ie.p rfl rfl rfl rfl ?_
  refine Ie.p rfl rfl rfl rfl ?_
  refine Ie.nil ?_
  refine Ne.seq ?_
  refine Ce.region ?_
  refine Ie.p rfl rfl rfl rfl ?_
  refine Ie.bin (v := .bool false) rfl rfl rfl rfl rfl rfl (binS_neql h1) ?_
  refine Ie.p rfl rfl rfl rfl ?_
  refine Ie.p rfl rfl rfl rfl ?_
  refine Ie.bin (v := .bool false) rfl rfl rfl rfl rfl rfl (binS_neql h2) ?_
  refine Ie.p rfl rfl rfl rfl ?_
  refine Ie.p rfl rfl rfl rfl ?_
  refine Ie.nil ?_
  refine Ne.seq ?_
  refine Ce.seq ?_
  refine Ce.region ?_
  refine Ie.call _ rfl rfl rfl rfl rfl rfl (fun m hm => awake_ok (hlay.kr hm)) ?_
  refine Ie.p rfl rfl rfl rfl ?_
  refine Ie.p rfl rfl rfl rfl ?_
  refine Ie.p rfl rfl rfl rfl ?_
  refine Ie.p rfl rfl rfl rfl ?_
  refine Ie.p rfl rfl rfl rfl ?_
  refine Ie.p rfl rfl rfl rfl ?_
  refine Ie.p rfl rfl rfl rfl ?_
  refine Ie.p rfl rfl rfl rfl ?_
  refine Ie.off rfl rfl rfl ?_
  refine Ie.off rfl rfl rfl ?_
  refine Ie.off rfl rfl rfl ?_
  refine Ie.off rfl rfl rfl ?_
  refine Ie.off rfl rfl rfl ?_
  refine Ie.p rfl rfl rfl rfl ?_
  refine Ie.p rfl rfl rfl rfl ?_
  refine Ie.p rfl rfl rfl rfl ?_
  refine Ie.p rfl rfl rfl rfl ?_
  refine Ie.p rfl rfl rfl rfl ?_
  refine Ie.p rfl rfl rfl rfl ?_
  refine Ie.off rfl rfl rfl ?_
  refine Ie.p rfl rfl rfl rfl ?_
  refine Ie.eqBool rfl rfl rfl rfl Tryz.underlying4 rfl rfl ?_
  refine Ie.p rfl rfl rfl rfl ?_
  refine Ie.p rfl rfl rfl rfl ?_
  refine Ie.p rfl rfl rfl rfl ?_
  refine Ie.p rfl rfl rfl rfl ?_
  refine Ie.p rfl rfl rfl rfl ?_
  refine Ie.p rfl rfl rfl rfl ?_
  refine Ie.p rfl rfl rfl rfl ?_
  refine Ie.eqBool rfl rfl rfl rfl Tryz.underlying4 rfl rfl ?_
  refine Ie.p rfl rfl rfl rfl ?_
  refine Ie.p rfl rfl rfl rfl ?_
  refine Ie.p rfl rfl rfl rfl ?_
  refine Ie.p rfl rfl rfl rfl ?_
  refine Ie.p rfl rfl rfl rfl ?_
  refine Ie.eqBool rfl rfl rfl rfl Tryz.underlying4 rfl rfl ?_
  refine Ie.p rfl rfl rfl rfl ?_
  refine Ie.p rfl rfl rfl rfl ?_
  refine Ie.p rfl rfl rfl rfl ?_
  refine Ie.p rfl rfl rfl rfl ?_
  refine Ie.eqBool rfl rfl rfl rfl Tryz.underlying4 rfl rfl ?_
  refine Ie.p rfl rfl rfl rfl ?_
  refine Ie.p rfl rfl rfl rfl ?_
  refine Ie.nil ?_
  refine Ne.seq ?_
  refine Ce.ret ?_
  exact Re.end_ rfl rfl (fun m hm => ⟨rfl, hm.ext⟩)

theorem CL_real_10_eq {a b : Int} {m : AW} (hm : m.lo ≤ m.next) (ha : Fit .i64 a) (hb : Fit .i64 b) (hl : (FloatKind.f64.format.order (flb (w4 a)) (flb (w4 b)) == some .lt) = false) (hq : (FloatKind.f64.format.order (flb (w4 a)) (flb (w4 b)) == some .eq) = true) (hg : (FloatKind.f64.format.order (flb (w4 b)) (flb (w4 a)) == some .lt) = false) : Fc Tryz.prog 29 [.int .i64 4, .int .i64 10, .int .i64 a, .int .i64 b] m fun v m' => v = .tuple ⟨[.bool true, .int .i64 0]⟩ ∧ Ext m m' := by
  have h := Compare_real_10 hm ha hb
  rw [hq] at h
  exact h

theorem CL_real_11_eq {a b : Int} {m : AW} (hm : m.lo ≤ m.next) (ha : Fit .i64 a) (hb : Fit .i64 b) (hl : (FloatKind.f64.format.order (flb (w4 a)) (flb (w4 b)) == some .lt) = false) (hq : (FloatKind.f64.format.order (flb (w4 a)) (flb (w4 b)) == some .eq) = true) (hg : (FloatKind.f64.format.order (flb (w4 b)) (flb (w4 a)) == some .lt) = false) : Fc Tryz.prog 29 [.int .i64 4, .int .i64 11, .int .i64 a, .int .i64 b] m fun v m' => v = .tuple ⟨[.bool false, .int .i64 0]⟩ ∧ Ext m m' := by
  have h := Compare_real_11 hm ha hb
  rw [hq] at h
  exact h

theorem CL_real_12_eq {a b : Int} {m : AW} (hm : m.lo ≤ m.next) (ha : Fit .i64 a) (hb : Fit .i64 b) (hl : (FloatKind.f64.format.order (flb (w4 a)) (flb (w4 b)) == some .lt) = false) (hq : (FloatKind.f64.format.order (flb (w4 a)) (flb (w4 b)) == some .eq) = true) (hg : (FloatKind.f64.format.order (flb (w4 b)) (flb (w4 a)) == some .lt) = false) : Fc Tryz.prog 29 [.int .i64 4, .int .i64 12, .int .i64 a, .int .i64 b] m fun v m' => v = .tuple ⟨[.bool false, .int .i64 0]⟩ ∧ Ext m m' := by
  have h := Compare_real_12 hm ha hb
  rw [hl] at h
  exact h

theorem CL_real_13_eq {a b : Int} {m : AW} (hm : m.lo ≤ m.next) (ha : Fit .i64 a) (hb : Fit .i64 b) (hl : (FloatKind.f64.format.order (flb (w4 a)) (flb (w4 b)) == some .lt) = false) (hq : (FloatKind.f64.format.order (flb (w4 a)) (flb (w4 b)) == some .eq) = true) (hg : (FloatKind.f64.format.order (flb (w4 b)) (flb (w4 a)) == some .lt) = false) : Fc Tryz.prog 29 [.int .i64 4, .int .i64 13, .int .i64 a, .int .i64 b] m fun v m' => v = .tuple ⟨[.bool true, .int .i64 0]⟩ ∧ Ext m m' := by
  have h := Compare_real_13 hm ha hb
  rw [hl, hq] at h
  exact h

theorem CL_real_14_eq {a b : Int} {m : AW} (hm : m.lo ≤ m.next) (ha : Fit .i64 a) (hb : Fit .i64 b) (hl : (FloatKind.f64.format.order (flb (w4 a)) (flb (w4 b)) == some .lt) = false) (hq : (FloatKind.f64.format.order (flb (w4 a)) (flb (w4 b)) == some .eq) = true) (hg : (FloatKind.f64.format.order (flb (w4 b)) (flb (w4 a)) == some .lt) = false) : Fc Tryz.prog 29 [.int .i64 4, .int .i64 14, .int .i64 a, .int .i64 b] m fun v m' => v = .tuple ⟨[.bool false, .int .i64 0]⟩ ∧ Ext m m' := by
  have h := Compare_real_14 hm ha hb
  rw [hg] at h
  exact h

theorem CL_real_15_eq {a b : Int} {m : AW} (hm : m.lo ≤ m.next) (ha : Fit .i64 a) (hb : Fit .i64 b) (hl : (FloatKind.f64.format.order (flb (w4 a)) (flb (w4 b)) == some .lt) = false) (hq : (FloatKind.f64.format.order (flb (w4 a)) (flb (w4 b)) == some .eq) = true) (hg : (FloatKind.f64.format.order (flb (w4 b)) (flb (w4 a)) == some .lt) = false) : Fc Tryz.prog 29 [.int .i64 4, .int .i64 15, .int .i64 a, .int .i64 b] m fun v m' => v = .tuple ⟨[.bool true, .int .i64 0]⟩ ∧ Ext m m' := by
  have h := Compare_real_15 hm ha hb
  rw [hg, hq] at h
  exact h

theorem CM_real_eq {a b : Int} {m : AW} (hm : m.lo ≤ m.next) (ha : Fit .i64 a) (hb : Fit .i64 b) (hg : (FloatKind.f64.format.order (flb (w4 b)) (flb (w4 a)) == some .lt) = false) : Fc Tryz.prog 29 [.int .i64 4, .int .i64 12, .int .i64 b, .int .i64 a] m fun v m' => v = .tuple ⟨[.bool false, .int .i64 0]⟩ ∧ Ext m m' := by
  have h := Compare_real_12 hm hb ha
  rw [hg] at h
  exact h

theorem orders_real_eq {a b : Int} {m : AW} (hm : m.lo ≤ m.next) (hlay : LaidAt lays m) (ha : Fit .i64 a) (hb : Fit .i64 b) (hl : (FloatKind.f64.format.order (flb (w4 a)) (flb (w4 b)) == some .lt) = false) (hq : (FloatKind.f64.format.order (flb (w4 a)) (flb (w4 b)) == some .eq) = true) (hg : (FloatKind.f64.format.order (flb (w4 b)) (flb (w4 a)) == some .lt) = false) (h1 : w4 a ≠ 9221120237041090561) (h2 : w4 b ≠ 9221120237041090561) : Fc Tryz.prog 10 [.int .i64 4, .int .i64 a, .int .i64 b] m fun v m' => v = .bool true ∧ Ext m m' := by
  refine Fc.body (c := _) Tryz.func10 rfl rfl rfl rfl hm ?_
  refine Ce.seq ?_
  refine Ce.region ?_
  refine Ie.p rfl rfl rfl rfl ?_
  refine Ie.nil ?_
  refine Ne.seq ?_
  refine Ce.seq ?_
  refine Ce.region ?_
  refine Ie.p rfl rfl rfl rfl ?_
  refine Ie.p rfl rfl rfl rfl ?_
  refine Ie.p rfl rfl rfl rfl ?_
  refine Ie.call _ rfl rfl rfl rfl rfl rfl (fun m hm => CL_real_12_eq hm.lole ha hb hl hq hg) ?_
  refine Ie.p rfl rfl rfl rfl ?_
  refine Ie.p rfl rfl rfl rfl ?_
  refine Ie.p rfl rfl rfl rfl ?_
  refine Ie.p rfl rfl rfl rfl ?_
  refine Ie.p rfl rfl rfl rfl ?_
  refine Ie.nil ?_
  refine Ne.seq ?_
  refine Ce.seq ?_
  refine Ce.seq ?_
  refine Ce.region ?_
  refine Ie.p rfl rfl rfl rfl ?_
  refine Ie.p rfl rfl rfl rfl ?_
  refine Ie.nil ?_
  refine Ne.seq ?_
  refine Ce.cond_false rfl ?_
  refine Ce.skip ?_
  refine Ne.seq ?_
  refine Ce.seq ?_
  refine Ce.region ?_
  refine Ie.p rfl rfl rfl rfl ?_
  refine Ie.p rfl rfl rfl rfl ?_
  refine Ie.p rfl rfl rfl rfl ?_
  refine Ie.call _ rfl rfl rfl rfl rfl rfl (fun m hm => CL_real_10_eq hm.lole ha hb hl hq hg) ?_
  refine Ie.p rfl rfl rfl rfl ?_
  refine Ie.p rfl rfl rfl rfl ?_
  refine Ie.p rfl rfl rfl rfl ?_
  refine Ie.p rfl rfl rfl rfl ?_
  refine Ie.p rfl rfl rfl rfl ?_
  refine Ie.nil ?_
  refine Ne.seq ?_
  refine Ce.seq ?_
  refine Ce.region ?_
  refine Ie.p rfl rfl rfl rfl ?_
  refine Ie.p rfl rfl rfl rfl ?_
  refine Ie.p rfl rfl rfl rfl ?_
  refine Ie.call _ rfl rfl rfl rfl rfl rfl (fun m hm => CL_real_14_eq hm.lole ha hb hl hq hg) ?_
  refine Ie.p rfl rfl rfl rfl ?_
  refine Ie.p rfl rfl rfl rfl ?_
  refine Ie.p rfl rfl rfl rfl ?_
  refine Ie.p rfl rfl rfl rfl ?_
  refine Ie.p rfl rfl rfl rfl ?_
  refine Ie.nil ?_
  refine Ne.seq ?_
  refine Ce.seq ?_
  refine Ce.region ?_
  refine Ie.p rfl rfl rfl rfl ?_
  refine Ie.p rfl rfl rfl rfl ?_
  refine Ie.p rfl rfl rfl rfl ?_
  refine Ie.call _ rfl rfl rfl rfl rfl rfl (fun m hm => CL_real_13_eq hm.lole ha hb hl hq hg) ?_
  refine Ie.p rfl rfl rfl rfl ?_
  refine Ie.p rfl rfl rfl rfl ?_
  refine Ie.p rfl rfl rfl rfl ?_
  refine Ie.p rfl rfl rfl rfl ?_
  refine Ie.p rfl rfl rfl rfl ?_
  refine Ie.nil ?_
  refine Ne.seq ?_
  refine Ce.seq ?_
  refine Ce.region ?_
  refine Ie.p rfl rfl rfl rfl ?_
  refine Ie.p rfl rfl rfl rfl ?_
  refine Ie.p rfl rfl rfl rfl ?_
  refine Ie.call _ rfl rfl rfl rfl rfl rfl (fun m hm => CL_real_15_eq hm.lole ha hb hl hq hg) ?_
  refine Ie.p rfl rfl rfl rfl ?_
  refine Ie.p rfl rfl rfl rfl ?_
  refine Ie.p rfl rfl rfl rfl ?_
  refine Ie.p rfl rfl rfl rfl ?_
  refine Ie.p rfl rfl rfl rfl ?_
  refine Ie.nil ?_
  refine Ne.seq ?_
  refine Ce.seq ?_
  refine Ce.region ?_
  refine Ie.p rfl rfl rfl rfl ?_
  refine Ie.p rfl rfl rfl rfl ?_
  refine Ie.p rfl rfl rfl rfl ?_
  refine Ie.call _ rfl rfl rfl rfl rfl rfl (fun m hm => CL_real_11_eq hm.lole ha hb hl hq hg) ?_
  refine Ie.p rfl rfl rfl rfl ?_
  refine Ie.p rfl rfl rfl rfl ?_
  refine Ie.p rfl rfl rfl rfl ?_
  refine Ie.p rfl rfl rfl rfl ?_
  refine Ie.p rfl rfl rfl rfl ?_
  refine Ie.nil ?_
  refine Ne.seq ?_
  refine Ce.seq ?_
  refine Ce.region ?_
  refine Ie.p rfl rfl rfl rfl ?_
  refine Ie.p rfl rfl rfl rfl ?_
  refine Ie.p rfl rfl rfl rfl ?_
  refine Ie.call _ rfl rfl rfl rfl rfl rfl (fun m hm => CM_real_eq hm.lole ha hb hg) ?_
  refine Ie.p rfl rfl rfl rfl ?_
  refine Ie.p rfl rfl rfl rfl ?_
  refine Ie.p rfl rfl rfl rfl ?_
  refine Ie.p rfl rfl rfl rfl ?_
  refine Ie.p rfl rfl rfl rfl ?_
  refine Ie.nil ?_
  refine Ne.seq ?_
  refine Ce.seq ?_
  refine Ce.region ?_
  refine Ie.p rfl rfl rfl rfl ?_
  refine Ie.nil ?_
  refine Ne.seq ?_
  refine Ce.seq ?_
  refine Ce.seq ?_
  refine Ce.region ?_
  refine Ie.p rfl rfl rfl rfl ?_
  refine Ie.nil ?_
  refine Ne.seq ?_
  refine Ce.cond_false rfl ?_
  refine Ce.skip ?_
  refine Ne.seq ?_
  refine Ce.seq ?_
  refine Ce.seq ?_
  refine Ce.region ?_
  refine Ie.p rfl rfl rfl rfl ?_
  refine Ie.nil ?_
  refine Ne.seq ?_
  refine Ce.cond_true rfl ?_
  refine Ce.region ?_
  refine Ie.p rfl rfl rfl rfl ?_
  refine Ie.p rfl rfl rfl rfl ?_
  refine Ie.p rfl rfl rfl rfl ?_
  refine Ie.nil ?_
  refine Ne.seq ?_
  refine Ce.seq ?_
  refine Ce.seq ?_
  refine Ce.region ?_
  refine Ie.p rfl rfl rfl rfl ?_
  refine Ie.nil ?_
  refine Ne.seq ?_
  refine Ce.cond_false rfl ?_
  refine Ce.skip ?_
  refine Ne.seq ?_
  refine Ce.seq ?_
  refine Ce.region ?_
  refine Ie.p rfl rfl rfl rfl ?_
  refine Ie.nil ?_
  refine Ne.seq ?_
  refine Ce.seq ?_
  refine Ce.seq ?_
  refine Ce.region ?_
  refine Ie.p rfl rfl rfl rfl ?_
  refine Ie.p rfl rfl rfl rfl ?_
  refine Ie.nil ?_
  refine Ne.seq ?_
  refine Ce.cond_true rfl ?_
  refine Ce.seq ?_
  refine Ce.region ?_
  refine Ie.p rfl rfl rfl rfl ?_
  refine Ie.p rfl rfl rfl rfl ?_
  refine Ie.call _ rfl rfl rfl rfl rfl rfl (fun m hm => Wrap_real hm.lole ha) ?_
  refine Ie.p rfl rfl rfl rfl ?_
  refine Ie.p rfl rfl rfl rfl ?_
  refine Ie.p rfl rfl rfl rfl ?_
  refine Ie.p rfl rfl rfl rfl ?_
  refine Ie.nil ?_
  refine Ne.seq ?_
  refine Ce.seq ?_
  refine Ce.region ?_
  refine Ie.p rfl rfl rfl rfl ?_
  refine Ie.p rfl rfl rfl rfl ?_
  refine Ie.call _ rfl rfl rfl rfl rfl rfl (fun m hm => Wrap_real hm.lole hb) ?_
  refine Ie.p rfl rfl rfl rfl ?_
  refine Ie.p rfl rfl rfl rfl ?_
  refine Ie.p rfl rfl rfl rfl ?_
  refine Ie.p rfl rfl rfl rfl ?_
  refine Ie.nil ?_
  refine Ne.seq ?_
  refine Ce.region ?_
  refine Ie.p rfl rfl rfl rfl ?_
  refine Ie.bin (v := .bool false) rfl rfl rfl rfl rfl rfl (binS_neql h1) ?_
  refine Ie.p rfl rfl rfl rfl ?_
  refine Ie.p rfl rfl rfl rfl ?_
  refine Ie.bin (v := .bool false) rfl rfl rfl rfl rfl rfl (binS_neql h2) ?_
  refine Ie.p rfl rfl rfl rfl ?_
  refine Ie.p rfl rfl rfl rfl ?_
  refine Ie.nil ?_
  refine Ne.seq ?_
  refine Ce.seq ?_
  refine Ce.region ?_
  refine Ie.call _ rfl rfl rfl rfl rfl rfl (fun m hm => awake_ok (hlay.kr hm)) ?_
  refine Ie.p rfl rfl rfl rfl ?_
  refine Ie.p rfl rfl rfl rfl ?_
  refine Ie.p rfl rfl rfl rfl ?_
  refine Ie.p rfl rfl rfl rfl ?_
  refine Ie.p rfl rfl rfl rfl ?_
  refine Ie.p rfl rfl rfl rfl ?_
  refine Ie.p rfl rfl rfl rfl ?_
  refine Ie.p rfl rfl rfl rfl ?_
  refine Ie.off rfl rfl rfl ?_
  refine Ie.off rfl rfl rfl ?_
  refine Ie.off rfl rfl rfl ?_
  refine Ie.off rfl rfl rfl ?_
  refine Ie.off rfl rfl rfl ?_
  refine Ie.p rfl rfl rfl rfl ?_
  refine Ie.p rfl rfl rfl rfl ?_
  refine Ie.p rfl rfl rfl rfl ?_
  refine Ie.p rfl rfl rfl rfl ?_
  refine Ie.p rfl rfl rfl rfl ?_
  refine Ie.p rfl rfl rfl rfl ?_
  refine Ie.p rfl rfl rfl rfl ?_
  refine Ie.p rfl rfl rfl rfl ?_
  refine Ie.eqBool rfl rfl rfl rfl Tryz.underlying4 rfl rfl ?_
  refine Ie.p rfl rfl rfl rfl ?_
  refine Ie.p rfl rfl rfl rfl ?_
  refine Ie.p rfl rfl rfl rfl ?_
  refine Ie.p rfl rfl rfl rfl ?_
  refine Ie.p rfl rfl rfl rfl ?_
  refine Ie.p rfl rfl rfl rfl ?_
  refine Ie.p rfl rfl rfl rfl ?_
  refine Ie.eqBool rfl rfl rfl rfl Tryz.underlying4 rfl rfl ?_
  refine Ie.p rfl rfl rfl rfl ?_
  refine Ie.p rfl rfl rfl rfl ?_
  refine Ie.p rfl rfl rfl rfl ?_
  refine Ie.p rfl rfl rfl rfl ?_
  refine Ie.p rfl rfl rfl rfl ?_
  refine Ie.eqBool rfl rfl rfl rfl Tryz.underlying4 rfl rfl ?_
  refine Ie.p rfl rfl rfl rfl ?_
  refine Ie.p rfl rfl rfl rfl ?_
  refine Ie.p rfl rfl rfl rfl ?_
  refine Ie.p rfl rfl rfl rfl ?_
  refine Ie.eqBool rfl rfl rfl rfl Tryz.underlying4 rfl rfl ?_
  refine Ie.p rfl rfl rfl rfl ?_
  refine Ie.p rfl rfl rfl rfl ?_
  refine Ie.nil ?_
  refine Ne.seq ?_
  refine Ce.ret ?_
  exact Re.end_ rfl rfl (fun m hm => ⟨rfl, hm.ext⟩)

theorem CL_real_10_gt {a b : Int} {m : AW} (hm : m.lo ≤ m.next) (ha : Fit .i64 a) (hb : Fit .i64 b) (hl : (FloatKind.f64.format.order (flb (w4 a)) (flb (w4 b)) == some .lt) = false) (hq : (FloatKind.f64.format.order (flb (w4 a)) (flb (w4 b)) == some .eq) = false) (hg : (FloatKind.f64.format.order (flb (w4 b)) (flb (w4 a)) == some .lt) = true) : Fc Tryz.prog 29 [.int .i64 4, .int .i64 10, .int .i64 a, .int .i64 b] m fun v m' => v = .tuple ⟨[.bool false, .int .i64 0]⟩ ∧ Ext m m' := by
  have h := Compare_real_10 hm ha hb
  rw [hq] at h
  exact h

theorem CL_real_11_gt {a b : Int} {m : AW} (hm : m.lo ≤ m.next) (ha : Fit .i64 a) (hb : Fit .i64 b) (hl : (FloatKind.f64.format.order (flb (w4 a)) (flb (w4 b)) == some .lt) = false) (hq : (FloatKind.f64.format.order (flb (w4 a)) (flb (w4 b)) == some .eq) = false) (hg : (FloatKind.f64.format.order (flb (w4 b)) (flb (w4 a)) == some .lt) = true) : Fc Tryz.prog 29 [.int .i64 4, .int .i64 11, .int .i64 a, .int .i64 b] m fun v m' => v = .tuple ⟨[.bool true, .int .i64 0]⟩ ∧ Ext m m' := by
  have h := Compare_real_11 hm ha hb
  rw [hq] at h
  exact h

theorem CL_real_12_gt {a b : Int} {m : AW} (hm : m.lo ≤ m.next) (ha : Fit .i64 a) (hb : Fit .i64 b) (hl : (FloatKind.f64.format.order (flb (w4 a)) (flb (w4 b)) == some .lt) = false) (hq : (FloatKind.f64.format.order (flb (w4 a)) (flb (w4 b)) == some .eq) = false) (hg : (FloatKind.f64.format.order (flb (w4 b)) (flb (w4 a)) == some .lt) = true) : Fc Tryz.prog 29 [.int .i64 4, .int .i64 12, .int .i64 a, .int .i64 b] m fun v m' => v = .tuple ⟨[.bool false, .int .i64 0]⟩ ∧ Ext m m' := by
  have h := Compare_real_12 hm ha hb
  rw [hl] at h
  exact h

theorem CL_real_13_gt {a b : Int} {m : AW} (hm : m.lo ≤ m.next) (ha : Fit .i64 a) (hb : Fit .i64 b) (hl : (FloatKind.f64.format.order (flb (w4 a)) (flb (w4 b)) == some .lt) = false) (hq : (FloatKind.f64.format.order (flb (w4 a)) (flb (w4 b)) == some .eq) = false) (hg : (FloatKind.f64.format.order (flb (w4 b)) (flb (w4 a)) == some .lt) = true) : Fc Tryz.prog 29 [.int .i64 4, .int .i64 13, .int .i64 a, .int .i64 b] m fun v m' => v = .tuple ⟨[.bool false, .int .i64 0]⟩ ∧ Ext m m' := by
  have h := Compare_real_13 hm ha hb
  rw [hl, hq] at h
  exact h

theorem CL_real_14_gt {a b : Int} {m : AW} (hm : m.lo ≤ m.next) (ha : Fit .i64 a) (hb : Fit .i64 b) (hl : (FloatKind.f64.format.order (flb (w4 a)) (flb (w4 b)) == some .lt) = false) (hq : (FloatKind.f64.format.order (flb (w4 a)) (flb (w4 b)) == some .eq) = false) (hg : (FloatKind.f64.format.order (flb (w4 b)) (flb (w4 a)) == some .lt) = true) : Fc Tryz.prog 29 [.int .i64 4, .int .i64 14, .int .i64 a, .int .i64 b] m fun v m' => v = .tuple ⟨[.bool true, .int .i64 0]⟩ ∧ Ext m m' := by
  have h := Compare_real_14 hm ha hb
  rw [hg] at h
  exact h

theorem CL_real_15_gt {a b : Int} {m : AW} (hm : m.lo ≤ m.next) (ha : Fit .i64 a) (hb : Fit .i64 b) (hl : (FloatKind.f64.format.order (flb (w4 a)) (flb (w4 b)) == some .lt) = false) (hq : (FloatKind.f64.format.order (flb (w4 a)) (flb (w4 b)) == some .eq) = false) (hg : (FloatKind.f64.format.order (flb (w4 b)) (flb (w4 a)) == some .lt) = true) : Fc Tryz.prog 29 [.int .i64 4, .int .i64 15, .int .i64 a, .int .i64 b] m fun v m' => v = .tuple ⟨[.bool true, .int .i64 0]⟩ ∧ Ext m m' := by
  have h := Compare_real_15 hm ha hb
  rw [hg, hq] at h
  exact h

theorem CM_real_gt {a b : Int} {m : AW} (hm : m.lo ≤ m.next) (ha : Fit .i64 a) (hb : Fit .i64 b) (hg : (FloatKind.f64.format.order (flb (w4 b)) (flb (w4 a)) == some .lt) = true) : Fc Tryz.prog 29 [.int .i64 4, .int .i64 12, .int .i64 b, .int .i64 a] m fun v m' => v = .tuple ⟨[.bool true, .int .i64 0]⟩ ∧ Ext m m' := by
  have h := Compare_real_12 hm hb ha
  rw [hg] at h
  exact h

theorem orders_real_gt {a b : Int} {m : AW} (hm : m.lo ≤ m.next) (hlay : LaidAt lays m) (ha : Fit .i64 a) (hb : Fit .i64 b) (hl : (FloatKind.f64.format.order (flb (w4 a)) (flb (w4 b)) == some .lt) = false) (hq : (FloatKind.f64.format.order (flb (w4 a)) (flb (w4 b)) == some .eq) = false) (hg : (FloatKind.f64.format.order (flb (w4 b)) (flb (w4 a)) == some .lt) = true) (h1 : w4 a ≠ 9221120237041090561) (h2 : w4 b ≠ 9221120237041090561) : Fc Tryz.prog 10 [.int .i64 4, .int .i64 a, .int .i64 b] m fun v m' => v = .bool true ∧ Ext m m' := by
  refine Fc.body (c := _) Tryz.func10 rfl rfl rfl rfl hm ?_
  refine Ce.seq ?_
  refine Ce.region ?_
  refine Ie.p rfl rfl rfl rfl ?_
  refine Ie.nil ?_
  refine Ne.seq ?_
  refine Ce.seq ?_
  refine Ce.region ?_
  refine Ie.p rfl rfl rfl rfl ?_
  refine Ie.p rfl rfl rfl rfl ?_
  refine Ie.p rfl rfl rfl rfl ?_
  refine Ie.call _ rfl rfl rfl rfl rfl rfl (fun m hm => CL_real_12_gt hm.lole ha hb hl hq hg) ?_
  refine Ie.p rfl rfl rfl rfl ?_
  refine Ie.p rfl rfl rfl rfl ?_
  refine Ie.p rfl rfl rfl rfl ?_
  refine Ie.p rfl rfl rfl rfl ?_
  refine Ie.p rfl rfl rfl rfl ?_
  refine Ie.nil ?_
  refine Ne.seq ?_
  refine Ce.seq ?_
  refine Ce.seq ?_
  refine Ce.region ?_
  refine Ie.p rfl rfl rfl rfl ?_
  refine Ie.p rfl rfl rfl rfl ?_
  refine Ie.nil ?_
  refine Ne.seq ?_
  refine Ce.cond_false rfl ?_
  refine Ce.skip ?_
  refine Ne.seq ?_
  refine Ce.seq ?_
  refine Ce.region ?_
  refine Ie.p rfl rfl rfl rfl ?_
  refine Ie.p rfl rfl rfl rfl ?_
  refine Ie.p rfl rfl rfl rfl ?_
  refine Ie.call _ rfl rfl rfl rfl rfl rfl (fun m hm => CL_real_10_gt hm.lole ha hb hl hq hg) ?_
  refine Ie.p rfl rfl rfl rfl ?_
  refine Ie.p rfl rfl rfl rfl ?_
  refine Ie.p rfl rfl rfl rfl ?_
  refine Ie.p rfl rfl rfl rfl ?_
  refine Ie.p rfl rfl rfl rfl ?_
  refine Ie.nil ?_
  refine Ne.seq ?_
  refine Ce.seq ?_
  refine Ce.region ?_
  refine Ie.p rfl rfl rfl rfl ?_
  refine Ie.p rfl rfl rfl rfl ?_
  refine Ie.p rfl rfl rfl rfl ?_
  refine Ie.call _ rfl rfl rfl rfl rfl rfl (fun m hm => CL_real_14_gt hm.lole ha hb hl hq hg) ?_
  refine Ie.p rfl rfl rfl rfl ?_
  refine Ie.p rfl rfl rfl rfl ?_
  refine Ie.p rfl rfl rfl rfl ?_
  refine Ie.p rfl rfl rfl rfl ?_
  refine Ie.p rfl rfl rfl rfl ?_
  refine Ie.nil ?_
  refine Ne.seq ?_
  refine Ce.seq ?_
  refine Ce.region ?_
  refine Ie.p rfl rfl rfl rfl ?_
  refine Ie.p rfl rfl rfl rfl ?_
  refine Ie.p rfl rfl rfl rfl ?_
  refine Ie.call _ rfl rfl rfl rfl rfl rfl (fun m hm => CL_real_13_gt hm.lole ha hb hl hq hg) ?_
  refine Ie.p rfl rfl rfl rfl ?_
  refine Ie.p rfl rfl rfl rfl ?_
  refine Ie.p rfl rfl rfl rfl ?_
  refine Ie.p rfl rfl rfl rfl ?_
  refine Ie.p rfl rfl rfl rfl ?_
  refine Ie.nil ?_
  refine Ne.seq ?_
  refine Ce.seq ?_
  refine Ce.region ?_
  refine Ie.p rfl rfl rfl rfl ?_
  refine Ie.p rfl rfl rfl rfl ?_
  refine Ie.p rfl rfl rfl rfl ?_
  refine Ie.call _ rfl rfl rfl rfl rfl rfl (fun m hm => CL_real_15_gt hm.lole ha hb hl hq hg) ?_
  refine Ie.p rfl rfl rfl rfl ?_
  refine Ie.p rfl rfl rfl rfl ?_
  refine Ie.p rfl rfl rfl rfl ?_
  refine Ie.p rfl rfl rfl rfl ?_
  refine Ie.p rfl rfl rfl rfl ?_
  refine Ie.nil ?_
  refine Ne.seq ?_
  refine Ce.seq ?_
  refine Ce.region ?_
  refine Ie.p rfl rfl rfl rfl ?_
  refine Ie.p rfl rfl rfl rfl ?_
  refine Ie.p rfl rfl rfl rfl ?_
  refine Ie.call _ rfl rfl rfl rfl rfl rfl (fun m hm => CL_real_11_gt hm.lole ha hb hl hq hg) ?_
  refine Ie.p rfl rfl rfl rfl ?_
  refine Ie.p rfl rfl rfl rfl ?_
  refine Ie.p rfl rfl rfl rfl ?_
  refine Ie.p rfl rfl rfl rfl ?_
  refine Ie.p rfl rfl rfl rfl ?_
  refine Ie.nil ?_
  refine Ne.seq ?_
  refine Ce.seq ?_
  refine Ce.region ?_
  refine Ie.p rfl rfl rfl rfl ?_
  refine Ie.p rfl rfl rfl rfl ?_
  refine Ie.p rfl rfl rfl rfl ?_
  refine Ie.call _ rfl rfl rfl rfl rfl rfl (fun m hm => CM_real_gt hm.lole ha hb hg) ?_
  refine Ie.p rfl rfl rfl rfl ?_
  refine Ie.p rfl rfl rfl rfl ?_
  refine Ie.p rfl rfl rfl rfl ?_
  refine Ie.p rfl rfl rfl rfl ?_
  refine Ie.p rfl rfl rfl rfl ?_
  refine Ie.nil ?_
  refine Ne.seq ?_
  refine Ce.seq ?_
  refine Ce.region ?_
  refine Ie.p rfl rfl rfl rfl ?_
  refine Ie.nil ?_
  refine Ne.seq ?_
  refine Ce.seq ?_
  refine Ce.seq ?_
  refine Ce.region ?_
  refine Ie.p rfl rfl rfl rfl ?_
  refine Ie.nil ?_
  refine Ne.seq ?_
  refine Ce.cond_false rfl ?_
  refine Ce.skip ?_
  refine Ne.seq ?_
  refine Ce.seq ?_
  refine Ce.seq ?_
  refine Ce.region ?_
  refine Ie.p rfl rfl rfl rfl ?_
  refine Ie.nil ?_
  refine Ne.seq ?_
  refine Ce.cond_false rfl ?_
  refine Ce.skip ?_
  refine Ne.seq ?_
  refine Ce.seq ?_
  refine Ce.seq ?_
  refine Ce.region ?_
  refine Ie.p rfl rfl rfl rfl ?_
  refine Ie.nil ?_
  refine Ne.seq ?_
  refine Ce.cond_true rfl ?_
  refine Ce.region ?_
  refine Ie.p rfl rfl rfl rfl ?_
  refine Ie.p rfl rfl rfl rfl ?_
  refine Ie.p rfl rfl rfl rfl ?_
  refine Ie.nil ?_
  refine Ne.seq ?_
  refine Ce.seq ?_
  refine Ce.region ?_
  refine Ie.p rfl rfl rfl rfl ?_
  refine Ie.nil ?_
  refine Ne.seq ?_
  refine Ce.seq ?_
  refine Ce.seq ?_
  refine Ce.region ?_
  refine Ie.p rfl rfl rfl rfl ?_
  refine Ie.p rfl rfl rfl rfl ?_
  refine Ie.nil ?_
  refine Ne.seq ?_
  refine Ce.cond_true rfl ?_
  refine Ce.seq ?_
  refine Ce.region ?_
  refine Ie.p rfl rfl rfl rfl ?_
  refine Ie.p rfl rfl rfl rfl ?_
  refine Ie.call _ rfl rfl rfl rfl rfl rfl (fun m hm => Wrap_real hm.lole ha) ?_
  refine Ie.p rfl rfl rfl rfl ?_
  refine Ie.p rfl rfl rfl rfl ?_
  refine Ie.p rfl rfl rfl rfl ?_
  refine Ie.p rfl rfl rfl rfl ?_
  refine Ie.nil ?_
  refine Ne.seq ?_
  refine Ce.seq ?_
  refine Ce.region ?_
  refine Ie.p rfl rfl rfl rfl ?_
  refine Ie.p rfl rfl rfl rfl ?_
  refine Ie.call _ rfl rfl rfl rfl rfl rfl (fun m hm => Wrap_real hm.lole hb) ?_
  refine Ie.p rfl rfl rfl rfl ?_
  refine Ie.p rfl rfl rfl rfl ?_
  refine Ie.p rfl rfl rfl rfl ?_
  refine Ie.p rfl rfl rfl rfl ?_
  refine Ie.nil ?_
  refine Ne.seq ?_
  refine Ce.region ?_
  refine Ie.p rfl rfl rfl rfl ?_
  refine Ie.bin (v := .bool false) rfl rfl rfl rfl rfl rfl (binS_neql h1) ?_
  refine Ie.p rfl rfl rfl rfl ?_
  refine Ie.p rfl rfl rfl rfl ?_
  refine Ie.bin (v := .bool false) rfl rfl rfl rfl rfl rfl (binS_neql h2) ?_
  refine Ie.p rfl rfl rfl rfl ?_
  refine Ie.p rfl rfl rfl rfl ?_
  refine Ie.nil ?_
  refine Ne.seq ?_
  refine Ce.seq ?_
  refine Ce.region ?_
  refine Ie.call _ rfl rfl rfl rfl rfl rfl (fun m hm => awake_ok (hlay.kr hm)) ?_
  refine Ie.p rfl rfl rfl rfl ?_
  refine Ie.p rfl rfl rfl rfl ?_
  refine Ie.p rfl rfl rfl rfl ?_
  refine Ie.p rfl rfl rfl rfl ?_
  refine Ie.p rfl rfl rfl rfl ?_
  refine Ie.p rfl rfl rfl rfl ?_
  refine Ie.p rfl rfl rfl rfl ?_
  refine Ie.p rfl rfl rfl rfl ?_
  refine Ie.off rfl rfl rfl ?_
  refine Ie.off rfl rfl rfl ?_
  refine Ie.off rfl rfl rfl ?_
  refine Ie.off rfl rfl rfl ?_
  refine Ie.off rfl rfl rfl ?_
  refine Ie.p rfl rfl rfl rfl ?_
  refine Ie.p rfl rfl rfl rfl ?_
  refine Ie.p rfl rfl rfl rfl ?_
  refine Ie.p rfl rfl rfl rfl ?_
  refine Ie.p rfl rfl rfl rfl ?_
  refine Ie.p rfl rfl rfl rfl ?_
  refine Ie.p rfl rfl rfl rfl ?_
  refine Ie.p rfl rfl rfl rfl ?_
  refine Ie.eqBool rfl rfl rfl rfl Tryz.underlying4 rfl rfl ?_
  refine Ie.p rfl rfl rfl rfl ?_
  refine Ie.p rfl rfl rfl rfl ?_
  refine Ie.p rfl rfl rfl rfl ?_
  refine Ie.p rfl rfl rfl rfl ?_
  refine Ie.p rfl rfl rfl rfl ?_
  refine Ie.off rfl rfl rfl ?_
  refine Ie.p rfl rfl rfl rfl ?_
  refine Ie.eqBool rfl rfl rfl rfl Tryz.underlying4 rfl rfl ?_
  refine Ie.p rfl rfl rfl rfl ?_
  refine Ie.p rfl rfl rfl rfl ?_
  refine Ie.p rfl rfl rfl rfl ?_
  refine Ie.p rfl rfl rfl rfl ?_
  refine Ie.p rfl rfl rfl rfl ?_
  refine Ie.eqBool rfl rfl rfl rfl Tryz.underlying4 rfl rfl ?_
  refine Ie.p rfl rfl rfl rfl ?_
  refine Ie.p rfl rfl rfl rfl ?_
  refine Ie.p rfl rfl rfl rfl ?_
  refine Ie.p rfl rfl rfl rfl ?_
  refine Ie.eqBool rfl rfl rfl rfl Tryz.underlying4 rfl rfl ?_
  refine Ie.p rfl rfl rfl rfl ?_
  refine Ie.p rfl rfl rfl rfl ?_
  refine Ie.nil ?_
  refine Ne.seq ?_
  refine Ce.ret ?_
  exact Re.end_ rfl rfl (fun m hm => ⟨rfl, hm.ext⟩)

theorem CL_real_10_nan {a b : Int} {m : AW} (hm : m.lo ≤ m.next) (ha : Fit .i64 a) (hb : Fit .i64 b) (hl : (FloatKind.f64.format.order (flb (w4 a)) (flb (w4 b)) == some .lt) = false) (hq : (FloatKind.f64.format.order (flb (w4 a)) (flb (w4 b)) == some .eq) = false) (hg : (FloatKind.f64.format.order (flb (w4 b)) (flb (w4 a)) == some .lt) = false) : Fc Tryz.prog 29 [.int .i64 4, .int .i64 10, .int .i64 a, .int .i64 b] m fun v m' => v = .tuple ⟨[.bool false, .int .i64 0]⟩ ∧ Ext m m' := by
  have h := Compare_real_10 hm ha hb
  rw [hq] at h
  exact h

theorem CL_real_11_nan {a b : Int} {m : AW} (hm : m.lo ≤ m.next) (ha : Fit .i64 a) (hb : Fit .i64 b) (hl : (FloatKind.f64.format.order (flb (w4 a)) (flb (w4 b)) == some .lt) = false) (hq : (FloatKind.f64.format.order (flb (w4 a)) (flb (w4 b)) == some .eq) = false) (hg : (FloatKind.f64.format.order (flb (w4 b)) (flb (w4 a)) == some .lt) = false) : Fc Tryz.prog 29 [.int .i64 4, .int .i64 11, .int .i64 a, .int .i64 b] m fun v m' => v = .tuple ⟨[.bool true, .int .i64 0]⟩ ∧ Ext m m' := by
  have h := Compare_real_11 hm ha hb
  rw [hq] at h
  exact h

theorem CL_real_12_nan {a b : Int} {m : AW} (hm : m.lo ≤ m.next) (ha : Fit .i64 a) (hb : Fit .i64 b) (hl : (FloatKind.f64.format.order (flb (w4 a)) (flb (w4 b)) == some .lt) = false) (hq : (FloatKind.f64.format.order (flb (w4 a)) (flb (w4 b)) == some .eq) = false) (hg : (FloatKind.f64.format.order (flb (w4 b)) (flb (w4 a)) == some .lt) = false) : Fc Tryz.prog 29 [.int .i64 4, .int .i64 12, .int .i64 a, .int .i64 b] m fun v m' => v = .tuple ⟨[.bool false, .int .i64 0]⟩ ∧ Ext m m' := by
  have h := Compare_real_12 hm ha hb
  rw [hl] at h
  exact h

theorem CL_real_13_nan {a b : Int} {m : AW} (hm : m.lo ≤ m.next) (ha : Fit .i64 a) (hb : Fit .i64 b) (hl : (FloatKind.f64.format.order (flb (w4 a)) (flb (w4 b)) == some .lt) = false) (hq : (FloatKind.f64.format.order (flb (w4 a)) (flb (w4 b)) == some .eq) = false) (hg : (FloatKind.f64.format.order (flb (w4 b)) (flb (w4 a)) == some .lt) = false) : Fc Tryz.prog 29 [.int .i64 4, .int .i64 13, .int .i64 a, .int .i64 b] m fun v m' => v = .tuple ⟨[.bool false, .int .i64 0]⟩ ∧ Ext m m' := by
  have h := Compare_real_13 hm ha hb
  rw [hl, hq] at h
  exact h

theorem CL_real_14_nan {a b : Int} {m : AW} (hm : m.lo ≤ m.next) (ha : Fit .i64 a) (hb : Fit .i64 b) (hl : (FloatKind.f64.format.order (flb (w4 a)) (flb (w4 b)) == some .lt) = false) (hq : (FloatKind.f64.format.order (flb (w4 a)) (flb (w4 b)) == some .eq) = false) (hg : (FloatKind.f64.format.order (flb (w4 b)) (flb (w4 a)) == some .lt) = false) : Fc Tryz.prog 29 [.int .i64 4, .int .i64 14, .int .i64 a, .int .i64 b] m fun v m' => v = .tuple ⟨[.bool false, .int .i64 0]⟩ ∧ Ext m m' := by
  have h := Compare_real_14 hm ha hb
  rw [hg] at h
  exact h

theorem CL_real_15_nan {a b : Int} {m : AW} (hm : m.lo ≤ m.next) (ha : Fit .i64 a) (hb : Fit .i64 b) (hl : (FloatKind.f64.format.order (flb (w4 a)) (flb (w4 b)) == some .lt) = false) (hq : (FloatKind.f64.format.order (flb (w4 a)) (flb (w4 b)) == some .eq) = false) (hg : (FloatKind.f64.format.order (flb (w4 b)) (flb (w4 a)) == some .lt) = false) : Fc Tryz.prog 29 [.int .i64 4, .int .i64 15, .int .i64 a, .int .i64 b] m fun v m' => v = .tuple ⟨[.bool false, .int .i64 0]⟩ ∧ Ext m m' := by
  have h := Compare_real_15 hm ha hb
  rw [hg, hq] at h
  exact h

theorem CM_real_nan {a b : Int} {m : AW} (hm : m.lo ≤ m.next) (ha : Fit .i64 a) (hb : Fit .i64 b) (hg : (FloatKind.f64.format.order (flb (w4 b)) (flb (w4 a)) == some .lt) = false) : Fc Tryz.prog 29 [.int .i64 4, .int .i64 12, .int .i64 b, .int .i64 a] m fun v m' => v = .tuple ⟨[.bool false, .int .i64 0]⟩ ∧ Ext m m' := by
  have h := Compare_real_12 hm hb ha
  rw [hg] at h
  exact h

theorem orders_nan1 {a b : Int} {m : AW} (hm : m.lo ≤ m.next) (hlay : LaidAt lays m) (ha : Fit .i64 a) (hb : Fit .i64 b) (hl : (FloatKind.f64.format.order (flb (w4 a)) (flb (w4 b)) == some .lt) = false) (hq : (FloatKind.f64.format.order (flb (w4 a)) (flb (w4 b)) == some .eq) = false) (hg : (FloatKind.f64.format.order (flb (w4 b)) (flb (w4 a)) == some .lt) = false) (h1 : w4 a = 9221120237041090561) : Fc Tryz.prog 10 [.int .i64 4, .int .i64 a, .int .i64 b] m fun v m' => v = .bool true ∧ Ext m m' := by
  refine Fc.body (c := _) Tryz.func10 rfl rfl rfl rfl hm ?_
  refine Ce.seq ?_
  refine Ce.region ?_
  refine Ie.p rfl rfl rfl rfl ?_
  refine Ie.nil ?_
  refine Ne.seq ?_
  refine Ce.seq ?_
  refine Ce.region ?_
  refine Ie.p rfl rfl rfl rfl ?_
  refine Ie.p rfl rfl rfl rfl ?_
  refine Ie.p rfl rfl rfl rfl ?_
  refine Ie.call _ rfl rfl rfl rfl rfl rfl (fun m hm => CL_real_12_nan hm.lole ha hb hl hq hg) ?_
  refine Ie.p rfl rfl rfl rfl ?_
  refine Ie.p rfl rfl rfl rfl ?_
  refine Ie.p rfl rfl rfl rfl ?_
  refine Ie.p rfl rfl rfl rfl ?_
  refine Ie.p rfl rfl rfl rfl ?_
  refine Ie.nil ?_
  refine Ne.seq ?_
  refine Ce.seq ?_
  refine Ce.seq ?_
  refine Ce.region ?_
  refine Ie.p rfl rfl rfl rfl ?_
  refine Ie.p rfl rfl rfl rfl ?_
  refine Ie.nil ?_
  refine Ne.seq ?_
  refine Ce.cond_false rfl ?_
  refine Ce.skip ?_
  refine Ne.seq ?_
  refine Ce.seq ?_
  refine Ce.region ?_
  refine Ie.p rfl rfl rfl rfl ?_
  refine Ie.p rfl rfl rfl rfl ?_
  refine Ie.p rfl rfl rfl rfl ?_
  refine Ie.call _ rfl rfl rfl rfl rfl rfl (fun m hm => CL_real_10_nan hm.lole ha hb hl hq hg) ?_
  refine Ie.p rfl rfl rfl rfl ?_
  refine Ie.p rfl rfl rfl rfl ?_
  refine Ie.p rfl rfl rfl rfl ?_
  refine Ie.p rfl rfl rfl rfl ?_
  refine Ie.p rfl rfl rfl rfl ?_
  refine Ie.nil ?_
  refine Ne.seq ?_
  refine Ce.seq ?_
  refine Ce.region ?_
  refine Ie.p rfl rfl rfl rfl ?_
  refine Ie.p rfl rfl rfl rfl ?_
  refine Ie.p rfl rfl rfl rfl ?_
  refine Ie.call _ rfl rfl rfl rfl rfl rfl (fun m hm => CL_real_14_nan hm.lole ha hb hl hq hg) ?_
  refine Ie.p rfl rfl rfl rfl ?_
  refine Ie.p rfl rfl rfl rfl ?_
  refine Ie.p rfl rfl rfl rfl ?_
  refine Ie.p rfl rfl rfl rfl ?_
  refine Ie.p rfl rfl rfl rfl ?_
  refine Ie.nil ?_
  refine Ne.seq ?_
  refine Ce.seq ?_
  refine Ce.region ?_
  refine Ie.p rfl rfl rfl rfl ?_
  refine Ie.p rfl rfl rfl rfl ?_
  refine Ie.p rfl rfl rfl rfl ?_
  refine Ie.call _ rfl rfl rfl rfl rfl rfl (fun m hm => CL_real_13_nan hm.lole ha hb hl hq hg) ?_
  refine Ie.p rfl rfl rfl rfl ?_
  refine Ie.p rfl rfl rfl rfl ?_
  refine Ie.p rfl rfl rfl rfl ?_
  refine Ie.p rfl rfl rfl rfl ?_
  refine Ie.p rfl rfl rfl rfl ?_
  refine Ie.nil ?_
  refine Ne.seq ?_
  refine Ce.seq ?_
  refine Ce.region ?_
  refine Ie.p rfl rfl rfl rfl ?_
  refine Ie.p rfl rfl rfl rfl ?_
  refine Ie.p rfl rfl rfl rfl ?_
  refine Ie.call _ rfl rfl rfl rfl rfl rfl (fun m hm => CL_real_15_nan hm.lole ha hb hl hq hg) ?_
  refine Ie.p rfl rfl rfl rfl ?_
  refine Ie.p rfl rfl rfl rfl ?_
  refine Ie.p rfl rfl rfl rfl ?_
  refine Ie.p rfl rfl rfl rfl ?_
  refine Ie.p rfl rfl rfl rfl ?_
  refine Ie.nil ?_
  refine Ne.seq ?_
  refine Ce.seq ?_
  refine Ce.region ?_
  refine Ie.p rfl rfl rfl rfl ?_
  refine Ie.p rfl rfl rfl rfl ?_
  refine Ie.p rfl rfl rfl rfl ?_
  refine Ie.call _ rfl rfl rfl rfl rfl rfl (fun m hm => CL_real_11_nan hm.lole ha hb hl hq hg) ?_
  refine Ie.p rfl rfl rfl rfl ?_
  refine Ie.p rfl rfl rfl rfl ?_
  refine Ie.p rfl rfl rfl rfl ?_
  refine Ie.p rfl rfl rfl rfl ?_
  refine Ie.p rfl rfl rfl rfl ?_
  refine Ie.nil ?_
  refine Ne.seq ?_
  refine Ce.seq ?_
  refine Ce.region ?_
  refine Ie.p rfl rfl rfl rfl ?_
  refine Ie.p rfl rfl rfl rfl ?_
  refine Ie.p rfl rfl rfl rfl ?_
  refine Ie.call _ rfl rfl rfl rfl rfl rfl (fun m hm => CM_real_nan hm.lole ha hb hg) ?_
  refine Ie.p rfl rfl rfl rfl ?_
  refine Ie.p rfl rfl rfl rfl ?_
  refine Ie.p rfl rfl rfl rfl ?_
  refine Ie.p rfl rfl rfl rfl ?_
  refine Ie.p rfl rfl rfl rfl ?_
  refine Ie.nil ?_
  refine Ne.seq ?_
  refine Ce.seq ?_
  refine Ce.region ?_
  refine Ie.p rfl rfl rfl rfl ?_
  refine Ie.nil ?_
  refine Ne.seq ?_
  refine Ce.seq ?_
  refine Ce.seq ?_
  refine Ce.region ?_
  refine Ie.p rfl rfl rfl rfl ?_
  refine Ie.nil ?_
  refine Ne.seq ?_
  refine Ce.cond_false rfl ?_
  refine Ce.skip ?_
  refine Ne.seq ?_
  refine Ce.seq ?_
  refine Ce.seq ?_
  refine Ce.region ?_
  refine Ie.p rfl rfl rfl rfl ?_
  refine Ie.nil ?_
  refine Ne.seq ?_
  refine Ce.cond_false rfl ?_
  refine Ce.skip ?_
  refine Ne.seq ?_
  refine Ce.seq ?_
  refine Ce.seq ?_
  refine Ce.region ?_
  refine Ie.p rfl rfl rfl rfl ?_
  refine Ie.nil ?_
  refine Ne.seq ?_
  refine Ce.cond_false rfl ?_
  refine Ce.skip ?_
  refine Ne.seq ?_
  refine Ce.seq ?_
  refine Ce.region ?_
  refine Ie.p rfl rfl rfl rfl ?_
  refine Ie.nil ?_
  refine Ne.seq ?_
  refine Ce.seq ?_
  refine Ce.seq ?_
  refine Ce.region ?_
  refine Ie.p rfl rfl rfl rfl ?_
  refine Ie.p rfl rfl rfl rfl ?_
  refine Ie.nil ?_
  refine Ne.seq ?_
  refine Ce.cond_true rfl ?_
  refine Ce.seq ?_
  refine Ce.region ?_
  refine Ie.p rfl rfl rfl rfl ?_
  refine Ie.p rfl rfl rfl rfl ?_
  refine Ie.call _ rfl rfl rfl rfl rfl rfl (fun m hm => Wrap_real hm.lole ha) ?_
  refine Ie.p rfl rfl rfl rfl ?_
  refine Ie.p rfl rfl rfl rfl ?_
  refine Ie.p rfl rfl rfl rfl ?_
  refine Ie.p rfl rfl rfl rfl ?_
  refine Ie.nil ?_
  refine Ne.seq ?_
  refine Ce.seq ?_
  refine Ce.region ?_
  refine Ie.p rfl rfl rfl rfl ?_
  refine Ie.p rfl rfl rfl rfl ?_
  refine Ie.call _ rfl rfl rfl rfl rfl rfl (fun m hm => Wrap_real hm.lole hb) ?_
  refine Ie.p rfl rfl rfl rfl ?_
  refine Ie.p rfl rfl rfl rfl ?_
  refine Ie.p rfl rfl rfl rfl ?_
  refine Ie.p rfl rfl rfl rfl ?_
  refine Ie.nil ?_
  refine Ne.seq ?_
  refine Ce.region ?_
  refine Ie.p rfl rfl rfl rfl ?_
  refine Ie.bin (v := .bool true) rfl rfl rfl rfl rfl rfl (binS_eql (h1)) ?_
  refine Ie.p rfl rfl rfl rfl ?_
  refine Ie.off rfl rfl rfl ?_
  refine Ie.off rfl rfl rfl ?_
  refine Ie.p rfl rfl rfl rfl ?_
  refine Ie.p rfl rfl rfl rfl ?_
  refine Ie.nil ?_
  refine Ne.seq ?_
  refine Ce.seq ?_
  refine Ce.region ?_
  refine Ie.call _ rfl rfl rfl rfl rfl rfl (fun m hm => awake_ok (hlay.kr hm)) ?_
  refine Ie.p rfl rfl rfl rfl ?_
  refine Ie.p rfl rfl rfl rfl ?_
  refine Ie.p rfl rfl rfl rfl ?_
  refine Ie.p rfl rfl rfl rfl ?_
  refine Ie.off rfl rfl rfl ?_
  refine Ie.off rfl rfl rfl ?_
  refine Ie.p rfl rfl rfl rfl ?_
  refine Ie.p rfl rfl rfl rfl ?_
  refine Ie.p rfl rfl rfl rfl ?_
  refine Ie.p rfl rfl rfl rfl ?_
  refine Ie.p rfl rfl rfl rfl ?_
  refine Ie.p rfl rfl rfl rfl ?_
  refine Ie.p rfl rfl rfl rfl ?_
  refine Ie.p rfl rfl rfl rfl ?_
  refine Ie.p rfl rfl rfl rfl ?_
  refine Ie.p rfl rfl rfl rfl ?_
  refine Ie.p rfl rfl rfl rfl ?_
  refine Ie.p rfl rfl rfl rfl ?_
  refine Ie.p rfl rfl rfl rfl ?_
  refine Ie.p rfl rfl rfl rfl ?_
  refine Ie.p rfl rfl rfl rfl ?_
  refine Ie.eqBool rfl rfl rfl rfl Tryz.underlying4 rfl rfl ?_
  refine Ie.p rfl rfl rfl rfl ?_
  refine Ie.p rfl rfl rfl rfl ?_
  refine Ie.p rfl rfl rfl rfl ?_
  refine Ie.p rfl rfl rfl rfl ?_
  refine Ie.p rfl rfl rfl rfl ?_
  refine Ie.p rfl rfl rfl rfl ?_
  refine Ie.p rfl rfl rfl rfl ?_
  refine Ie.eqBool rfl rfl rfl rfl Tryz.underlying4 rfl rfl ?_
  refine Ie.p rfl rfl rfl rfl ?_
  refine Ie.p rfl rfl rfl rfl ?_
  refine Ie.p rfl rfl rfl rfl ?_
  refine Ie.p rfl rfl rfl rfl ?_
  refine Ie.p rfl rfl rfl rfl ?_
  refine Ie.eqBool rfl rfl rfl rfl Tryz.underlying4 rfl rfl ?_
  refine Ie.p rfl rfl rfl rfl ?_
  refine Ie.p rfl rfl rfl rfl ?_
  refine Ie.p rfl rfl rfl rfl ?_
  refine Ie.p rfl rfl rfl rfl ?_
  refine Ie.eqBool rfl rfl rfl rfl Tryz.underlying4 rfl rfl ?_
  refine Ie.p rfl rfl rfl rfl ?_
  refine Ie.p rfl rfl rfl rfl ?_
  refine Ie.nil ?_
  refine Ne.seq ?_
  refine Ce.ret ?_
  exact Re.end_ rfl rfl (fun m hm => ⟨rfl, hm.ext⟩)

theorem orders_nan2 {a b : Int} {m : AW} (hm : m.lo ≤ m.next) (hlay : LaidAt lays m) (ha : Fit .i64 a) (hb : Fit .i64 b) (hl : (FloatKind.f64.format.order (flb (w4 a)) (flb (w4 b)) == some .lt) = false) (hq : (FloatKind.f64.format.order (flb (w4 a)) (flb (w4 b)) == some .eq) = false) (hg : (FloatKind.f64.format.order (flb (w4 b)) (flb (w4 a)) == some .lt) = false) (h1 : w4 a ≠ 9221120237041090561) (h2 : w4 b = 9221120237041090561) : Fc Tryz.prog 10 [.int .i64 4, .int .i64 a, .int .i64 b] m fun v m' => v = .bool true ∧ Ext m m' := by
  refine Fc.body (c := _) Tryz.func10 rfl rfl rfl rfl hm ?_
  refine Ce.seq ?_
  refine Ce.region ?_
  refine Ie.p rfl rfl rfl rfl ?_
  refine Ie.nil ?_
  refine Ne.seq ?_
  refine Ce.seq ?_
  refine Ce.region ?_
  refine Ie.p rfl rfl rfl rfl ?_
  refine Ie.p rfl rfl rfl rfl ?_
  refine Ie.p rfl rfl rfl rfl ?_
  refine Ie.call _ rfl rfl rfl rfl rfl rfl (fun m hm => CL_real_12_nan hm.lole ha hb hl hq hg) ?_
  refine Ie.p rfl rfl rfl rfl ?_
  refine Ie.p rfl rfl rfl rfl ?_
  refine Ie.p rfl rfl rfl rfl ?_
  refine Ie.p rfl rfl rfl rfl ?_
  refine Ie.p rfl rfl rfl rfl ?_
  refine Ie.nil ?_
  refine Ne.seq ?_
  refine Ce.seq ?_
  refine Ce.seq ?_
  refine Ce.region ?_
  refine Ie.p rfl rfl rfl rfl ?_
  refine Ie.p rfl rfl rfl rfl ?_
  refine Ie.nil ?_
  refine Ne.seq ?_
  refine Ce.cond_false rfl ?_
  refine Ce.skip ?_
  refine Ne.seq ?_
  refine Ce.seq ?_
  refine Ce.region ?_
  refine Ie.p rfl rfl rfl rfl ?_
  refine Ie.p rfl rfl rfl rfl ?_
  refine Ie.p rfl rfl rfl rfl ?_
  refine Ie.call _ rfl rfl rfl rfl rfl rfl (fun m hm => CL_real_10_nan hm.lole ha hb hl hq hg) ?_
  refine Ie.p rfl rfl rfl rfl ?_
  refine Ie.p rfl rfl rfl rfl ?_
  refine Ie.p rfl rfl rfl rfl ?_
  refine Ie.p rfl rfl rfl rfl ?_
  refine Ie.p rfl rfl rfl rfl ?_
  refine Ie.nil ?_
  refine Ne.seq ?_
  refine Ce.seq ?_
  refine Ce.region ?_
  refine Ie.p rfl rfl rfl rfl ?_
  refine Ie.p rfl rfl rfl rfl ?_
  refine Ie.p rfl rfl rfl rfl ?_
  refine Ie.call _ rfl rfl rfl rfl rfl rfl (fun m hm => CL_real_14_nan hm.lole ha hb hl hq hg) ?_
  refine Ie.p rfl rfl rfl rfl ?_
  refine Ie.p rfl rfl rfl rfl ?_
  refine Ie.p rfl rfl rfl rfl ?_
  refine Ie.p rfl rfl rfl rfl ?_
  refine Ie.p rfl rfl rfl rfl ?_
  refine Ie.nil ?_
  refine Ne.seq ?_
  refine Ce.seq ?_
  refine Ce.region ?_
  refine Ie.p rfl rfl rfl rfl ?_
  refine Ie.p rfl rfl rfl rfl ?_
  refine Ie.p rfl rfl rfl rfl ?_
  refine Ie.call _ rfl rfl rfl rfl rfl rfl (fun m hm => CL_real_13_nan hm.lole ha hb hl hq hg) ?_
  refine Ie.p rfl rfl rfl rfl ?_
  refine Ie.p rfl rfl rfl rfl ?_
  refine Ie.p rfl rfl rfl rfl ?_
  refine Ie.p rfl rfl rfl rfl ?_
  refine Ie.p rfl rfl rfl rfl ?_
  refine Ie.nil ?_
  refine Ne.seq ?_
  refine Ce.seq ?_
  refine Ce.region ?_
  refine Ie.p rfl rfl rfl rfl ?_
  refine Ie.p rfl rfl rfl rfl ?_
  refine Ie.p rfl rfl rfl rfl ?_
  refine Ie.call _ rfl rfl rfl rfl rfl rfl (fun m hm => CL_real_15_nan hm.lole ha hb hl hq hg) ?_
  refine Ie.p rfl rfl rfl rfl ?_
  refine Ie.p rfl rfl rfl rfl ?_
  refine Ie.p rfl rfl rfl rfl ?_
  refine Ie.p rfl rfl rfl rfl ?_
  refine Ie.p rfl rfl rfl rfl ?_
  refine Ie.nil ?_
  refine Ne.seq ?_
  refine Ce.seq ?_
  refine Ce.region ?_
  refine Ie.p rfl rfl rfl rfl ?_
  refine Ie.p rfl rfl rfl rfl ?_
  refine Ie.p rfl rfl rfl rfl ?_
  refine Ie.call _ rfl rfl rfl rfl rfl rfl (fun m hm => CL_real_11_nan hm.lole ha hb hl hq hg) ?_
  refine Ie.p rfl rfl rfl rfl ?_
  refine Ie.p rfl rfl rfl rfl ?_
  refine Ie.p rfl rfl rfl rfl ?_
  refine Ie.p rfl rfl rfl rfl ?_
  refine Ie.p rfl rfl rfl rfl ?_
  refine Ie.nil ?_
  refine Ne.seq ?_
  refine Ce.seq ?_
  refine Ce.region ?_
  refine Ie.p rfl rfl rfl rfl ?_
  refine Ie.p rfl rfl rfl rfl ?_
  refine Ie.p rfl rfl rfl rfl ?_
  refine Ie.call _ rfl rfl rfl rfl rfl rfl (fun m hm => CM_real_nan hm.lole ha hb hg) ?_
  refine Ie.p rfl rfl rfl rfl ?_
  refine Ie.p rfl rfl rfl rfl ?_
  refine Ie.p rfl rfl rfl rfl ?_
  refine Ie.p rfl rfl rfl rfl ?_
  refine Ie.p rfl rfl rfl rfl ?_
  refine Ie.nil ?_
  refine Ne.seq ?_
  refine Ce.seq ?_
  refine Ce.region ?_
  refine Ie.p rfl rfl rfl rfl ?_
  refine Ie.nil ?_
  refine Ne.seq ?_
  refine Ce.seq ?_
  refine Ce.seq ?_
  refine Ce.region ?_
  refine Ie.p rfl rfl rfl rfl ?_
  refine Ie.nil ?_
  refine Ne.seq ?_
  refine Ce.cond_false rfl ?_
  refine Ce.skip ?_
  refine Ne.seq ?_
  refine Ce.seq ?_
  refine Ce.seq ?_
  refine Ce.region ?_
  refine Ie.p rfl rfl rfl rfl ?_
  refine Ie.nil ?_
  refine Ne.seq ?_
  refine Ce.cond_false rfl ?_
  refine Ce.skip ?_
  refine Ne.seq ?_
  refine Ce.seq ?_
  refine Ce.seq ?_
  refine Ce.region ?_
  refine Ie.p rfl rfl rfl rfl ?_
  refine Ie.nil ?_
  refine Ne.seq ?_
  refine Ce.cond_false rfl ?_
  refine Ce.skip ?_
  refine Ne.seq ?_
  refine Ce.seq ?_
  refine Ce.region ?_
  refine Ie.p rfl rfl rfl rfl ?_
  refine Ie.nil ?_
  refine Ne.seq ?_
  refine Ce.seq ?_
  refine Ce.seq ?_
  refine Ce.region ?_
  refine Ie.p rfl rfl rfl rfl ?_
  refine Ie.p rfl rfl rfl rfl ?_
  refine Ie.nil ?_
  refine Ne.seq ?_
  refine Ce.cond_true rfl ?_
  refine Ce.seq ?_
  refine Ce.region ?_
  refine Ie.p rfl rfl rfl rfl ?_
  refine Ie.p rfl rfl rfl rfl ?_
  refine Ie.call _ rfl rfl rfl rfl rfl rfl (fun m hm => Wrap_real hm.lole ha) ?_
  refine Ie.p rfl rfl rfl rfl ?_
  refine Ie.p rfl rfl rfl rfl ?_
  refine Ie.p rfl rfl rfl rfl ?_
  refine Ie.p rfl rfl rfl rfl ?_
  refine Ie.nil ?_
  refine Ne.seq ?_
  refine Ce.seq ?_
  refine Ce.region ?_
  refine Ie.p rfl rfl rfl rfl ?_
  refine Ie.p rfl rfl rfl rfl ?_
  refine Ie.call _ rfl rfl rfl rfl rfl rfl (fun m hm => Wrap_real hm.lole hb) ?_
  refine Ie.p rfl rfl rfl rfl ?_
  refine Ie.p rfl rfl rfl rfl ?_
  refine Ie.p rfl rfl rfl rfl ?_
  refine Ie.p rfl rfl rfl rfl ?_
  refine Ie.nil ?_
  refine Ne.seq ?_
  refine Ce.region ?_
  refine Ie.p rfl rfl rfl rfl ?_
  refine Ie.bin (v := .bool false) rfl rfl rfl rfl rfl rfl (binS_neql h1) ?_
  refine Ie.p rfl rfl rfl rfl ?_
  refine Ie.p rfl rfl rfl rfl ?_
  refine Ie.bin (v := .bool true) rfl rfl rfl rfl rfl rfl (binS_eql (h2)) ?_
  refine Ie.p rfl rfl rfl rfl ?_
  refine Ie.p rfl rfl rfl rfl ?_
  refine Ie.nil ?_
  refine Ne.seq ?_
  refine Ce.seq ?_
  refine Ce.region ?_
  refine Ie.call _ rfl rfl rfl rfl rfl rfl (fun m hm => awake_ok (hlay.kr hm)) ?_
  refine Ie.p rfl rfl rfl rfl ?_
  refine Ie.p rfl rfl rfl rfl ?_
  refine Ie.p rfl rfl rfl rfl ?_
  refine Ie.p rfl rfl rfl rfl ?_
  refine Ie.off rfl rfl rfl ?_
  refine Ie.off rfl rfl rfl ?_
  refine Ie.p rfl rfl rfl rfl ?_
  refine Ie.p rfl rfl rfl rfl ?_
  refine Ie.p rfl rfl rfl rfl ?_
  refine Ie.p rfl rfl rfl rfl ?_
  refine Ie.p rfl rfl rfl rfl ?_
  refine Ie.p rfl rfl rfl rfl ?_
  refine Ie.p rfl rfl rfl rfl ?_
  refine Ie.p rfl rfl rfl rfl ?_
  refine Ie.p rfl rfl rfl rfl ?_
  refine Ie.p rfl rfl rfl rfl ?_
  refine Ie.p rfl rfl rfl rfl ?_
  refine Ie.p rfl rfl rfl rfl ?_
  refine Ie.p rfl rfl rfl rfl ?_
  refine Ie.p rfl rfl rfl rfl ?_
  refine Ie.p rfl rfl rfl rfl ?_
  refine Ie.eqBool rfl rfl rfl rfl Tryz.underlying4 rfl rfl ?_
  refine Ie.p rfl rfl rfl rfl ?_
  refine Ie.p rfl rfl rfl rfl ?_
  refine Ie.p rfl rfl rfl rfl ?_
  refine Ie.p rfl rfl rfl rfl ?_
  refine Ie.p rfl rfl rfl rfl ?_
  refine Ie.p rfl rfl rfl rfl ?_
  refine Ie.p rfl rfl rfl rfl ?_
  refine Ie.eqBool rfl rfl rfl rfl Tryz.underlying4 rfl rfl ?_
  refine Ie.p rfl rfl rfl rfl ?_
  refine Ie.p rfl rfl rfl rfl ?_
  refine Ie.p rfl rfl rfl rfl ?_
  refine Ie.p rfl rfl rfl rfl ?_
  refine Ie.p rfl rfl rfl rfl ?_
  refine Ie.eqBool rfl rfl rfl rfl Tryz.underlying4 rfl rfl ?_
  refine Ie.p rfl rfl rfl rfl ?_
  refine Ie.p rfl rfl rfl rfl ?_
  refine Ie.p rfl rfl rfl rfl ?_
  refine Ie.p rfl rfl rfl rfl ?_
  refine Ie.eqBool rfl rfl rfl rfl Tryz.underlying4 rfl rfl ?_
  refine Ie.p rfl rfl rfl rfl ?_
  refine Ie.p rfl rfl rfl rfl ?_
  refine Ie.nil ?_
  refine Ne.seq ?_
  refine Ce.ret ?_
  exact Re.end_ rfl rfl (fun m hm => ⟨rfl, hm.ext⟩)

theorem orders_none {kind a b : Int} {m : AW} (hm : m.lo ≤ m.next) (hlay : LaidAt lays m) (h1 : kind ≠ 1) (h2 : kind ≠ 2) (h3 : kind ≠ 3) (h4 : kind ≠ 4) : Fc Tryz.prog 10 [.int .i64 kind, .int .i64 a, .int .i64 b] m fun v m' => v = .bool true ∧ Ext m m' := by
  refine Fc.body (c := _) Tryz.func10 rfl rfl rfl rfl hm ?_
  refine Ce.seq ?_
  refine Ce.region ?_
  refine Ie.p rfl rfl rfl rfl ?_
  refine Ie.nil ?_
  refine Ne.seq ?_
  refine Ce.seq ?_
  refine Ce.region ?_
  refine Ie.p rfl rfl rfl rfl ?_
  refine Ie.p rfl rfl rfl rfl ?_
  refine Ie.p rfl rfl rfl rfl ?_
  refine Ie.call _ rfl rfl rfl rfl rfl rfl (fun m hm => Compare_none hm.lole h1 h2 h3 h4) ?_
  refine Ie.p rfl rfl rfl rfl ?_
  refine Ie.p rfl rfl rfl rfl ?_
  refine Ie.p rfl rfl rfl rfl ?_
  refine Ie.p rfl rfl rfl rfl ?_
  refine Ie.p rfl rfl rfl rfl ?_
  refine Ie.nil ?_
  refine Ne.seq ?_
  refine Ce.seq ?_
  refine Ce.seq ?_
  refine Ce.region ?_
  refine Ie.p rfl rfl rfl rfl ?_
  refine Ie.p rfl rfl rfl rfl ?_
  refine Ie.nil ?_
  refine Ne.seq ?_
  refine Ce.cond_true rfl ?_
  refine Ce.seq ?_
  refine Ce.region ?_
  refine Ie.call _ rfl rfl rfl rfl rfl rfl (fun m hm => awake_ok (hlay.kr hm)) ?_
  refine Ie.p rfl rfl rfl rfl ?_
  refine Ie.p rfl rfl rfl rfl ?_
  refine Ie.p rfl rfl rfl rfl ?_
  refine Ie.p rfl rfl rfl rfl ?_
  refine Ie.p rfl rfl rfl rfl ?_
  refine Ie.p rfl rfl rfl rfl ?_
  refine Ie.bin (v := .bool true) rfl rfl rfl rfl rfl rfl (binS_nneq h1) ?_
  refine Ie.p rfl rfl rfl rfl ?_
  refine Ie.p rfl rfl rfl rfl ?_
  refine Ie.p rfl rfl rfl rfl ?_
  refine Ie.bin (v := .bool true) rfl rfl rfl rfl rfl rfl (binS_nneq h2) ?_
  refine Ie.p rfl rfl rfl rfl ?_
  refine Ie.p rfl rfl rfl rfl ?_
  refine Ie.p rfl rfl rfl rfl ?_
  refine Ie.bin (v := .bool true) rfl rfl rfl rfl rfl rfl (binS_nneq h3) ?_
  refine Ie.p rfl rfl rfl rfl ?_
  refine Ie.p rfl rfl rfl rfl ?_
  refine Ie.p rfl rfl rfl rfl ?_
  refine Ie.bin (v := .bool true) rfl rfl rfl rfl rfl rfl (binS_nneq h4) ?_
  refine Ie.p rfl rfl rfl rfl ?_
  refine Ie.p rfl rfl rfl rfl ?_
  refine Ie.nil ?_
  refine Ne.seq ?_
  refine Ce.ret ?_
  refine Re.seq ?_
  exact Re.end_ rfl rfl (fun m hm => ⟨rfl, hm.ext⟩)

end Go.Proofs.YtmcjihhfgmfcpaaGreatDoor
