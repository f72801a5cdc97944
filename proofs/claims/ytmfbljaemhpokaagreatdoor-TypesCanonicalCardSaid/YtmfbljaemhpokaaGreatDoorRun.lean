/-
  awake() is reckoned by the kernel. Conditions: none.
-/
import Derived.Test.YtmfbljaemhpokaaGreatDoorAwk
import Derived.ProofKit
import Derived.LaidMore
import Derived.Lay
import Derived.MakeChecks
namespace Go.Proofs.YtmfbljaemhpokaaGreatDoor
open Go Go.Ab
set_option linter.unusedVariables false
set_option linter.unusedSimpArgs false
set_option linter.unusedSectionVars false
theorem names : plainNamesB Tryz.prog = true := by kernel_rfl
theorem mixed : Tryz.prog.follows .mixedOrders = true := by kernel_rfl
theorem more : Nat.blt Tryz.prog.globals.size (begin Tryz.prog (fun _ _ => 0) default).world.heap.size = true := by kernel_rfl
theorem own : ownKnob Tryz.prog.godebug = none := by kernel_rfl
theorem awake_run (tt : Nat → TypeId) : saysB true (@irun noVals Tryz.prog 100000 noFr (.fn 13 []) ⟨laidT tt [], 1000, 0, []⟩) = true := by kernel_rfl
theorem awake_calls {W : World} (hl : LiesBy Tryz.prog W []) : Calls Tryz.prog 13 ⟨[]⟩ W fun e W' => e = .returned (.bool true) ∧ Still W W' :=
 calls_laid0 (args := []) (args' := []) (plainNames_of names) mixed awake_run Tryz.func13 (by kernel_rfl) hl (by kernel_rfl) (fun _ => @VsRel.nil noVals _)
instance facts : @FactsOk V Tryz.prog :=
 @FactsOk.mk V Tryz.prog (fun _ _ _ _ _ h => by cases h) (fun _ _ _ h => by cases h) (fun _ _ _ _ h => by cases h) (fun _ _ _ h => by cases h) fun f args v h W hl => by
  cases args with
  | cons a l => cases h
  | nil =>
   have hf : f = 13 ∧ v = .bool true := by
    have h : (bif Nat.beq f 13 then some (Value.bool true) else none) = some v := h
    cases hb : Nat.beq f 13 with
    | true =>
     rw [hb] at h
     cases h
     exact ⟨Nat.eq_of_beq_eq_true hb, rfl⟩
    | false =>
     rw [hb] at h
     cases h
   obtain ⟨rfl, rfl⟩ := hf
   refine (awake_calls hl).mono fun e W' ⟨h1, h2⟩ => ⟨h1, ⟨h2.1.1, h2.1.2.1, h2.1.2.2⟩, h2.2.1, h2.2.2⟩
theorem lies {W : World} (hsh : W.ShapedOpen Tryz.prog) : LiesBy Tryz.prog W [] := by
 have hW := globals_of_shaped hsh more
 refine ⟨fun i => if i < Tryz.prog.globals.size then some ⟨i, 0, 0⟩ else none, fun g hg => ⟨0, if_pos hg⟩, fun b s hb => ?_, fun b g vs h => by cases h⟩
 simp only at hb
 split at hb
 ·rename_i hlt
  cases hb
  exact ⟨Nat.lt_of_lt_of_le hlt (Nat.le_of_ble_eq_true fewer), Nat.lt_of_lt_of_le hlt hW⟩
 cases hb
end Go.Proofs.YtmfbljaemhpokaaGreatDoor
