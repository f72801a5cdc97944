/-
  NativeNil, reckoned by the kernel: it answers true; its first question, awake(), in pieces. Conditions: none.
-/
import Derived.Test.YtggjbnonefpcnaaGreatDoorNilP0
import Derived.Test.YtggjbnonefpcnaaGreatDoorNilP1
import Derived.Test.YtggjbnonefpcnaaGreatDoorNilP2
import Derived.Test.YtggjbnonefpcnaaGreatDoorNilP3
import Derived.Test.YtggjbnonefpcnaaGreatDoorNilP4
namespace Go.Proofs.YtggjbnonefpcnaaGreatDoor
open Go Go.Ab
theorem names : plainNamesB Tryz.prog = true := by kernel_rfl
theorem mixed : Tryz.prog.follows .mixedOrders = true := by kernel_rfl
theorem few : Nat.ble Tryz.prog.globals.size 100 = true := by kernel_rfl
theorem more : Nat.blt Tryz.prog.globals.size (begin Tryz.prog (fun _ _ => 0) default).world.heap.size = true := by kernel_rfl
theorem e0 : c0 = .seq (seqL c0) c1 := by kernel_rfl
theorem e1 : c1 = .seq (seqL c1) c2 := by kernel_rfl
theorem e2 : c2 = .seq (seqL c2) c3 := by kernel_rfl
theorem e3 : c3 = .seq (seqL c3) c4 := by kernel_rfl
theorem b4 : Tryz.f4.body = some c0 := by kernel_rfl
theorem n4 : Tryz.f4.ntmps = 54 := by kernel_rfl
theorem r4 : @resA Tryz.prog Tryz.f4 (tmpsT ts4 0) ⟨listT (ids4.zip objs4), nx4, 0, []⟩ = some (.bool true) := by kernel_rfl
theorem d4 : defsOf (tmpsT ts4 0) = [] := by kernel_rfl

theorem awake_follows : @FollowsFn noVals Tryz.prog 4 [] ⟨laidT [(2, 447, usesV)], 100, 0, []⟩ ⟨.ret, .lf, .bool true, ⟨listT (ids4.zip objs4), nx4, 0, []⟩⟩ := by
  letI : Vals := noVals
  haveI : FactsOk Tryz.prog := noFacts _
  have hP := plainNames_of names
  have f0 := cut_follows (fr := ⟨4, 54, argsT [] 0 .lf, none⟩) hP mixed (.inl rfl) p0
  have f1 := cut_follows (fr := ⟨4, 54, tmpsT ts0 0, none⟩) hP mixed (.inl rfl) p1
  have f2 := cut_follows (fr := ⟨4, 54, tmpsT ts1 0, none⟩) hP mixed (.inl rfl) p2
  have f3 := cut_follows (fr := ⟨4, 54, tmpsT ts2 0, none⟩) hP mixed (.inl rfl) p3
  have f4 := cut_follows (fr := ⟨4, 54, tmpsT ts3 0, none⟩) hP mixed (.inr rfl) p4
  have s3 := Follows.seq f3.1 rfl f4.1 f4.2
  rw [← e3] at s3
  have s2 := Follows.seq f2.1 rfl s3 (Nat.le_trans f3.2 f4.2)
  rw [← e2] at s2
  have s1 := Follows.seq f1.1 rfl s2 (Nat.le_trans f2.2 (Nat.le_trans f3.2 f4.2))
  rw [← e1] at s1
  have s0 := Follows.seq f0.1 rfl s1 (Nat.le_trans f1.2 (Nat.le_trans f2.2 (Nat.le_trans f3.2 f4.2)))
  rw [← e0] at s0
  exact fn_of_body (args := []) hP Tryz.func4 b4 (by rw [n4]; rfl) (by rw [n4]; exact s0) (.inr rfl) d4 r4 rfl rfl rfl (Nat.le_trans f0.2 (Nat.le_trans f1.2 (Nat.le_trans f2.2 (Nat.le_trans f3.2 f4.2))))

theorem awake_calls {W : World} (hW : Tryz.prog.globals.size ≤ W.heap.size) (hl : LiesSo Tryz.prog W [(2, 447, usesV)]) : Calls Tryz.prog 4 ⟨[]⟩ W fun e W' => e = .returned (.bool true) ∧ Still W W' :=
  @calls_of_pieces noVals Tryz.prog (noFacts _) (plainNames_of names) 4 Tryz.f4 true _ 100 0 [] _ awake_follows Tryz.func4 (by kernel_rfl) W hW hl (Nat.le_of_ble_eq_true few)

/-- awake() is known. -/
abbrev nilVals : Vals := { noVals with
  call := fun f args => match args with
    | [] => bif Nat.beq f 4 then some (.bool true) else none
    | _ => none
  laid := [(2, 447, usesV)] }

theorem nilFacts : @FactsOk nilVals Tryz.prog :=
  @FactsOk.mk nilVals Tryz.prog (fun _ _ _ _ _ h => by cases h) (fun _ _ _ h => by cases h) (fun _ _ _ _ h => by cases h) (fun _ _ _ h => by cases h) fun f args v h W hW hl => by
    cases args with
    | cons a l => cases h
    | nil =>
      have hf : f = 4 ∧ v = .bool true := by
        have h : (bif Nat.beq f 4 then some (Value.bool true) else none) = some v := h
        cases hb : Nat.beq f 4 with
        | false => rw [hb] at h; cases h
        | true => rw [hb] at h; cases h; exact ⟨Nat.eq_of_beq_eq_true hb, rfl⟩
      obtain ⟨rfl, rfl⟩ := hf
      refine (awake_calls hW fun g t vs hm => ?_).mono fun e W' hk => hk
      have hg : g < Tryz.prog.globals.size := by
        obtain ⟨rfl, rfl, rfl⟩ : g = 2 ∧ t = 447 ∧ vs = usesV := by simpa using hm
        exact Nat.le_of_ble_eq_true (by kernel_rfl)
      refine ⟨hg, ?_, hl g t vs hm hg⟩
      obtain ⟨rfl, rfl, rfl⟩ : g = 2 ∧ t = 447 ∧ vs = usesV := by simpa using hm
      kernel_rfl

theorem nil_run (n : Int) (s : ByteArray) : saysB true (@irun nilVals Tryz.prog 100000 noFr (.fn 3 [.int .i64 n, .string s]) ⟨laidT [(2, 447, usesV)], 100, 0, []⟩) = true := by kernel_rfl
end Go.Proofs.YtggjbnonefpcnaaGreatDoor
