/-
  awake() is reckoned by the kernel; where the variables lie that it reads. Conditions: none.
-/
import Derived.Test.YtpokggpohmojlaaGreatDoorEng6
import Derived.Test.YtpokggpohmojlaaGreatDoorProg
import Derived.Test.YtpokggpohmojlaaGreatDoorRows
import Derived.KernelRfl
import Derived.Shelf.Strings.Search3
import Derived.Shelf.Vars
import Derived.MakeChecks
import Derived.ProofKit
import Derived.LaidMore
import Derived.Lay
namespace Go.Proofs.YtpokggpohmojlaaGreatDoor
open Go Go.Ab
set_option linter.unusedVariables false
set_option linter.unusedSimpArgs false
set_option linter.unusedSectionVars false
theorem names : plainNamesB Tryz.prog = true := by kernel_rfl
theorem mixed : Tryz.prog.follows .mixedOrders = true := by kernel_rfl
theorem fewer : Nat.ble Tryz.prog.globals.size laidEnd = true := by kernel_rfl
theorem more : Nat.blt Tryz.prog.globals.size (begin Tryz.prog (fun _ _ => 0) default).world.heap.size = true := by kernel_rfl
theorem own : ownKnob Tryz.prog.godebug = none := by kernel_rfl
/-- The signs, as they are laid. -/
def signL : List (List UInt8) := [[60, 60, 61], [62, 62, 61], [60, 45, 61], [61, 61], [33, 61], [60, 61], [62, 61], [60, 60], [62, 62], [38, 38], [124, 124], [43, 43], [45, 45], [43, 61], [45, 61], [42, 61], [47, 61], [37, 61], [38, 61], [124, 61], [94, 61], [58, 61], [60, 45], [45, 62], [61, 62], [58, 58], [43], [45], [42], [47], [37], [38], [124], [94], [126], [33], [61], [60], [62], [46], [44], [59], [58], [40], [41], [91], [93], [123], [125]]
/-- The variables that are read: the signs, and a number that is not known. -/
def lays : List (Nat × Bool × List Value) := [(0, false, signL.map fun l => .string ⟨⟨l⟩⟩), (6, false, [.chan (some 0)])]
/-! What the library's strings.Contains gives. -/
def shRen : Go.Shelf.Ren := ⟨fun
  | 144 => 35 | 143 => 44 | 219 => 54 | 217 => 60 | 225 => 62 | 224 => 63 | 267 => 64 | 266 => 79 | 314 => 82 | n => n, fun
  | 9 => 9 | 4 => 4 | 3 => 3 | 5 => 5 | 46 => 91 | 146 => 125 | 51 => 104 | n => n, fun
  | 1 => 6 | n => n⟩
theorem shLays : Lays.n144 Tryz.prog shRen := {
  mixed := by kernel_rfl,
  f143 := Tryz.func44.trans (congrArg some (by kernel_rfl)),
  f144 := Tryz.func35.trans (congrArg some (by kernel_rfl)),
  f217 := Tryz.func60.trans (congrArg some (by kernel_rfl)),
  f219 := Tryz.func54.trans (congrArg some (by kernel_rfl)),
  f224 := Tryz.func63.trans (congrArg some (by kernel_rfl)),
  f225 := Tryz.func62.trans (congrArg some (by kernel_rfl)),
  f266 := Tryz.func79.trans (congrArg some (by kernel_rfl)),
  f267 := Tryz.func64.trans (congrArg some (by kernel_rfl)),
  f314 := Tryz.func82.trans (congrArg some (by kernel_rfl)),
  t3 := Tryz.underlying3,
  a3 := Tryz.isAgg3,
  z3 := Tryz.sizeOf3,
  v3 := Tryz.zeroValue3,
  t4 := Tryz.underlying4,
  a4 := Tryz.isAgg4,
  z4 := Tryz.sizeOf4,
  v4 := Tryz.zeroValue4,
  t5 := Tryz.underlying5,
  a5 := Tryz.isAgg5,
  z5 := Tryz.sizeOf5,
  v5 := Tryz.zeroValue5,
  t9 := Tryz.underlying9,
  a9 := Tryz.isAgg9,
  z9 := Tryz.sizeOf9,
  v9 := Tryz.zeroValue9,
  t46 := Tryz.underlying91,
  a46 := Tryz.isAgg91,
  z46 := Tryz.sizeOf91,
  v46 := Tryz.zeroValue91,
  t51 := Tryz.underlying104,
  a51 := Tryz.isAgg104,
  z51 := Tryz.sizeOf104,
  v51 := Tryz.zeroValue104,
  t146 := Tryz.underlying125,
  a146 := Tryz.isAgg125,
  z146 := Tryz.sizeOf125,
  v146 := Tryz.zeroValue125,
  g1 := by kernel_rfl }
def callS (f : FuncId) (args : List Value) : Option Value := match args with
  | [.string k, .string t] => bif Nat.beq f 35 && Nat.blt k.size 4294967281 then some (.bool (Lib.contains k.data.toList t.data.toList)) else none
  | _ => none
/-- strings.Contains is known. -/
abbrev V0 (m : Int) : Vals := { noVals with
  val := fun _ => .int .i64 m
  sc := fun _ => rfl
  call := callS
  laid := lays }
theorem cell_one {m : Int} {W : World} (hl : @LiesBy (V0 m) Tryz.prog W lays) : W.cell? ⟨6, 0, none⟩ = some (.int .i64 m) := by
  obtain ⟨ρ, h1, _, h3⟩ := hl
  obtain ⟨c1, e1⟩ := h1 6 (by rw [show Tryz.prog.globals.size = 18 by kernel_rfl]; decide)
  obtain ⟨s, c, t, fr, g1, g2, g3, g4, g5, _⟩ := h3 6 false [.chan (some 0)] (by unfold lays; exact .tail _ (.head _))
  rw [e1] at g1
  cases g1
  obtain ⟨v', q1, q2⟩ := g4 0 _ rfl
  have q3 : v' = .int .i64 m := q2
  have q4 : c[0]? = some v' := by simpa using q1
  unfold World.cell?
  simp only at g2 ⊢
  rw [g2]
  show c[0]? = _
  rw [q4, q3]
theorem facts0 (m : Int) : @FactsOk (V0 m) Tryz.prog :=
  @FactsOk.mk (V0 m) Tryz.prog (fun _ _ _ _ _ h => by cases h) (fun _ _ _ h => by cases h) (fun _ _ _ _ h => by cases h) (fun _ _ _ h => by cases h) fun f args v h W hl => by
    have h : callS f args = some v := h
    unfold callS at h
    split at h
    · obtain ⟨hc, h⟩ := bif_some h
      simp only [Bool.and_eq_true, nblt, decide_eq_true_eq] at hc
      cases h
      rename_i k t h0
      have hf : f = 35 := Nat.eq_of_beq_eq_true hc.1
      subst hf
      refine (Any.strings_Contains shLays k t m W hc.2 (cell_one hl)).mono fun e W' ⟨h1, h2⟩ => ?_
      subst h2
      exact ⟨h1, ⟨rfl, rfl, rfl⟩, Nat.le_refl _, fun _ _ => rfl⟩
    · cases h
theorem awake_run (m : Int) (tt : Nat → TypeId) : saysB true (@irun (V0 m) Tryz.prog 100000 noFr (.fn 5 []) ⟨laidT tt lays, 1000, 0, []⟩) = true := by kernel_rfl
theorem awake_calls {m : Int} {W : World} (hl : @LiesBy (V0 m) Tryz.prog W lays) : Calls Tryz.prog 5 ⟨[]⟩ W fun e W' => e = .returned (.bool true) ∧ Still W W' :=
  @calls_laid (V0 m) Tryz.prog (facts0 m) (plainNames_of names) mixed _ _ _ [] [] lays _ _ true (awake_run m) _ Tryz.func5 (by kernel_rfl) W hl (by kernel_rfl) (fun _ => @VsRel.nil (V0 m) _)
/-- awake() is known besides. -/
def callV (f : FuncId) (args : List Value) : Option Value := match args with
  | [] => bif Nat.beq f 5 then some (.bool true) else none
  | _ => callS f args
/-- The number that is not known. -/
class Mx where
  x : Int
instance V [i : Mx] : Vals := { V0 i.x with call := callV }
variable [i : Mx]
instance facts : @FactsOk V Tryz.prog :=
  @FactsOk.mk V Tryz.prog (fun _ _ _ _ _ h => by cases h) (fun _ _ _ h => by cases h) (fun _ _ _ _ h => by cases h) (fun _ _ _ h => by cases h) fun f args v h W hl => by
    have h : callV f args = some v := h
    unfold callV at h
    split at h
    · obtain ⟨hf, h⟩ := bif_some h
      cases h
      rw [Nat.eq_of_beq_eq_true hf]
      exact (awake_calls (m := i.x) hl).mono fun e W' ⟨h1, h2⟩ => ⟨h1, ⟨h2.1.1, h2.1.2.1, h2.1.2.2⟩, h2.2.1, h2.2.2⟩
    · exact @FactsOk.call (V0 i.x) Tryz.prog (facts0 i.x) f args v h W hl
theorem laid0 (tt : Nat → TypeId) : LaidAt lays ⟨laidT tt lays, 1000, 0, []⟩ := ⟨by kernel_rfl, fun p hp => by
    have := List.all_eq_true.1 (show lays.all (fun p => Nat.blt p.1 1000) = true by kernel_rfl) p hp
    rw [nblt, decide_eq_true_eq] at this
    exact this⟩
theorem awake_ok {m : AW} (hl : LaidAt lays m) : Fc Tryz.prog 5 [] m fun v m' => v = .bool true ∧ Ext m m' :=
  Fc.said Tryz.func5 (by kernel_rfl) rfl rfl fewer hl
theorem contains_ok {k t : ByteArray} (hk : k.size < 4294967281) {m : AW} (hl : LaidAt lays m) : Fc Tryz.prog 35 [.string k, .string t] m fun v m' => v = .bool (Lib.contains k.data.toList t.data.toList) ∧ Ext m m' :=
  Fc.said Tryz.func35 (by kernel_rfl) (by
    show callS 35 [.string k, .string t] = _
    unfold callS
    simp only [nblt, decide_eq_true hk]
    rfl) rfl fewer hl
theorem eqSs_str : ∀ {L : List (List UInt8)} {cs : List Value}, eqSs cs (L.map fun l => .string ⟨⟨l⟩⟩) = true → cs = L.map fun l => .string ⟨⟨l⟩⟩
  | [], [], _ => rfl
  | [], _ :: _, h => by cases h
  | _ :: _, [], h => by cases h
  | l :: L, v :: cs, h => by
    simp only [List.map_cons, eqSs, Bool.and_eq_true] at h
    rw [List.map_cons, ← eqSs_str h.2]
    congr 1
    have h1 := h.1
    unfold eqS at h1
    split at h1 <;> first | (cases h1; done) | skip
    all_goals first | (rename_i e; cases e; done) | skip
    rename_i a b e
    cases e
    rw [eqBytes_eq, decide_eq_true_eq] at h1
    congr 1
    cases a with
    | mk a => rw [show a = ⟨l⟩ from Array.toList_inj.1 h1]
theorem signs_at {m : AW} (hl : LaidAt lays m) : ∃ el md mate, m.heap.get 0 = some (.cells (signL.map fun l => .string ⟨⟨l⟩⟩) el false md mate) ∧ 0 < m.next := by
  have h := hl.1
  unfold lays hasL at h
  simp only [Bool.and_eq_true] at h
  have h0 := h.1
  split at h0
  · rename_i cs el g md mate hg
    simp only [Bool.and_eq_true, beq_iff_eq] at h0
    refine ⟨el, md, mate, ?_, hl.2 _ (by unfold lays; exact .head _)⟩
    rw [hg, eqSs_str h0.2, h0.1]
  · cases h0

end Go.Proofs.YtpokggpohmojlaaGreatDoor
