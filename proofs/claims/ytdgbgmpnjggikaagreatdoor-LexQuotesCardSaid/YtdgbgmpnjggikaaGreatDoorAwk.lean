/-
  awake() is reckoned by the kernel; where the variables lie that it reads. Conditions: none.
-/
import Derived.Test.YtdgbgmpnjggikaaGreatDoorEng6
import Derived.Test.YtdgbgmpnjggikaaGreatDoorProg
import Derived.Test.YtdgbgmpnjggikaaGreatDoorRows
import Derived.KernelRfl
import Derived.Shelf.Strings.Search3
import Derived.Shelf.Unicode.ValidAny
import Derived.Shelf.Unicode.DecodeAny
import Derived.Shelf.Vars
import Derived.MakeChecks
import Derived.ProofKit
import Derived.LaidMore
import Derived.Lay
namespace Go.Proofs.YtdgbgmpnjggikaaGreatDoor
open Go Go.Ab
set_option linter.unusedVariables false
set_option linter.unusedSimpArgs false
set_option linter.unusedSectionVars false
theorem names : plainNamesB Tryz.prog = true := by kernel_rfl
theorem mixed : Tryz.prog.follows .mixedOrders = true := by kernel_rfl
theorem fewer : Nat.ble Tryz.prog.globals.size laidEnd = true := by kernel_rfl
theorem more : Nat.blt Tryz.prog.globals.size (begin Tryz.prog (fun _ _ => 0) default).world.heap.size = true := by kernel_rfl
theorem own : ownKnob Tryz.prog.godebug = none := by kernel_rfl
/-- The signs, as they are laid. -/
def signL : List (List UInt8) := [[60, 60, 61], [62, 62, 61], [60, 45, 61], [61, 61], [33, 61], [60, 61], [62, 61], [60, 60], [62, 62], [38, 38], [124, 124], [43, 43], [45, 45], [43, 61], [45, 61], [42, 61], [47, 61], [37, 61], [38, 61], [124, 61], [94, 61], [58, 61], [60, 45], [45, 62], [61, 62], [58, 58], [43], [45], [42], [47], [37], [38], [124], [94], [126], [33], [61], [60], [62], [46], [44], [59], [58], [40], [41], [91], [93], [123], [125]]
/-- The library's tables of first bytes, and of what may follow. -/
def firstL : List Value := (List.range 256).map fun c => .int .u8 (Int.ofNat (Lib.firstT c))
def accL : List Value := (List.range 32).map fun c => .int .u8 (Int.ofNat (bif Nat.beq (c % 2) 0 then Lib.accLo (c / 2) else Lib.accHi (c / 2)))
/-- The variables that are read: the tables, the signs, and a number that is not known. -/
def lays : List (Nat × Bool × List Value) := [(0, false, firstL), (1, false, accL), (2, false, signL.map fun l => .string ⟨⟨l⟩⟩), (6, false, [.chan (some 0)])]
/-! What the library's functions give. -/
def shRen : Go.Shelf.Ren := ⟨fun | 144 => 47 | 143 => 56 | 219 => 66 | 217 => 72 | 225 => 74 | 224 => 75 | 267 => 76 | 266 => 91 | 314 => 94 | n => n, fun | 9 => 9 | 4 => 4 | 3 => 3 | 5 => 5 | 46 => 58 | 146 => 137 | 51 => 117 | n => n, fun | 1 => 6 | n => n⟩
theorem shLays : Lays.n144 Tryz.prog shRen := {
  mixed := by kernel_rfl
  f143 := Tryz.func56.trans (congrArg some (by kernel_rfl))
  f144 := Tryz.func47.trans (congrArg some (by kernel_rfl))
  f217 := Tryz.func72.trans (congrArg some (by kernel_rfl))
  f219 := Tryz.func66.trans (congrArg some (by kernel_rfl))
  f224 := Tryz.func75.trans (congrArg some (by kernel_rfl))
  f225 := Tryz.func74.trans (congrArg some (by kernel_rfl))
  f266 := Tryz.func91.trans (congrArg some (by kernel_rfl))
  f267 := Tryz.func76.trans (congrArg some (by kernel_rfl))
  f314 := Tryz.func94.trans (congrArg some (by kernel_rfl))
  t3 := Tryz.underlying3
  a3 := Tryz.isAgg3
  z3 := Tryz.sizeOf3
  v3 := Tryz.zeroValue3
  t4 := Tryz.underlying4
  a4 := Tryz.isAgg4
  z4 := Tryz.sizeOf4
  v4 := Tryz.zeroValue4
  t5 := Tryz.underlying5
  a5 := Tryz.isAgg5
  z5 := Tryz.sizeOf5
  v5 := Tryz.zeroValue5
  t9 := Tryz.underlying9
  a9 := Tryz.isAgg9
  z9 := Tryz.sizeOf9
  v9 := Tryz.zeroValue9
  t46 := Tryz.underlying58
  a46 := Tryz.isAgg58
  z46 := Tryz.sizeOf58
  v46 := Tryz.zeroValue58
  t51 := Tryz.underlying117
  a51 := Tryz.isAgg117
  z51 := Tryz.sizeOf117
  v51 := Tryz.zeroValue117
  t146 := Tryz.underlying137
  a146 := Tryz.isAgg137
  z146 := Tryz.sizeOf137
  v146 := Tryz.zeroValue137
  g1 := by kernel_rfl }
def dcRen : Go.Shelf.Ren := ⟨fun | 197 => 55 | 260 => 65 | n => n, fun | 9 => 9 | 21 => 21 | 3 => 3 | 4 => 4 | 5 => 5 | 105 => 81 | 119 => 54 | 0 => 0 | 46 => 58 | 139 => 57 | 138 => 56 | n => n, fun | 3 => 0 | 4 => 1 | n => n⟩
theorem dcLays : Lays.n197 Tryz.prog dcRen := {
  mixed := by kernel_rfl
  f197 := Tryz.func55.trans (congrArg some (by kernel_rfl))
  f260 := Tryz.func65.trans (congrArg some (by kernel_rfl))
  t0 := Tryz.underlying0
  a0 := Tryz.isAgg0
  z0 := Tryz.sizeOf0
  v0 := Tryz.zeroValue0
  t3 := Tryz.underlying3
  a3 := Tryz.isAgg3
  z3 := Tryz.sizeOf3
  v3 := Tryz.zeroValue3
  t4 := Tryz.underlying4
  a4 := Tryz.isAgg4
  z4 := Tryz.sizeOf4
  v4 := Tryz.zeroValue4
  t5 := Tryz.underlying5
  a5 := Tryz.isAgg5
  z5 := Tryz.sizeOf5
  v5 := Tryz.zeroValue5
  t9 := Tryz.underlying9
  a9 := Tryz.isAgg9
  z9 := Tryz.sizeOf9
  v9 := Tryz.zeroValue9
  t21 := Tryz.underlying21
  a21 := Tryz.isAgg21
  z21 := Tryz.sizeOf21
  v21 := Tryz.zeroValue21
  t46 := Tryz.underlying58
  a46 := Tryz.isAgg58
  z46 := Tryz.sizeOf58
  v46 := Tryz.zeroValue58
  t105 := Tryz.underlying81
  a105 := Tryz.isAgg81
  z105 := Tryz.sizeOf81
  v105 := Tryz.zeroValue81
  t119 := Tryz.underlying54
  a119 := Tryz.isAgg54
  z119 := Tryz.sizeOf54
  t138 := Tryz.underlying56
  a138 := Tryz.isAgg56
  z138 := Tryz.sizeOf56
  v138 := Tryz.zeroValue56
  t139 := Tryz.underlying57
  a139 := Tryz.isAgg57
  z139 := Tryz.sizeOf57
  v139 := Tryz.zeroValue57
  g3 := by kernel_rfl
  g4 := by kernel_rfl }
def vdRen : Go.Shelf.Ren := ⟨fun | 196 => 8 | 259 => 18 | n => n, fun | 9 => 9 | 4 => 4 | 3 => 3 | 5 => 5 | 12 => 12 | 119 => 54 | 0 => 0 | 46 => 58 | 139 => 57 | 138 => 56 | 53 => 65 | n => n, fun | 3 => 0 | 4 => 1 | n => n⟩
theorem vdLays : Lays.n196 Tryz.prog vdRen := {
  mixed := by kernel_rfl
  f196 := Tryz.func8.trans (congrArg some (by kernel_rfl))
  f259 := Tryz.func18.trans (congrArg some (by kernel_rfl))
  t0 := Tryz.underlying0
  a0 := Tryz.isAgg0
  z0 := Tryz.sizeOf0
  v0 := Tryz.zeroValue0
  t3 := Tryz.underlying3
  a3 := Tryz.isAgg3
  z3 := Tryz.sizeOf3
  v3 := Tryz.zeroValue3
  t4 := Tryz.underlying4
  a4 := Tryz.isAgg4
  z4 := Tryz.sizeOf4
  v4 := Tryz.zeroValue4
  t5 := Tryz.underlying5
  a5 := Tryz.isAgg5
  z5 := Tryz.sizeOf5
  v5 := Tryz.zeroValue5
  t9 := Tryz.underlying9
  a9 := Tryz.isAgg9
  z9 := Tryz.sizeOf9
  v9 := Tryz.zeroValue9
  t12 := Tryz.underlying12
  a12 := Tryz.isAgg12
  z12 := Tryz.sizeOf12
  v12 := Tryz.zeroValue12
  t46 := Tryz.underlying58
  a46 := Tryz.isAgg58
  z46 := Tryz.sizeOf58
  v46 := Tryz.zeroValue58
  t53 := Tryz.underlying65
  a53 := Tryz.isAgg65
  z53 := Tryz.sizeOf65
  v53 := Tryz.zeroValue65
  t119 := Tryz.underlying54
  a119 := Tryz.isAgg54
  z119 := Tryz.sizeOf54
  t138 := Tryz.underlying56
  a138 := Tryz.isAgg56
  z138 := Tryz.sizeOf56
  v138 := Tryz.zeroValue56
  t139 := Tryz.underlying57
  a139 := Tryz.isAgg57
  z139 := Tryz.sizeOf57
  v139 := Tryz.zeroValue57
  g3 := by kernel_rfl
  g4 := by kernel_rfl }
def tupN (x : Nat × Nat) : Value := .tuple ⟨[.int .i32 (Int.ofNat x.1), .int .i64 (Int.ofNat x.2)]⟩
def callS (f : FuncId) (args : List Value) : Option Value := match args with
  | [.string k, .string t] => bif Nat.beq f 47 && Nat.blt k.size 4294967281 then some (.bool (Lib.contains k.data.toList t.data.toList)) else none
  | [.string s] => bif Nat.beq f 55 then some (tupN (Lib.decodeGo s)) else bif Nat.beq f 8 && Nat.ble s.size 4294967281 then some (.bool (Lib.validD s.data.toList)) else none
  | _ => none
/-- Three functions of the library are known. -/
abbrev V0 (m : Int) : Vals := { noVals with
  val := fun _ => .int .i64 m
  sc := fun _ => rfl
  call := callS
  laid := lays }
theorem lies_cell {m : Int} {W : World} (hl : @LiesBy (V0 m) Tryz.prog W lays) {g i : Nat} {vs : List Value} {v : Value} (hm : (g, false, vs) ∈ lays) (hg : g < 18) (hi : vs[i]? = some v) : ∃ w, W.cell? ⟨g, i, none⟩ = some w ∧ ∃ ρ, @LRel (V0 m) ρ v w := by
  obtain ⟨ρ, h1, _, h3⟩ := hl
  obtain ⟨c1, e1⟩ := h1 g (by rw [show Tryz.prog.globals.size = 18 by kernel_rfl]; exact hg)
  obtain ⟨s, c, t, fr, g1, g2, g3, g4, g5, _⟩ := h3 g false vs hm
  rw [e1] at g1
  cases g1
  obtain ⟨v', q1, q2⟩ := g4 i v hi
  have q4 : c[i]? = some v' := by simpa using q1
  refine ⟨v', ?_, _, q2⟩
  unfold World.cell?
  simp only at g2 ⊢
  rw [g2]
  exact q4
theorem cell_one {m : Int} {W : World} (hl : @LiesBy (V0 m) Tryz.prog W lays) : W.cell? ⟨6, 0, none⟩ = some (.int .i64 m) := by
  obtain ⟨w, h, ρ, q⟩ := lies_cell hl (g := 6) (i := 0) (vs := [.chan (some 0)]) (by unfold lays; exact .tail _ (.tail _ (.tail _ (.head _)))) (by decide) rfl
  have q3 : w = .int .i64 m := q
  rw [h, q3]
theorem tabs_of {m : Int} {W : World} (hl : @LiesBy (V0 m) Tryz.prog W lays) : Lib.Utf8Tabs 0 1 W := by
  have key : ∀ (g i : Nat) (vs : List Value) (n : Nat), (g, false, vs) ∈ lays → g < 18 → vs[i]? = some (.int .u8 (Int.ofNat n)) → W.cell? ⟨g, i, none⟩ = some (.int .u8 n) := fun g i vs n h1 h2 h3 => by
    obtain ⟨w, h, ρ, q⟩ := lies_cell hl h1 h2 h3
    have q3 : w = .int .u8 (Int.ofNat n) := by cases q; assumption
    rw [h, q3]
    rfl
  have ra : ∀ k, k < 32 → accL[k]? = some (.int .u8 (Int.ofNat (bif Nat.beq (k % 2) 0 then Lib.accLo (k / 2) else Lib.accHi (k / 2)))) := fun k hk => by
    unfold accL
    rw [List.getElem?_map, List.getElem?_range hk]
    rfl
  refine ⟨fun c hc => key 0 c firstL _ (by unfold lays; exact .head _) (by decide) ?_, fun i hi => ⟨key 1 (2 * i) accL _ (by unfold lays; exact .tail _ (.head _)) (by decide) ?_, key 1 (2 * i + 1) accL _ (by unfold lays; exact .tail _ (.head _)) (by decide) ?_⟩⟩
  · unfold firstL
    rw [List.getElem?_map, List.getElem?_range hc]
    rfl
  · rw [ra _ (by omega), Nat.mul_mod_right, Nat.mul_div_cancel_left _ (by decide)]
    rfl
  · rw [ra _ (by omega), Nat.mul_add_mod, show (2 * i + 1) / 2 = i by omega]
    rfl
theorem facts0 (m : Int) : @FactsOk (V0 m) Tryz.prog :=
  @FactsOk.mk (V0 m) Tryz.prog (fun _ _ _ _ _ h => by cases h) (fun _ _ _ h => by cases h) (fun _ _ _ _ h => by cases h) (fun _ _ _ h => by cases h) fun f args v h W hl => by
    have h : callS f args = some v := h
    unfold callS at h
    split at h
    · obtain ⟨hc, h⟩ := bif_some h
      simp only [Bool.and_eq_true, nblt, decide_eq_true_eq] at hc
      cases h
      rename_i k t h0
      have hf : f = 47 := Nat.eq_of_beq_eq_true hc.1
      subst hf
      refine (Any.strings_Contains shLays k t m W hc.2 (cell_one hl)).mono fun e W' ⟨h1, h2⟩ => ?_
      subst h2
      exact ⟨h1, ⟨rfl, rfl, rfl⟩, Nat.le_refl _, fun _ _ => rfl⟩
    · rename_i s h0
      cases hc : Nat.beq f 55 with
      | true =>
        rw [hc] at h
        cases h
        have hf : f = 55 := Nat.eq_of_beq_eq_true hc
        subst hf
        exact (Any.utf8_DecodeRuneInString dcLays s W (tabs_of hl)).mono fun e W' ⟨h1, h2⟩ => ⟨h1, ⟨h2.os, h2.tape, h2.output⟩, h2.size, h2.block⟩
      | false =>
        rw [hc] at h
        obtain ⟨hc, h⟩ := bif_some h
        simp only [Bool.and_eq_true, nble, decide_eq_true_eq] at hc
        cases h
        have hf : f = 8 := Nat.eq_of_beq_eq_true hc.1
        subst hf
        exact (Any.utf8_ValidString vdLays s W (Nat.le_trans hc.2 (by decide)) (tabs_of hl)).mono fun e W' ⟨h1, h2⟩ => ⟨h1, ⟨h2.os, h2.tape, h2.output⟩, h2.size, h2.block⟩
    · cases h
theorem awake_run (m : Int) (tt : Nat → TypeId) : saysB true (@irun (V0 m) Tryz.prog 100000 noFr (.fn 4 []) ⟨laidT tt lays, 1000, 0, []⟩) = true := by kernel_rfl
theorem awake_calls {m : Int} {W : World} (hl : @LiesBy (V0 m) Tryz.prog W lays) : Calls Tryz.prog 4 ⟨[]⟩ W fun e W' => e = .returned (.bool true) ∧ Still W W' :=
  @calls_laid (V0 m) Tryz.prog (facts0 m) (plainNames_of names) mixed _ _ _ [] [] lays _ _ true (awake_run m) _ Tryz.func4 (by kernel_rfl) W hl (by kernel_rfl) (fun _ => @VsRel.nil (V0 m) _)
/-- awake() is known besides. -/
def callV (f : FuncId) (args : List Value) : Option Value := match args with
  | [] => bif Nat.beq f 4 then some (.bool true) else none
  | _ => callS f args
/-- The number that is not known. -/
class Mx where
  x : Int
instance V [i : Mx] : Vals := { V0 i.x with call := callV }
variable [i : Mx]
instance facts : @FactsOk V Tryz.prog :=
  @FactsOk.mk V Tryz.prog (fun _ _ _ _ _ h => by cases h) (fun _ _ _ h => by cases h) (fun _ _ _ _ h => by cases h) (fun _ _ _ h => by cases h) fun f args v h W hl => by
    have h : callV f args = some v := h
    unfold callV at h
    split at h
    · obtain ⟨hf, h⟩ := bif_some h
      cases h
      rw [Nat.eq_of_beq_eq_true hf]
      exact (awake_calls (m := i.x) hl).mono fun e W' ⟨h1, h2⟩ => ⟨h1, ⟨h2.1.1, h2.1.2.1, h2.1.2.2⟩, h2.2.1, h2.2.2⟩
    · exact @FactsOk.call (V0 i.x) Tryz.prog (facts0 i.x) f args v h W hl
theorem laid0 (tt : Nat → TypeId) : LaidAt lays ⟨laidT tt lays, 1000, 0, []⟩ := ⟨by kernel_rfl, fun p hp => by
    have := List.all_eq_true.1 (show lays.all (fun p => Nat.blt p.1 1000) = true by kernel_rfl) p hp
    rw [nblt, decide_eq_true_eq] at this
    exact this⟩
theorem awake_ok {m : AW} (hl : LaidAt lays m) : Fc Tryz.prog 4 [] m fun v m' => v = .bool true ∧ Ext m m' :=
  Fc.said Tryz.func4 (by kernel_rfl) rfl rfl fewer hl
theorem contains_ok {k t : ByteArray} (hk : k.size < 4294967281) {m : AW} (hl : LaidAt lays m) : Fc Tryz.prog 47 [.string k, .string t] m fun v m' => v = .bool (Lib.contains k.data.toList t.data.toList) ∧ Ext m m' :=
  Fc.said Tryz.func47 (by kernel_rfl) (by
    show callS 47 [.string k, .string t] = _
    unfold callS
    simp only [nblt, decide_eq_true hk]
    rfl) rfl fewer hl
theorem dec_ok {s : ByteArray} {m : AW} (hl : LaidAt lays m) : Fc Tryz.prog 55 [.string s] m fun v m' => v = tupN (Lib.decodeGo s) ∧ Ext m m' :=
  Fc.said Tryz.func55 (by kernel_rfl) rfl rfl fewer hl
theorem valid_ok {s : ByteArray} (hs : s.size ≤ 4294967281) {m : AW} (hl : LaidAt lays m) : Fc Tryz.prog 8 [.string s] m fun v m' => v = .bool (Lib.validD s.data.toList) ∧ Ext m m' :=
  Fc.said Tryz.func8 (by kernel_rfl) (by
    show callS 8 [.string s] = _
    unfold callS
    simp only [nble, decide_eq_true hs]
    rfl) rfl fewer hl

end Go.Proofs.YtdgbgmpnjggikaaGreatDoor
