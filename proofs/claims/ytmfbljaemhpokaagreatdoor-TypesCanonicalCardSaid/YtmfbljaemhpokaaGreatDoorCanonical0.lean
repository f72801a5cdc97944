/-
  TypesCanonical: the functions that it calls, followed, 0. Conditions: none.
-/
import Derived.Test.YtmfbljaemhpokaaGreatDoorAwk
import Derived.Test.YtmfbljaemhpokaaGreatDoorGra
namespace Go.Proofs.YtmfbljaemhpokaaGreatDoor
open Go Go.Ab
set_option linter.unusedVariables false
set_option linter.unusedSimpArgs false
set_option linter.unusedSectionVars false
open Tryz
theorem gx {α : Type} {l : List α} {i : Nat} (h : i < l.length) : ∃ w, l[i]? = some w := ⟨_, List.getElem?_eq_getElem h⟩
theorem so {α : Type} {l : List α} {i : Nat} {P Q : Prop} (h : l = [] ∧ P ∨ Q) (k : i < l.length) : Q := h.elim (fun h => by rw [h.1] at k; simp at k) id
abbrev FA (t i k : Nat) : Prop := ∀ b off, fieldAddrA Tryz.prog t (.pointer (some ⟨b, off, none⟩)) i = some (.pointer (some ⟨b, off + k, none⟩))
abbrev LN (t : Nat) : Prop := ∀ a n c, lenA Tryz.prog t (.slice a n c) = some (.imm (.int .i64 (Int.ofNat n)))
theorem nz : (∀ a b, (ltI a b = true) = (a < b)) ∧ (∀ a b, (ltI a b = false) = (b ≤ a)) ∧ (∀ a b, (eqI a b = true) = (a = b)) ∧ (∀ a b, (eqI a b = false) = (a ≠ b)) ∧ (∀ a b : ByteArray, (eqBytes a.data.toList b.data.toList = true) = (a = b)) ∧ (∀ a b : ByteArray, (eqBytes a.data.toList b.data.toList = false) = (a ≠ b)) ∧ (∀ a : ByteArray, (eqBytes a.data.toList [] = true) = (a.size = 0)) ∧ (∀ a : ByteArray, (eqBytes a.data.toList [] = false) = (a.size ≠ 0)) ∧ (∀ n : Nat, Int.ofNat n = (n : Int)) ∧ (∀ b : Bool, ((!b) = true) = (b = false)) ∧ (∀ b : Bool, ((!b) = false) = (b = true)) ∧ (∀ (p : Prop) [Decidable p], (decide p = true) = p) ∧ (∀ (p : Prop) [Decidable p], (decide p = false) = ¬ p) :=
  ⟨nrm_lt, nrm_nlt, nrm_eq, nrm_neq, nrm_seq, nrm_sneq, nrm_sempty, nrm_snempty, nrm_ofNat, fun b => by cases b <;> simp, fun b => by cases b <;> simp, fun _ _ => decide_eq_true_eq, fun _ _ => propext decide_eq_false_iff_not⟩
theorem nb : (¬ (false = true)) ∧ (∀ p : Prop, (True ↔ p) ↔ p) ∧ (∀ p : Prop, (False ↔ p) ↔ ¬ p) ∧ (∀ p : Prop, (p ↔ True) ↔ p) ∧ (∀ p : Prop, (p ↔ False) ↔ ¬ p) ∧ (∀ p : Prop, ¬ ¬ p ↔ p) :=
  ⟨by decide, fun _ => true_iff _ ▸ Iff.rfl, fun _ => false_iff _ ▸ Iff.rfl, fun _ => iff_true _ ▸ Iff.rfl, fun _ => iff_false _ ▸ Iff.rfl, fun _ => Classical.not_not⟩
theorem nq : (∀ k n, shapeP k n = ((k = 6 ∨ k = 7 ∨ k = 8 ∨ k = 9) ∧ n = 1 ∨ k = 11 ∧ 2 ≤ n ∨ k = 12 ∧ 1 ≤ n ∨ (k ≠ 6 ∧ k ≠ 7 ∧ k ≠ 8 ∧ k ≠ 9 ∧ k ≠ 11 ∧ k ≠ 12) ∧ n = 0)) ∧ (∀ c, letterP c = (97 ≤ c ∧ c ≤ 122 ∨ 65 ≤ c ∧ c ≤ 90 ∨ c = 95)) ∧ (∀ c, charP c = ((97 ≤ c ∧ c ≤ 122 ∨ 65 ≤ c ∧ c ≤ 90 ∨ c = 95) ∨ 48 ≤ c ∧ c ≤ 57)) := ⟨fun _ _ => rfl, fun _ => rfl, fun _ => rfl⟩

theorem ag107 : aggT prog 107 = some false := by kernel_rfl
theorem ag108 : aggT prog 108 = some false := by kernel_rfl
theorem ag109 : aggT prog 109 = some false := by kernel_rfl
theorem ag132 : aggT prog 132 = some true := by kernel_rfl
theorem ag155 : aggT prog 155 = some false := by kernel_rfl
theorem ag161 : aggT prog 161 = some false := by kernel_rfl
theorem ag22 : aggT prog 22 = some false := by kernel_rfl
theorem ag25 : aggT prog 25 = some false := by kernel_rfl
theorem ag3 : aggT prog 3 = some false := by kernel_rfl
theorem ag32 : aggT prog 32 = some false := by kernel_rfl
theorem ag4 : aggT prog 4 = some false := by kernel_rfl
theorem ag47 : aggT prog 47 = some false := by kernel_rfl
theorem ag48 : aggT prog 48 = some false := by kernel_rfl
theorem ag5 : aggT prog 5 = some false := by kernel_rfl
theorem ag50 : aggT prog 50 = some true := by kernel_rfl
theorem ag55 : aggT prog 55 = some true := by kernel_rfl
theorem ag9 : aggT prog 9 = some false := by kernel_rfl
theorem ag96 : aggT prog 96 = some false := by kernel_rfl
theorem ap132 : AppC prog 132 2 = true := by kernel_rfl
theorem ap3 : AppC prog 3 1 = true := by kernel_rfl
theorem ap5 : AppC prog 5 1 = true := by kernel_rfl
theorem ap50 : AppC prog 50 5 = true := by kernel_rfl
theorem ap55 : AppC prog 55 2 = true := by kernel_rfl
theorem bs22_1 : ∀ (x0 x1 x2 x3 x4 : Value), buildSliceA prog 22 1 [(0, .agg ⟨[x0, x1, x2, x3, x4]⟩)] = some (.cells [x0, x1, x2, x3, x4] 50 false .plain none, sliceTo 1 1) := fun _ _ _ _ _ => by kernel_rfl
theorem bs32_0 : buildSliceA prog 32 0 [] = some (.cells [] 3 false .plain none, sliceTo 0 0) := by kernel_rfl
theorem bs32_1 : ∀ (a : Int), buildSliceA prog 32 1 [(0, .int .i64 a)] = some (.cells [.int .i64 a] 3 false .plain none, sliceTo 1 1) := fun _ => by kernel_rfl
theorem bs32_2 : ∀ (a0 a1 : Int), buildSliceA prog 32 2 [(0, .int .i64 a0), (1, .int .i64 a1)] = some (.cells [.int .i64 a0, .int .i64 a1] 3 false .plain none, sliceTo 2 2) := fun _ _ => by kernel_rfl
theorem bs47_0 : buildSliceA prog 47 0 [] = some (.cells [] 132 false .plain none, sliceTo 0 0) := by kernel_rfl
theorem bs47_1 : ∀ (x0 x1 : Value), buildSliceA prog 47 1 [(0, .agg ⟨[x0, x1]⟩)] = some (.cells [x0, x1] 132 false .plain none, sliceTo 1 1) := fun _ _ => by kernel_rfl
theorem bs48_1 : ∀ (x0 x1 : Value), buildSliceA prog 48 1 [(0, .agg ⟨[x0, x1]⟩)] = some (.cells [x0, x1] 55 false .plain none, sliceTo 1 1) := fun _ _ => by kernel_rfl
theorem ce5 : Nat.beq (prog.cellsOf 5) 1 = true := by kernel_rfl
theorem fa111_0 : FA 111 0 0 := fun _ _ => by kernel_rfl
theorem fa111_1 : FA 111 1 1 := fun _ _ => by kernel_rfl
theorem fa113_0 : FA 113 0 0 := fun _ _ => by kernel_rfl
theorem fa113_1 : FA 113 1 1 := fun _ _ => by kernel_rfl
theorem fa113_2 : FA 113 2 2 := fun _ _ => by kernel_rfl
theorem fa132_0 : FA 132 0 0 := fun _ _ => by kernel_rfl
theorem fa132_1 : FA 132 1 1 := fun _ _ => by kernel_rfl
theorem fa157_0 : FA 157 0 0 := fun _ _ => by kernel_rfl
theorem fa157_1 : FA 157 1 1 := fun _ _ => by kernel_rfl
theorem fa163_0 : FA 163 0 0 := fun _ _ => by kernel_rfl
theorem fa163_1 : FA 163 1 1 := fun _ _ => by kernel_rfl
theorem fa50_0 : FA 50 0 0 := fun _ _ => by kernel_rfl
theorem fa50_1 : FA 50 1 1 := fun _ _ => by kernel_rfl
theorem fa50_2 : FA 50 2 2 := fun _ _ => by kernel_rfl
theorem fa50_3 : FA 50 3 3 := fun _ _ => by kernel_rfl
theorem fa50_4 : FA 50 4 4 := fun _ _ => by kernel_rfl
theorem fa55_0 : FA 55 0 0 := fun _ _ => by kernel_rfl
theorem fa55_1 : FA 55 1 1 := fun _ _ => by kernel_rfl
theorem lies111 : liesAt prog prog.depth 113 (4 / prog.cellsOf 113) 2 111 1 = true := by kernel_rfl
theorem ln109 : LN 109 := fun _ _ _ => by kernel_rfl
theorem ln22 : LN 22 := fun _ _ _ => by kernel_rfl
theorem ln32 : LN 32 := fun _ _ _ => by kernel_rfl
theorem ln47 : LN 47 := fun _ _ _ => by kernel_rfl
theorem ln48 : LN 48 := fun _ _ _ => by kernel_rfl
theorem ln9 : ∀ s, lenA prog 9 (.string s) = some (.imm (.int .i64 (Int.ofNat s.size))) := fun _ => by kernel_rfl
theorem pe5 : ptrElem prog (some 182) 5 = true := by kernel_rfl
theorem sz108 : sizeT prog 108 = some 1 := by kernel_rfl
theorem sz109 : sizeT prog 109 = some 1 := by kernel_rfl
theorem sz111 : sizeT prog 111 = some 2 := by kernel_rfl
theorem sz132 : sizeT prog 132 = some 2 := by kernel_rfl
theorem sz25 : sizeT prog 25 = some 1 := by kernel_rfl
theorem sz3 : sizeT prog 3 = some 1 := by kernel_rfl
theorem sz32 : sizeT prog 32 = some 1 := by kernel_rfl
theorem sz4 : sizeT prog 4 = some 1 := by kernel_rfl
theorem sz47 : sizeT prog 47 = some 1 := by kernel_rfl
theorem sz48 : sizeT prog 48 = some 1 := by kernel_rfl
theorem sz5 : sizeT prog 5 = some 1 := by kernel_rfl
theorem sz50 : sizeT prog 50 = some 5 := by kernel_rfl
theorem sz55 : sizeT prog 55 = some 2 := by kernel_rfl
theorem sz96 : sizeT prog 96 = some 1 := by kernel_rfl
theorem zr132 : zeroT prog 132 = some (.agg ⟨[.string ⟨⟨[]⟩⟩, .int .i64 0]⟩) := by kernel_rfl
theorem zr25 : zeroT prog 25 = some (.int .i64 0) := by kernel_rfl
theorem zr3 : zeroT prog 3 = some (.int .i64 0) := by kernel_rfl
theorem zr32 : zeroT prog 32 = some (.slice none 0 0) := by kernel_rfl
theorem zr4 : zeroT prog 4 = some (.bool false) := by kernel_rfl
theorem zr50 : zeroT prog 50 = some (.agg ⟨[.int .i64 0, .slice none 0 0, .string ⟨⟨[]⟩⟩, .slice none 0 0, .slice none 0 0]⟩) := by kernel_rfl
theorem zr55 : zeroT prog 55 = some (.agg ⟨[.string ⟨⟨[]⟩⟩, .slice none 0 0]⟩) := by kernel_rfl
theorem zr96 : zeroT prog 96 = some (.nilFunc) := by kernel_rfl
theorem short_ok {l : List Fld} {v : Value} {m : AW} (hm : m.lo ≤ m.next) (hl : Sl (Mem m) 2 RFld l v) : Fc prog 50 [v] m fun v m' => v = .bool (shortB l) ∧ Ext m m' := by
 obtain ⟨a, cap, rfl, hn, hl⟩ := hl
 refine Fc.body (c := _) func50 rfl rfl rfl rfl hm ?_
 refine .seq (.region (.P ?_))
 refine .nil (.seq (.seq (.seq (.region (.P ?_)))))
 refine .G (ln47 ..) ?_
 refine .P ?_
 refine .nil (.seq (.cond rfl (fun hc0 => ?_) fun hc0 => ?_))
 ·try simp only [nz] at hc0
  refine .seq (.region (.P ?_))
  refine .nil (.seq (.ret (.seq ?_)))
  exact .end_ rfl rfl (fun m hm => ⟨congrArg Value.bool (by unfold shortB; rw [decide_eq_false (by omega)]; rfl), hm.ext⟩)
 try simp only [nz] at hc0
 refine .skip (.seq (.seq (.seq (.region (.P ?_)))))
 refine .nil (.seq (.block ?_))
 refine .loop (α := Nat) (fun i => [(0, .slice a l.length cap), (3, .int .i64 (Int.ofNat (i)))]) (fun i => []) (fun i => i ≤ l.length ∧ ∀ (j : Nat) (x : Fld), j < i → l[j]? = some x → x.name.size ≤ 50) (fun i => l.length - i) 0 ⟨Nat.zero_le _, fun _ _ h => (by cases h)⟩ ⟨rfl, rfl, trivial⟩ (List.nil_sublist _) (fun i hi => ?_)
 refine .seq (.seq (.region (.P2 ?_)))
 refine .G (ln47 ..) ?_
 refine .P ?_
 refine .nil (.seq (.cond rfl (fun hc1 => ?_) fun hc1 => ?_))
 ·try simp only [nz] at hc1
  have hlt : i < l.length := by omega
  obtain ⟨x, hx⟩ := gx hlt
  obtain ⟨b, off, cs, el, g, md, mate, rfl, ⟨hb, hh⟩, hle, hc⟩ := so hl hlt
  have hr := hc i x hx
  refine .skip (.seq (.seq (.block (.seq (.region (.P2 ?_))))))
  refine .K underlying47 sz132 ?_
  refine .F fa132_0 ?_
  refine .M ag9 (.base hh hb (by simp)) (cell_of_take hr (k := 0) rfl) ?_
  refine .G (ln9 ..) ?_
  refine .P ?_
  refine .nil (.seq (.cond rfl (fun hc2 => ?_) fun hc2 => ?_))
  ·try simp only [nz] at hc2
   refine .seq (.region (.P ?_))
   refine .nil (.seq (.ret (.blk (.seq (.loop (.blk (.seq ?_)))))))
   exact .end_ rfl rfl (fun m hm => ⟨congrArg Value.bool (by unfold shortB; rw [all_not hx (decide_eq_false (by omega)), Bool.and_false]), hm.ext⟩)
  try simp only [nz] at hc2
  refine .skip (.blk (.seq (.region (.P2 ?_))))
  refine .W 12 i ?_
  refine .P ?_
  refine .nil ?_
  exact .loop (i + 1) ⟨hlt, upto_succ hi.2 hx (by omega)⟩ (by omega) ⟨rfl, rfl, trivial⟩ (List.nil_sublist _)
 try simp only [nz] at hc1
 refine .exit (.seq (.loop (.here (.seq (.seq (.region (.P ?_)))))))
 refine .nil (.seq (.ret ?_))
 exact .end_ rfl rfl (fun m hm => ⟨congrArg Value.bool (by unfold shortB; rw [decide_eq_true (by omega), all_of fun j x hj hx => decide_eq_true (hi.2 j x (by omega) hx)]; rfl), hm.ext⟩)
theorem shaped_ok {t : Ty} {cs : List Value} {m : AW} (hm : m.lo ≤ m.next) (ht : RTy (Mem m) t cs) : Fc prog 93 [.agg ⟨cs⟩] m fun v m' => v = .bool (shapedB t) ∧ Ext m m' := by
 obtain ⟨ve, vf, va, rfl, he, hf, ha⟩ := ht
 obtain ⟨ae, ce, rfl, hne, he⟩ := he
 obtain ⟨af, cf, rfl, hnf, hf⟩ := hf
 obtain ⟨aa, ca, rfl, hna, ha⟩ := ha
 refine Fc.body (c := _) func93 rfl rfl rfl rfl hm ?_
 refine .seq (.region ?_)
 refine .box rfl rfl rfl rfl rfl (fun b1 hb1 => ?_)
 refine .P ?_
 refine .nil (.seq (.seq (.region (.F fa50_1 ?_))))
 refine .L ag32 ?_
 refine .G (ln32 ..) ?_
 refine .P ?_
 refine .nil (.seq (.seq (.region (.P3 ?_))))
 refine .nil (.seq ?_)
 refine .joinA (True) [(4, .bool (decide (shapeP t.kind t.elems.length)))] ?_ (fun _ => ?_)
 ·refine .seq (.region (.F fa50_0 ?_))
  refine .L ag3 ?_
  refine .nil (.seq (.block (.seq (.seq (.region (.P2 ?_))))))
  refine .nil (.seq (.cond rfl (fun hc0 => ?_) fun hc0 => ?_))
  ·refine .B 12 hc0 ?_
   (try simp only [nz] at hc0); try simp only [nq] at hc0
   refine .skip (.seq (.cond_true rfl (.region (.P3 ?_))))
   refine .nil (.blk ?_)
   refine .as 4 (.bool (decide (shapeP t.kind t.elems.length))) rfl (congrArg Value.bool (by apply bbx; simp only [nz, nb, reduceCtorEq]; (try simp only [nq]); omega)) ?_
   exact .J (trivial)
  refine .B 12 hc0 ?_
  (try simp only [nz] at hc0); try simp only [nq] at hc0
  refine .seq (.region (.P2 ?_))
  refine .nil (.seq (.cond rfl (fun hc1 => ?_) fun hc1 => ?_))
  ·refine .B 12 hc1 ?_
   (try simp only [nz] at hc1); try simp only [nq] at hc1
   refine .skip (.seq (.cond_true rfl (.region (.P3 ?_))))
   refine .nil (.blk ?_)
   refine .as 4 (.bool (decide (shapeP t.kind t.elems.length))) rfl (congrArg Value.bool (by apply bbx; simp only [nz, nb, reduceCtorEq]; (try simp only [nq]); omega)) ?_
   exact .J (trivial)
  refine .B 12 hc1 ?_
  (try simp only [nz] at hc1); try simp only [nq] at hc1
  refine .seq (.region (.P2 ?_))
  refine .nil (.seq (.cond rfl (fun hc2 => ?_) fun hc2 => ?_))
  ·refine .B 12 hc2 ?_
   (try simp only [nz] at hc2); try simp only [nq] at hc2
   refine .skip (.seq (.cond_true rfl (.region (.P3 ?_))))
   refine .nil (.blk ?_)
   refine .as 4 (.bool (decide (shapeP t.kind t.elems.length))) rfl (congrArg Value.bool (by apply bbx; simp only [nz, nb, reduceCtorEq]; (try simp only [nq]); omega)) ?_
   exact .J (trivial)
  refine .B 12 hc2 ?_
  (try simp only [nz] at hc2); try simp only [nq] at hc2
  refine .region (.P2 ?_)
  refine .nil (.seq (.cond rfl (fun hc3 => ?_) fun hc3 => ?_))
  ·refine .B 12 hc3 ?_
   (try simp only [nz] at hc3); try simp only [nq] at hc3
   refine .region (.P3 ?_)
   refine .nil (.blk ?_)
   refine .as 4 (.bool (decide (shapeP t.kind t.elems.length))) rfl (congrArg Value.bool (by apply bbx; simp only [nz, nb, reduceCtorEq]; (try simp only [nq]); omega)) ?_
   exact .J (trivial)
  refine .B 12 hc3 ?_
  (try simp only [nz] at hc3); try simp only [nq] at hc3
  refine .seq (.region (.P2 ?_))
  refine .nil (.seq (.cond rfl (fun hc4 => ?_) fun hc4 => ?_))
  ·(try simp only [nz] at hc4); try simp only [nq] at hc4
   refine .region (.P3 ?_)
   refine .nil (.blk ?_)
   refine .as 4 (.bool (decide (shapeP t.kind t.elems.length))) rfl (congrArg Value.bool (by apply bbx; simp only [nz, nb, reduceCtorEq]; (try simp only [nq]); omega)) ?_
   exact .J (trivial)
  (try simp only [nz] at hc4); try simp only [nq] at hc4
  refine .seq (.region (.P2 ?_))
  refine .nil (.seq (.cond rfl (fun hc5 => ?_) fun hc5 => ?_))
  ·(try simp only [nz] at hc5); try simp only [nq] at hc5
   refine .region (.P3 ?_)
   refine .nil (.blk ?_)
   refine .as 4 (.bool (decide (shapeP t.kind t.elems.length))) rfl (congrArg Value.bool (by apply bbx; simp only [nz, nb, reduceCtorEq]; (try simp only [nq]); omega)) ?_
   exact .J (trivial)
  (try simp only [nz] at hc5); try simp only [nq] at hc5
  refine .skip (.blk ?_)
  refine .as 4 (.bool (decide (shapeP t.kind t.elems.length))) rfl (congrArg Value.bool (by apply bbx; simp only [nz, nb, reduceCtorEq]; (try simp only [nq]); omega)) ?_
  exact .J (trivial)
 refine .seq (.region (.P2 ?_))
 refine .splitB 28 rfl (fun hs0 => ?_) (fun hs0 => ?_)
 ·(try simp only [nz] at hs0); try simp only [nq] at hs0
  refine .F fa50_3 ?_
  refine .L ag47 ?_
  refine .G (ln47 ..) ?_
  refine .P2 ?_
  refine .splitB 33 rfl (fun hs1 => ?_) (fun hs1 => ?_)
  ·(try simp only [nz] at hs1); try simp only [nq] at hs1
   iterate 3 refine .O ?_
   refine .P2 ?_
   iterate 3 refine .O ?_
   refine .P3 ?_
   refine .F fa50_4 ?_
   refine .L ag48 ?_
   refine .G (ln48 ..) ?_
   refine .P2 ?_
   refine .splitB 49 rfl (fun hs2 => ?_) (fun hs2 => ?_)
   ·(try simp only [nz] at hs2); try simp only [nq] at hs2
    iterate 3 refine .O ?_
    refine .P3 ?_
    refine .nil (.seq (.ret ?_))
    exact .end_ rfl rfl (fun m hm => ⟨congrArg Value.bool (by unfold shapedB; rw [Bool.eq_iff_iff]; simp only [nz, nb, reduceCtorEq]; (try simp only [nq]); omega), hm.ext⟩)
   (try simp only [nz] at hs2); try simp only [nq] at hs2
   refine .F fa50_0 ?_
   refine .L ag3 ?_
   iterate 4 refine .P ?_
   refine .nil (.seq (.ret ?_))
   exact .end_ rfl rfl (fun m hm => ⟨congrArg Value.bool (by unfold shapedB; rw [Bool.eq_iff_iff]; simp only [nz, nb, reduceCtorEq]; (try simp only [nq]); omega), hm.ext⟩)
  (try simp only [nz] at hs1); try simp only [nq] at hs1
  refine .F fa50_0 ?_
  refine .L ag3 ?_
  refine .P3 ?_
  refine .splitB 38 rfl (fun hs3 => ?_) (fun hs3 => ?_)
  ·(try simp only [nz] at hs3); try simp only [nq] at hs3
   iterate 3 refine .O ?_
   refine .P3 ?_
   refine .F fa50_4 ?_
   refine .L ag48 ?_
   refine .G (ln48 ..) ?_
   refine .P2 ?_
   refine .splitB 49 rfl (fun hs4 => ?_) (fun hs4 => ?_)
   ·(try simp only [nz] at hs4); try simp only [nq] at hs4
    iterate 3 refine .O ?_
    refine .P3 ?_
    refine .nil (.seq (.ret ?_))
    exact .end_ rfl rfl (fun m hm => ⟨congrArg Value.bool (by unfold shapedB; rw [Bool.eq_iff_iff]; simp only [nz, nb, reduceCtorEq]; (try simp only [nq]); omega), hm.ext⟩)
   (try simp only [nz] at hs4); try simp only [nq] at hs4
   refine .F fa50_0 ?_
   refine .L ag3 ?_
   iterate 4 refine .P ?_
   refine .nil (.seq (.ret ?_))
   exact .end_ rfl rfl (fun m hm => ⟨congrArg Value.bool (by unfold shapedB; rw [Bool.eq_iff_iff]; simp only [nz, nb, reduceCtorEq]; (try simp only [nq]); omega), hm.ext⟩)
  (try simp only [nz] at hs3); try simp only [nq] at hs3
  refine .F fa50_0 ?_
  refine .L ag3 ?_
  iterate 4 refine .P ?_
  refine .splitB 44 rfl (fun hs5 => ?_) (fun hs5 => ?_)
  ·(try simp only [nz] at hs5); try simp only [nq] at hs5
   refine .F fa50_4 ?_
   refine .L ag48 ?_
   refine .G (ln48 ..) ?_
   refine .P2 ?_
   refine .splitB 49 rfl (fun hs6 => ?_) (fun hs6 => ?_)
   ·(try simp only [nz] at hs6); try simp only [nq] at hs6
    iterate 3 refine .O ?_
    refine .P3 ?_
    refine .nil (.seq (.ret ?_))
    exact .end_ rfl rfl (fun m hm => ⟨congrArg Value.bool (by unfold shapedB; rw [Bool.eq_iff_iff]; simp only [nz, nb, reduceCtorEq]; (try simp only [nq]); omega), hm.ext⟩)
   (try simp only [nz] at hs6); try simp only [nq] at hs6
   refine .F fa50_0 ?_
   refine .L ag3 ?_
   iterate 4 refine .P ?_
   refine .nil (.seq (.ret ?_))
   exact .end_ rfl rfl (fun m hm => ⟨congrArg Value.bool (by unfold shapedB; rw [Bool.eq_iff_iff]; simp only [nz, nb, reduceCtorEq]; (try simp only [nq]); omega), hm.ext⟩)
  (try simp only [nz] at hs5); try simp only [nq] at hs5
  iterate 9 refine .O ?_
  refine .P2 ?_
  refine .nil (.seq (.ret ?_))
  exact .end_ rfl rfl (fun m hm => ⟨congrArg Value.bool (by unfold shapedB; rw [Bool.eq_iff_iff]; simp only [nz, nb, reduceCtorEq]; (try simp only [nq]); omega), hm.ext⟩)
 (try simp only [nz] at hs0); try simp only [nq] at hs0
 iterate 14 refine .O ?_
 refine .P2 ?_
 iterate 9 refine .O ?_
 refine .P2 ?_
 refine .nil (.seq (.ret ?_))
 exact .end_ rfl rfl (fun m hm => ⟨congrArg Value.bool (by unfold shapedB; rw [Bool.eq_iff_iff]; simp only [nz, nb, reduceCtorEq]; (try simp only [nq]); omega), hm.ext⟩)
theorem crowded_ok {t : Ty} {cs : List Value} {m : AW} (hm : m.lo ≤ m.next) (ht : RTy (Mem m) t cs) (hw : FewT t) : Fc prog 94 [.agg ⟨cs⟩] m fun v m' => v = .bool false ∧ Ext m m' := by
 obtain ⟨ve, vf, va, rfl, he, hf, ha⟩ := ht
 obtain ⟨ae, ce, rfl, hne, he⟩ := he
 obtain ⟨af, cf, rfl, hnf, hf⟩ := hf
 obtain ⟨aa, ca, rfl, hna, ha⟩ := ha
 have k1 := hw.elems
 have k2 := hw.fields
 have k3 := hw.arms
 refine Fc.body (c := _) func94 rfl rfl rfl rfl hm ?_
 refine .seq (.region ?_)
 refine .box rfl rfl rfl rfl rfl (fun b1 hb1 => ?_)
 refine .P ?_
 refine .nil (.seq (.seq ?_))
 refine .joinA (True) [(20, .bool false)] ?_ (fun _ => ?_)
 ·refine .region (.F fa50_1 ?_)
  refine .L ag32 ?_
  refine .G (ln32 ..) ?_
  refine .P2 ?_
  refine .splitB 9 rfl (fun hs0 => ?_) (fun hs0 => ?_)
  ·try simp only [nz] at hs0
   exfalso; omega
  try simp only [nz] at hs0
  refine .F fa50_3 ?_
  refine .L ag47 ?_
  refine .G (ln47 ..) ?_
  refine .P3 ?_
  refine .splitB 15 rfl (fun hs1 => ?_) (fun hs1 => ?_)
  ·try simp only [nz] at hs1
   exfalso; omega
  try simp only [nz] at hs1
  refine .F fa50_4 ?_
  refine .L ag48 ?_
  refine .G (ln48 ..) ?_
  refine .P2 ?_
  refine .nil ?_
  refine .as 20 (.bool false) rfl (congrArg Value.bool (by rw [← Bool.not_eq_true]; simp only [nrm_lt, nrm_nlt, nrm_eq, nrm_neq, nrm_seq, nrm_sneq, nrm_sempty, nrm_snempty, nrm_ofNat, Bool.not_eq_true', Bool.not_eq_false']; omega)) ?_
  exact .J (trivial)
 refine .cond_false (rfl) ?_
 refine .skip (.seq (.seq (.seq (.region (.F fa50_4 ?_)))))
 refine .L ag48 ?_
 refine .G (ln48 ..) ?_
 refine .P ?_
 refine .nil (.seq (.block ?_))
 refine .loop (α := Nat) (fun i => [(22, .slice aa t.arms.length ca), (23, .int .i64 (Int.ofNat (t.arms.length))), (24, .int .i64 (Int.ofNat (i)))]) (fun i => []) (fun i => i ≤ t.arms.length) (fun i => t.arms.length - i) 0 (Nat.zero_le _) ⟨rfl, rfl, rfl, trivial⟩ (List.nil_sublist _) (fun i hi => ?_)
 refine .seq (.region (.P ?_))
 refine .nil (.seq (.seq (.cond rfl (fun hc1 => ?_) fun hc1 => ?_)))
 ·try simp only [nz] at hc1
  have hlt : i < t.arms.length := by omega
  obtain ⟨x, hx⟩ := gx hlt
  obtain ⟨b, off, cs, el, g, md, mate, rfl, ⟨hb, hh⟩, hle, hc⟩ := so ha hlt
  have hr := hc i x hx
  obtain ⟨vx, hra, hfa⟩ := hr
  obtain ⟨ax, cx, rfl, hnx, hfa⟩ := hfa
  have k4 := hw.afields i x hx
  refine .skip (.seq (.seq (.block (.seq (.region (.K underlying48 sz55 ?_))))))
  refine .A ag55 sz55 (.base hh hb (by simp)) hra ?_
  refine .alloc rfl rfl rfl rfl zr55 (fun b4 hb4 => ?_)
  refine .S sz55 ?_
  refine .nil (.seq (.seq (.region (.F fa55_1 ?_))))
  refine .L ag47 ?_
  refine .G (ln47 ..) ?_
  refine .P ?_
  refine .nil (.seq (.cond rfl (fun hc2 => ?_) fun hc2 => ?_))
  ·try simp only [nz] at hc2
   exfalso; omega
  try simp only [nz] at hc2
  refine .skip (.blk (.seq (.region (.P ?_))))
  refine .W 32 i ?_
  refine .P ?_
  refine .nil ?_
  exact .loop (i + 1) hlt (by omega) ⟨rfl, rfl, rfl, trivial⟩ (List.nil_sublist _)
 try simp only [nz] at hc1
 refine .exit (.seq (.loop (.here (.seq (.seq (.region (.P ?_)))))))
 refine .nil (.seq (.ret ?_))
 exact .end_ rfl rfl (fun m hm => ⟨rfl, hm.ext⟩)
theorem name_ok {s : ByteArray} {m : AW} (hm : m.lo ≤ m.next) : Fc prog 131 [.string s] m fun v m' => v = .bool (nameB s) ∧ Ext m m' := by
 refine Fc.body (c := _) func131 rfl rfl rfl rfl hm ?_
 refine .seq (.region (.P ?_))
 refine .nil (.seq (.seq ?_))
 refine .joinA (True) [(21, .bool (decide (s.size = 0 ∨ 40 < s.size ∨ 48 ≤ (fstC s).toNat ∧ (fstC s).toNat ≤ 57)))] ?_ (fun _ => ?_)
 ·refine .region (.P3 ?_)
  refine .splitB 7 rfl (fun hs0 => ?_) (fun hs0 => ?_)
  ·(try simp only [nz] at hs0); try simp only [nq] at hs0
   iterate 3 refine .O ?_
   refine .P2 ?_
   iterate 8 refine .O ?_
   refine .P ?_
   refine .nil ?_
   refine .as 21 (.bool (decide (s.size = 0 ∨ 40 < s.size ∨ 48 ≤ (fstC s).toNat ∧ (fstC s).toNat ≤ 57))) rfl (congrArg Value.bool (by apply bbx; simp only [nz, nb, reduceCtorEq]; (try simp only [nq]); omega)) ?_
   exact .J (trivial)
  (try simp only [nz] at hs0); try simp only [nq] at hs0
  refine .P ?_
  refine .G (ln9 ..) ?_
  refine .P3 ?_
  refine .splitB 12 rfl (fun hs1 => ?_) (fun hs1 => ?_)
  ·(try simp only [nz] at hs1); try simp only [nq] at hs1
   iterate 8 refine .O ?_
   refine .P ?_
   refine .nil ?_
   refine .as 21 (.bool (decide (s.size = 0 ∨ 40 < s.size ∨ 48 ≤ (fstC s).toNat ∧ (fstC s).toNat ≤ 57))) rfl (congrArg Value.bool (by apply bbx; simp only [nz, nb, reduceCtorEq]; (try simp only [nq]); omega)) ?_
   exact .J (trivial)
  (try simp only [nz] at hs1); try simp only [nq] at hs1
  refine .P ?_
  refine .indexStr rfl rfl rfl rfl underlying9 rfl rfl (fst_get (by omega)) ?_
  refine .P2 ?_
  refine .splitB 16 rfl (fun hs2 => ?_) (fun hs2 => ?_)
  ·(try simp only [nz] at hs2); try simp only [nq] at hs2
   refine .P ?_
   refine .indexStr rfl rfl rfl rfl underlying9 rfl rfl (fst_get (by omega)) ?_
   refine .P3 ?_
   refine .nil ?_
   refine .as 21 (.bool (decide (s.size = 0 ∨ 40 < s.size ∨ 48 ≤ (fstC s).toNat ∧ (fstC s).toNat ≤ 57))) rfl (congrArg Value.bool (by apply bbx; simp only [nz, nb, reduceCtorEq]; (try simp only [nq]); omega)) ?_
   exact .J (trivial)
  (try simp only [nz] at hs2); try simp only [nq] at hs2
  iterate 3 refine .O ?_
  refine .P2 ?_
  refine .nil ?_
  refine .as 21 (.bool (decide (s.size = 0 ∨ 40 < s.size ∨ 48 ≤ (fstC s).toNat ∧ (fstC s).toNat ≤ 57))) rfl (congrArg Value.bool (by apply bbx; simp only [nz, nb, reduceCtorEq]; (try simp only [nq]); omega)) ?_
  exact .J (trivial)
 refine .cond rfl (fun hc0 => ?_) (fun hc0 => ?_)
 ·(try simp only [nz] at hc0); try simp only [nq] at hc0
  refine .seq (.region (.P ?_))
  refine .nil (.seq (.ret (.seq ?_)))
  exact .end_ rfl rfl (fun m hm => ⟨congrArg Value.bool (by unfold nameB; rw [decide_eq_false (by omega)]; rfl), hm.ext⟩)
 (try simp only [nz] at hc0); try simp only [nq] at hc0
 refine .skip (.seq (.seq (.seq (.region (.P ?_)))))
 refine .toBytes (by omega) rfl rfl rfl rfl (by kernel_rfl) underlying9 underlying109 underlying5 sz5 rfl (fun b23 hb23 => ?_)
 refine .G (ln109 ..) ?_
 refine .P ?_
 refine .nil (.seq (.block ?_))
 refine .loop (α := Nat) (fun i => [(23, .slice (some ⟨b23, 0, none⟩) s.size top), (24, .int .i64 (Int.ofNat (s.size))), (25, .int .i64 (Int.ofNat (i)))]) (fun i => [(b23, .cells (s.data.toList.map fun b => .int .u8 (Int.ofNat b.toNat)) 5 true .strish none)]) (fun i => i ≤ s.size ∧ ∀ (j : Nat) (x : UInt8), j < i → s.data.toList[j]? = some x → charP x.toNat) (fun i => s.size - i) 0 ⟨Nat.zero_le _, fun _ _ h => (by cases h)⟩ ⟨rfl, rfl, rfl, trivial⟩ (.refl _) (fun i hi => ?_)
 refine .seq (.region (.P ?_))
 refine .nil (.seq (.seq (.cond rfl (fun hc1 => ?_) fun hc1 => ?_)))
 ·(try simp only [nz] at hc1); try simp only [nq] at hc1
  have hlt : i < s.size := by omega
  obtain ⟨x, hx⟩ := byte_at hlt
  refine .skip (.seq (.seq (.block (.seq (.region (.K underlying109 sz5 ?_))))))
  refine .load rfl rfl rfl rfl rfl ag5 (by repeat first | exact .head | exact .app .head | exact .base ‹_› ‹_› (by simp) | refine .tail ?_ | refine .app ?_) (map_cell hx) ?_
  refine .P ?_
  refine .nil (.seq ?_)
  refine .joinA (True) [(55, .bool (decide (¬ charP x.toNat)))] ?_ (fun _ => ?_)
  ·refine .region (.P3 ?_)
   refine .splitB 31 rfl (fun hs3 => ?_) (fun hs3 => ?_)
   ·(try simp only [nz] at hs3); try simp only [nq] at hs3
    iterate 4 refine .P ?_
    refine .splitB 35 rfl (fun hs4 => ?_) (fun hs4 => ?_)
    ·(try simp only [nz] at hs4); try simp only [nq] at hs4
     iterate 6 refine .O ?_
     refine .P2 ?_
     iterate 6 refine .O ?_
     refine .P2 ?_
     iterate 2 refine .O ?_
     refine .P2 ?_
     refine .nil ?_
     refine .as 55 (.bool (decide (¬ charP x.toNat))) rfl (congrArg Value.bool (by apply bbx; simp only [nz, nb, reduceCtorEq]; (try simp only [nq]); omega)) ?_
     exact .J (trivial)
    (try simp only [nz] at hs4); try simp only [nq] at hs4
    refine .P3 ?_
    refine .splitB 38 rfl (fun hs5 => ?_) (fun hs5 => ?_)
    ·(try simp only [nz] at hs5); try simp only [nq] at hs5
     iterate 5 refine .P ?_
     refine .splitB 43 rfl (fun hs6 => ?_) (fun hs6 => ?_)
     ·(try simp only [nz] at hs6); try simp only [nq] at hs6
      iterate 6 refine .O ?_
      refine .P2 ?_
      iterate 2 refine .O ?_
      refine .P2 ?_
      refine .nil ?_
      refine .as 55 (.bool (decide (¬ charP x.toNat))) rfl (congrArg Value.bool (by apply bbx; simp only [nz, nb, reduceCtorEq]; (try simp only [nq]); omega)) ?_
      exact .J (trivial)
     (try simp only [nz] at hs6); try simp only [nq] at hs6
     refine .P3 ?_
     refine .splitB 46 rfl (fun hs7 => ?_) (fun hs7 => ?_)
     ·(try simp only [nz] at hs7); try simp only [nq] at hs7
      iterate 5 refine .P ?_
      refine .splitB 51 rfl (fun hs8 => ?_) (fun hs8 => ?_)
      ·(try simp only [nz] at hs8); try simp only [nq] at hs8
       iterate 2 refine .O ?_
       refine .P2 ?_
       refine .nil ?_
       refine .as 55 (.bool (decide (¬ charP x.toNat))) rfl (congrArg Value.bool (by apply bbx; simp only [nz, nb, reduceCtorEq]; (try simp only [nq]); omega)) ?_
       exact .J (trivial)
      (try simp only [nz] at hs8); try simp only [nq] at hs8
      iterate 4 refine .P ?_
      refine .nil ?_
      refine .as 55 (.bool (decide (¬ charP x.toNat))) rfl (congrArg Value.bool (by apply bbx; simp only [nz, nb, reduceCtorEq]; (try simp only [nq]); omega)) ?_
      exact .J (trivial)
     (try simp only [nz] at hs7); try simp only [nq] at hs7
     iterate 2 refine .O ?_
     iterate 7 refine .P ?_
     refine .nil ?_
     refine .as 55 (.bool (decide (¬ charP x.toNat))) rfl (congrArg Value.bool (by apply bbx; simp only [nz, nb, reduceCtorEq]; (try simp only [nq]); omega)) ?_
     exact .J (trivial)
    (try simp only [nz] at hs5); try simp only [nq] at hs5
    iterate 2 refine .O ?_
    iterate 6 refine .P ?_
    refine .splitB 46 rfl (fun hs9 => ?_) (fun hs9 => ?_)
    ·(try simp only [nz] at hs9); try simp only [nq] at hs9
     iterate 5 refine .P ?_
     refine .splitB 51 rfl (fun hs10 => ?_) (fun hs10 => ?_)
     ·(try simp only [nz] at hs10); try simp only [nq] at hs10
      iterate 2 refine .O ?_
      refine .P2 ?_
      refine .nil ?_
      refine .as 55 (.bool (decide (¬ charP x.toNat))) rfl (congrArg Value.bool (by apply bbx; simp only [nz, nb, reduceCtorEq]; (try simp only [nq]); omega)) ?_
      exact .J (trivial)
     (try simp only [nz] at hs10); try simp only [nq] at hs10
     iterate 4 refine .P ?_
     refine .nil ?_
     refine .as 55 (.bool (decide (¬ charP x.toNat))) rfl (congrArg Value.bool (by apply bbx; simp only [nz, nb, reduceCtorEq]; (try simp only [nq]); omega)) ?_
     exact .J (trivial)
    (try simp only [nz] at hs9); try simp only [nq] at hs9
    iterate 2 refine .O ?_
    iterate 7 refine .P ?_
    refine .nil ?_
    refine .as 55 (.bool (decide (¬ charP x.toNat))) rfl (congrArg Value.bool (by apply bbx; simp only [nz, nb, reduceCtorEq]; (try simp only [nq]); omega)) ?_
    exact .J (trivial)
   (try simp only [nz] at hs3); try simp only [nq] at hs3
   iterate 2 refine .O ?_
   iterate 5 refine .P ?_
   refine .splitB 38 rfl (fun hs11 => ?_) (fun hs11 => ?_)
   ·(try simp only [nz] at hs11); try simp only [nq] at hs11
    iterate 5 refine .P ?_
    refine .splitB 43 rfl (fun hs12 => ?_) (fun hs12 => ?_)
    ·(try simp only [nz] at hs12); try simp only [nq] at hs12
     iterate 6 refine .O ?_
     refine .P2 ?_
     iterate 2 refine .O ?_
     refine .P2 ?_
     refine .nil ?_
     refine .as 55 (.bool (decide (¬ charP x.toNat))) rfl (congrArg Value.bool (by apply bbx; simp only [nz, nb, reduceCtorEq]; (try simp only [nq]); omega)) ?_
     exact .J (trivial)
    (try simp only [nz] at hs12); try simp only [nq] at hs12
    refine .P3 ?_
    refine .splitB 46 rfl (fun hs13 => ?_) (fun hs13 => ?_)
    ·(try simp only [nz] at hs13); try simp only [nq] at hs13
     iterate 5 refine .P ?_
     refine .splitB 51 rfl (fun hs14 => ?_) (fun hs14 => ?_)
     ·(try simp only [nz] at hs14); try simp only [nq] at hs14
      iterate 2 refine .O ?_
      refine .P2 ?_
      refine .nil ?_
      refine .as 55 (.bool (decide (¬ charP x.toNat))) rfl (congrArg Value.bool (by apply bbx; simp only [nz, nb, reduceCtorEq]; (try simp only [nq]); omega)) ?_
      exact .J (trivial)
     (try simp only [nz] at hs14); try simp only [nq] at hs14
     iterate 4 refine .P ?_
     refine .nil ?_
     refine .as 55 (.bool (decide (¬ charP x.toNat))) rfl (congrArg Value.bool (by apply bbx; simp only [nz, nb, reduceCtorEq]; (try simp only [nq]); omega)) ?_
     exact .J (trivial)
    (try simp only [nz] at hs13); try simp only [nq] at hs13
    iterate 2 refine .O ?_
    iterate 7 refine .P ?_
    refine .nil ?_
    refine .as 55 (.bool (decide (¬ charP x.toNat))) rfl (congrArg Value.bool (by apply bbx; simp only [nz, nb, reduceCtorEq]; (try simp only [nq]); omega)) ?_
    exact .J (trivial)
   (try simp only [nz] at hs11); try simp only [nq] at hs11
   iterate 2 refine .O ?_
   iterate 6 refine .P ?_
   refine .splitB 46 rfl (fun hs15 => ?_) (fun hs15 => ?_)
   ·(try simp only [nz] at hs15); try simp only [nq] at hs15
    iterate 5 refine .P ?_
    refine .splitB 51 rfl (fun hs16 => ?_) (fun hs16 => ?_)
    ·(try simp only [nz] at hs16); try simp only [nq] at hs16
     iterate 2 refine .O ?_
     refine .P2 ?_
     refine .nil ?_
     refine .as 55 (.bool (decide (¬ charP x.toNat))) rfl (congrArg Value.bool (by apply bbx; simp only [nz, nb, reduceCtorEq]; (try simp only [nq]); omega)) ?_
     exact .J (trivial)
    (try simp only [nz] at hs16); try simp only [nq] at hs16
    iterate 4 refine .P ?_
    refine .nil ?_
    refine .as 55 (.bool (decide (¬ charP x.toNat))) rfl (congrArg Value.bool (by apply bbx; simp only [nz, nb, reduceCtorEq]; (try simp only [nq]); omega)) ?_
    exact .J (trivial)
   (try simp only [nz] at hs15); try simp only [nq] at hs15
   iterate 2 refine .O ?_
   iterate 7 refine .P ?_
   refine .nil ?_
   refine .as 55 (.bool (decide (¬ charP x.toNat))) rfl (congrArg Value.bool (by apply bbx; simp only [nz, nb, reduceCtorEq]; (try simp only [nq]); omega)) ?_
   exact .J (trivial)
  refine .cond rfl (fun hc2 => ?_) (fun hc2 => ?_)
  ·(try simp only [nz] at hc2); try simp only [nq] at hc2
   refine .seq (.region (.P ?_))
   refine .nil (.seq (.ret (.blk (.seq (.loop (.blk (.seq ?_)))))))
   exact .end_ rfl rfl (fun m hm => ⟨congrArg Value.bool (by unfold nameB; rw [all_not hx (decide_eq_false (by unfold charP letterP; omega)), Bool.and_false]), hm.ext⟩)
  (try simp only [nz] at hc2); try simp only [nq] at hc2
  refine .skip (.blk (.seq (.region (.P ?_))))
  refine .as 56 (.int .i64 (Int.ofNat (i + 1))) rfl (congrArg (Value.int .i64) (wr_succ (by have := hc0; omega))) ?_
  refine .P ?_
  refine .nil ?_
  exact .loop (i + 1) ⟨hlt, upto_succ hi.2 hx (by unfold charP letterP; omega)⟩ (by omega) ⟨rfl, rfl, rfl, trivial⟩ (.refl _)
 (try simp only [nz] at hc1); try simp only [nq] at hc1
 refine .exit (.seq (.loop (.here (.seq (.seq (.region (.P ?_)))))))
 refine .nil (.seq (.ret ?_))
 exact .end_ rfl rfl (fun m hm => ⟨congrArg Value.bool (by unfold nameB; rw [decide_eq_true (by omega), all_of fun j x hj hx => decide_eq_true (hi.2 j x (by rw [size_eq] at hj; omega) hx)]; rfl), hm.ext⟩)
theorem named_ok {t : Ty} {cs : List Value} {m : AW} (hm : m.lo ≤ m.next) (ht : RTy (Mem m) t cs) : Fc prog 96 [.agg ⟨cs⟩] m fun v m' => v = .bool (namedB t) ∧ Ext m m' := by
 obtain ⟨ve, vf, va, rfl, he, hf, ha⟩ := ht
 obtain ⟨ae, ce, rfl, hne, he⟩ := he
 obtain ⟨af, cf, rfl, hnf, hf⟩ := hf
 obtain ⟨aa, ca, rfl, hna, ha⟩ := ha
 refine Fc.body (c := _) func96 rfl rfl rfl rfl hm ?_
 refine .seq (.region ?_)
 refine .box rfl rfl rfl rfl rfl (fun b1 hb1 => ?_)
 refine .P ?_
 refine .nil (.seq ?_)
 refine .joinA (headB t = true) [] ?_ (fun hhd => ?_)
 ·refine .seq (.region (.F fa50_0 ?_))
  refine .L ag3 ?_
  refine .nil (.seq (.block (.seq (.seq (.region (.P2 ?_))))))
  refine .nil (.seq (.cond rfl (fun hc0 => ?_) fun hc0 => ?_))
  ·refine .B 14 hc0 ?_
   try simp only [nz] at hc0
   refine .skip (.seq (.cond_true rfl (.seq (.region (.F fa50_2 ?_)))))
   refine .L ag9 ?_
   refine .call _ rfl rfl rfl rfl rfl rfl (fun m hm => name_ok hm.lole) ?_
   refine .P ?_
   refine .nil (.seq (.cond rfl (fun hc1 => ?_) fun hc1 => ?_))
   ·try simp only [nz] at hc1
    refine .seq (.region (.P ?_))
    refine .nil (.seq (.ret (.blk (.jn ?_))))
    exact .end_ rfl rfl (fun m hm => ⟨congrArg Value.bool ((named_head (by unfold headB; grind)).symm), hm.ext⟩)
   try simp only [nz] at hc1
   refine .skip (.blk ?_)
   exact .J (by unfold headB; grind)
  refine .B 14 hc0 ?_
  try simp only [nz] at hc0
  refine .region (.P2 ?_)
  refine .nil (.seq (.cond rfl (fun hc2 => ?_) fun hc2 => ?_))
  ·refine .B 14 hc2 ?_
   try simp only [nz] at hc2
   refine .seq (.region (.F fa50_2 ?_))
   refine .L ag9 ?_
   refine .call _ rfl rfl rfl rfl rfl rfl (fun m hm => name_ok hm.lole) ?_
   refine .P ?_
   refine .nil (.seq (.cond rfl (fun hc3 => ?_) fun hc3 => ?_))
   ·try simp only [nz] at hc3
    refine .seq (.region (.P ?_))
    refine .nil (.seq (.ret (.blk (.jn ?_))))
    exact .end_ rfl rfl (fun m hm => ⟨congrArg Value.bool ((named_head (by unfold headB; grind)).symm), hm.ext⟩)
   try simp only [nz] at hc3
   refine .skip (.blk ?_)
   exact .J (by unfold headB; grind)
  refine .B 14 hc2 ?_
  try simp only [nz] at hc2
  refine .seq (.region (.P2 ?_))
  refine .nil (.seq (.cond rfl (fun hc4 => ?_) fun hc4 => ?_))
  ·try simp only [nz] at hc4
   refine .seq (.region (.F fa50_2 ?_))
   refine .L ag9 ?_
   refine .P2 ?_
   refine .splitB 26 rfl (fun hs0 => ?_) (fun hs0 => ?_)
   ·try simp only [nz] at hs0
    refine .F fa50_2 ?_
    refine .L ag9 ?_
    refine .call _ rfl rfl rfl rfl rfl rfl (fun m hm => name_ok hm.lole) ?_
    refine .P2 ?_
    refine .nil (.seq (.cond rfl (fun hc5 => ?_) fun hc5 => ?_))
    ·try simp only [nz] at hc5
     refine .seq (.region (.P ?_))
     refine .nil (.seq (.ret (.blk (.jn ?_))))
     exact .end_ rfl rfl (fun m hm => ⟨congrArg Value.bool ((named_head (by unfold headB; grind)).symm), hm.ext⟩)
    try simp only [nz] at hc5
    refine .skip (.blk ?_)
    exact .J (by unfold headB; grind)
   try simp only [nz] at hs0
   iterate 4 refine .O ?_
   refine .P ?_
   refine .nil (.seq (.cond_false rfl (.skip (.blk ?_))))
   exact .J (by unfold headB; grind)
  try simp only [nz] at hc4
  refine .seq (.region (.F fa50_2 ?_))
  refine .L ag9 ?_
  refine .P ?_
  refine .nil (.seq (.cond rfl (fun hc6 => ?_) fun hc6 => ?_))
  ·try simp only [nz] at hc6
   refine .seq (.region (.P ?_))
   refine .nil (.seq (.ret (.blk (.jn ?_))))
   exact .end_ rfl rfl (fun m hm => ⟨congrArg Value.bool ((named_head (by unfold headB; grind)).symm), hm.ext⟩)
  try simp only [nz] at hc6
  refine .skip (.blk ?_)
  exact .J (by unfold headB; grind)
 refine .seq (.seq (.region (.F fa50_3 ?_)))
 refine .L ag47 ?_
 refine .G (ln47 ..) ?_
 refine .P ?_
 refine .nil (.seq (.block ?_))
 refine .loop (α := Nat) (fun i => [(1, .pointer (some ⟨b1, 0, none⟩)), (33, .slice af t.fields.length cf), (34, .int .i64 (Int.ofNat (t.fields.length))), (35, .int .i64 (Int.ofNat (i)))]) (fun i => [(b1, .cells (cellsOfV (.agg ⟨[.int .i64 t.kind, .slice ae t.elems.length ce, .string t.name, .slice af t.fields.length cf, .slice aa t.arms.length ca]⟩)) 50 false .plain none)]) (fun i => i ≤ t.fields.length ∧ ∀ (j : Nat) (x : Fld), j < i → t.fields[j]? = some x → nameB x.name = true) (fun i => t.fields.length - i) 0 ⟨Nat.zero_le _, fun _ _ h => (by cases h)⟩ ⟨rfl, rfl, rfl, rfl, trivial⟩ (.refl _) (fun i hi => ?_)
 refine .seq (.region (.P ?_))
 refine .nil (.seq (.seq (.cond rfl (fun ht36 => ?_) fun ht36 => ?_)))
 ·try simp only [nz] at ht36
  have hlt : i < t.fields.length := by omega
  obtain ⟨x, hx⟩ := gx hlt
  obtain ⟨b, off, cs, el, g, md, mate, rfl, ⟨hb, hh⟩, hle, hc⟩ := so hf hlt
  have hr := hc i x hx
  refine .skip (.seq (.seq (.block (.seq (.region (.K underlying47 sz132 ?_))))))
  refine .A ag132 sz132 (.base hh hb (by simp)) hr ?_
  refine .alloc rfl rfl rfl rfl zr132 (fun b4 hb4 => ?_)
  refine .S sz132 ?_
  refine .nil (.seq (.seq (.region (.F fa132_0 ?_))))
  refine .L ag9 ?_
  refine .call _ rfl rfl rfl rfl rfl rfl (fun m hm => name_ok hm.lole) ?_
  refine .P ?_
  refine .nil (.seq (.cond rfl (fun hc8 => ?_) fun hc8 => ?_))
  ·try simp only [nz] at hc8
   refine .seq (.region (.P ?_))
   refine .nil (.seq (.ret (.blk (.seq (.loop (.blk (.seq ?_)))))))
   exact .end_ rfl rfl (fun m hm => ⟨congrArg Value.bool ((named_field hx (by assumption)).symm), hm.ext⟩)
  try simp only [nz] at hc8
  refine .skip (.blk (.seq (.region (.P ?_))))
  refine .W 43 i ?_
  refine .P ?_
  refine .nil ?_
  exact .loop (i + 1) ⟨hlt, upto_succ hi.2 hx (by assumption)⟩ (by omega) ⟨rfl, rfl, rfl, rfl, trivial⟩ (.cons _ (.refl _))
 try simp only [nz] at ht36
 refine .exit (.seq (.loop (.here (.seq (.seq (.seq (.region (.F fa50_4 ?_))))))))
 refine .L ag48 ?_
 refine .G (ln48 ..) ?_
 refine .P ?_
 refine .nil (.seq (.block ?_))
 refine .loop (α := Nat) (fun i => [(1, .pointer (some ⟨b1, 0, none⟩)), (45, .slice aa t.arms.length ca), (46, .int .i64 (Int.ofNat (t.arms.length))), (47, .int .i64 (Int.ofNat (i)))]) (fun i => [(b1, .cells (cellsOfV (.agg ⟨[.int .i64 t.kind, .slice ae t.elems.length ce, .string t.name, .slice af t.fields.length cf, .slice aa t.arms.length ca]⟩)) 50 false .plain none)]) (fun i => i ≤ t.arms.length ∧ ∀ (j : Nat) (x : Arm), j < i → t.arms[j]? = some x → armB x = true) (fun i => t.arms.length - i) 0 ⟨Nat.zero_le _, fun _ _ h => (by cases h)⟩ ⟨rfl, rfl, rfl, rfl, trivial⟩ (.refl _) (fun i hq => ?_)
 refine .seq (.region (.P ?_))
 refine .nil (.seq (.seq (.cond rfl (fun ht48 => ?_) fun ht48 => ?_)))
 ·try simp only [nz] at ht48
  have hlt : i < t.arms.length := by omega
  obtain ⟨x, hx⟩ := gx hlt
  obtain ⟨b, off, cs, el, g, md, mate, rfl, ⟨hb, hh⟩, hle, hc⟩ := so ha hlt
  have hr := hc i x hx
  obtain ⟨vx, hra, hfa⟩ := hr
  obtain ⟨ax, cx, rfl, hnx, hfa⟩ := hfa
  refine .skip (.seq (.seq (.block (.seq (.region (.K underlying48 sz55 ?_))))))
  refine .A ag55 sz55 (.base hh hb (by simp)) hra ?_
  refine .alloc rfl rfl rfl rfl zr55 (fun b6 hb6 => ?_)
  refine .S sz55 ?_
  refine .nil (.seq (.seq (.seq (.region (.F fa55_0 ?_)))))
  refine .L ag9 ?_
  refine .call _ rfl rfl rfl rfl rfl rfl (fun m hm => name_ok hm.lole) ?_
  refine .P ?_
  refine .nil (.seq (.cond rfl (fun hc10 => ?_) fun hc10 => ?_))
  ·try simp only [nz] at hc10
   refine .seq (.region (.P ?_))
   refine .nil (.seq (.ret (.seq (.blk (.seq (.loop (.blk (.seq ?_))))))))
   exact .end_ rfl rfl (fun m hm => ⟨congrArg Value.bool ((named_arm hx (by assumption)).symm), hm.ext⟩)
  try simp only [nz] at hc10
  refine .skip (.seq (.seq (.region (.F fa55_1 ?_))))
  refine .L ag47 ?_
  refine .G (ln47 ..) ?_
  refine .P ?_
  refine .nil (.seq (.block ?_))
  refine .loop (α := Nat) (fun k => [(1, .pointer (some ⟨b1, 0, none⟩)), (45, .slice (some ⟨b, off, none⟩) t.arms.length ca), (46, .int .i64 (Int.ofNat (t.arms.length))), (47, .int .i64 (Int.ofNat (i))), (56, .slice ax x.fields.length cx), (57, .int .i64 (Int.ofNat (x.fields.length))), (58, .int .i64 (Int.ofNat (k)))]) (fun k => [(b1, .cells (cellsOfV (.agg ⟨[.int .i64 t.kind, .slice ae t.elems.length ce, .string t.name, .slice af t.fields.length cf, .slice (some ⟨b, off, none⟩) t.arms.length ca]⟩)) 50 false .plain none)]) (fun k => k ≤ x.fields.length ∧ ∀ (j : Nat) (y : Fld), j < k → x.fields[j]? = some y → nameB y.name = true) (fun k => x.fields.length - k) 0 ⟨Nat.zero_le _, fun _ _ h => (by cases h)⟩ ⟨rfl, rfl, rfl, rfl, rfl, rfl, rfl, trivial⟩ (.cons _ (.refl _)) (fun k hj => ?_)
  refine .seq (.region (.P ?_))
  refine .nil (.seq (.seq (.cond rfl (fun ht59 => ?_) fun ht59 => ?_)))
  ·try simp only [nz] at ht59
   have hlt2 : k < x.fields.length := by omega
   obtain ⟨y, hy⟩ := gx hlt2
   obtain ⟨b2, off2, cs2, el2, g2, md2, mate2, rfl, ⟨hb2, hh2⟩, hle2, hc2⟩ := so hfa hlt2
   have hry := hc2 k y hy
   refine .skip (.seq (.seq (.block (.seq (.region (.K underlying47 sz132 ?_))))))
   refine .A ag132 sz132 (.base hh2 hb2 (by simp)) hry ?_
   refine .alloc rfl rfl rfl rfl zr132 (fun b8 hb8 => ?_)
   refine .S sz132 ?_
   refine .nil (.seq (.seq (.region (.F fa132_0 ?_))))
   refine .L ag9 ?_
   refine .call _ rfl rfl rfl rfl rfl rfl (fun m hm => name_ok hm.lole) ?_
   refine .P ?_
   refine .nil (.seq (.cond rfl (fun hc12 => ?_) fun hc12 => ?_))
   ·try simp only [nz] at hc12
    refine .seq (.region (.P ?_))
    refine .nil (.seq (.ret (.blk (.seq (.loop (.blk (.blk (.seq (.loop (.blk (.seq ?_)))))))))))
    exact .end_ rfl rfl (fun m hm => ⟨congrArg Value.bool ((named_afield hx hy (by assumption)).symm), hm.ext⟩)
   try simp only [nz] at hc12
   refine .skip (.blk (.seq (.region (.P ?_))))
   refine .W 66 k ?_
   refine .P ?_
   refine .nil ?_
   exact .loop (k + 1) ⟨hlt2, upto_succ hj.2 hy (by assumption)⟩ (by omega) ⟨rfl, rfl, rfl, rfl, rfl, rfl, rfl, trivial⟩ (.cons _ (.refl _))
  try simp only [nz] at ht59
  refine .exit (.seq (.loop (.here (.blk (.seq (.region (.P ?_)))))))
  refine .W 67 i ?_
  refine .P ?_
  refine .nil ?_
  exact .loop (i + 1) ⟨hlt, upto_succ hq.2 hx (armB_of (by assumption) fun j y hjy hy => hj.2 j y (by omega) hy)⟩ (by omega) ⟨rfl, rfl, rfl, rfl, trivial⟩ (.refl _)
 try simp only [nz] at ht48
 refine .exit (.seq (.loop (.here (.seq (.seq (.region (.P ?_)))))))
 refine .nil (.seq (.ret ?_))
 exact .end_ rfl rfl (fun m hm => ⟨congrArg Value.bool ((namedB_of hhd (fun j x hj hx => hi.2 j x (by omega) hx) fun j x hj hx => hq.2 j x (by omega) hx).symm), hm.ext⟩)
theorem arm_ok {t : Ty} {s : ByteArray} {K0 : Kn} {cs : List Value} {m : AW} (hm : m.lo ≤ m.next) (hK0 : ∀ b o, K0 b o → Mem m b o) (ht : RTy K0 t cs) (hw : FewT t) : Fc prog 72 [.agg ⟨cs⟩, .string s] m fun v m' => ∃ x, ArmA K0 t s cs x ∧ v = WithV t s x ∧ Ext m m' ∧ News m m' x.1 := by
 obtain ⟨ve, vf, va, rfl, he0, hf0, ha0⟩ := ht
 have ht := RTy.mono hK0 t _ ⟨ve, vf, va, rfl, he0, hf0, ha0⟩
 obtain ⟨ae, ce, rfl, hne, he⟩ := he0.mono hK0 fun _ _ h => h
 have hfS0 := hf0
 have hfS := hf0.mono hK0 fun _ _ h => h
 obtain ⟨af, cf, rfl, hnf, hf⟩ := hf0
 obtain ⟨aa, ca, rfl, hna, ha⟩ := ha0.mono hK0 (RArm.mono hK0)
 have k1 := hw.elems
 have k2 := hw.fields
 have k3 := hw.arms
 refine Fc.body (c := _) func72 rfl rfl rfl rfl hm ?_
 refine .seq (.region ?_)
 refine .box rfl rfl rfl rfl rfl (fun b2 hb2 => ?_)
 refine .P2 ?_
 refine .nil (.seq (.seq (.seq (.region (.P2 ?_)))))
 refine .nil (.seq (.cond rfl (fun hc0 => ?_) fun hc0 => ?_))
 ·try simp only [nz] at hc0
  refine .seq (.region (.F fa50_3 ?_))
  refine .L ag47 ?_
  refine .P2 ?_
  refine .nil (.seq (.ret (.seq ?_)))
  exact .end_ rfl rfl (fun m hm => ⟨([], .slice af t.fields.length cf), ArmA.of (with_empty (by assumption)) (hfS0.mono (fun _ _ h => .inr h) fun _ _ h => h) (fun vf h ht => by cases h; exact ht.mono fun _ _ h => .inr h), WithV.some (x := ([], .slice af t.fields.length cf)) (with_empty (by assumption)), hm.ext, News.nil _ _⟩)
 try simp only [nz] at hc0
 refine .skip (.seq (.seq (.seq (.region (.F fa50_4 ?_)))))
 refine .L ag48 ?_
 refine .G (ln48 ..) ?_
 refine .P ?_
 refine .nil (.seq (.block ?_))
 refine .loop (α := Nat) (fun i => [(1, .string s), (2, .pointer (some ⟨b2, 0, none⟩)), (13, .slice aa t.arms.length ca), (14, .int .i64 (Int.ofNat (t.arms.length))), (15, .int .i64 (Int.ofNat (i)))]) (fun i => [(b2, .cells (cellsOfV (.agg ⟨[.int .i64 t.kind, .slice ae t.elems.length ce, .string t.name, .slice af t.fields.length cf, .slice aa t.arms.length ca]⟩)) 50 false .plain none)]) (fun i => i ≤ t.arms.length ∧ ∀ (j : Nat) (y : Arm), j < i → t.arms[j]? = some y → y.name ≠ s) (fun i => t.arms.length - i) 0 ⟨Nat.zero_le _, fun _ _ h => (by cases h)⟩ ⟨rfl, rfl, rfl, rfl, rfl, trivial⟩ (.refl _) (fun i hi => ?_)
 refine .seq (.region (.P ?_))
 refine .nil (.seq (.seq (.cond rfl (fun ht16 => ?_) fun ht16 => ?_)))
 ·try simp only [nz] at ht16
  have hlt : i < t.arms.length := by omega
  obtain ⟨x, hx⟩ := gx hlt
  obtain ⟨b, off, cs, el, g, md, mate, rfl, ⟨hb, hh⟩, hle, hc⟩ := so ha hlt
  have hr := hc i x hx
  obtain ⟨vx, hra, hfa⟩ := hr
  have hxS := hfa
  obtain ⟨ax, cx, rfl, hnx, hfa⟩ := hfa
  have k4 := hw.afields i x hx
  refine .skip (.seq (.seq (.block (.seq (.region (.K underlying48 sz55 ?_))))))
  refine .A ag55 sz55 (.base hh hb (by simp)) hra ?_
  refine .alloc rfl rfl rfl rfl zr55 (fun b7 hb7 => ?_)
  refine .S sz55 ?_
  refine .nil (.seq (.seq (.region (.F fa55_0 ?_))))
  refine .L ag9 ?_
  refine .P2 ?_
  refine .nil (.seq (.cond rfl (fun hc2 => ?_) fun hc2 => ?_))
  ·try simp only [nz] at hc2
   refine .seq ?_
   refine .D [(11, 0), (15, 0), (3, 2), (7, 7), (12, 0), (0, 16), (7, 63), (15, 127), (15, 255)] (by kernel_rfl) (by kernel_rfl) (fun base hbase hB => ?_)
   refine .buildSlice rfl rfl rfl rfl rfl rfl (bs47_0) (fun b23 hn23 hb23 => ?_)
   refine .F fa50_3 ?_
   refine .R ag47 hB ?_
   refine .appendNewSl (.inr ⟨_, rfl⟩) (R := RFld) (l0 := []) (l := t.fields) (L := t.fields) (g := .emp b23) (cs := []) rfl .one Flat.nil rfl (hfS) ((Mem.sees rfl rfl)) RFld.flats (by simp; omega) rfl rfl (by kernel_rfl) rfl rfl rfl rfl underlying47 underlying47 ap132 rfl rfl (fun g1 cs1 hF1 hO1 => ?_)
   refine .F fa55_1 ?_
   refine .R ag47 hB ?_
   refine .appendSl (R := RFld) (l0 := t.fields) (l := x.fields) (L := (t.fields ++ x.fields)) (g := g1) (cs := cs1) rfl .here hF1 hO1 (hxS) ((Mem.sees rfl rfl)) RFld.flats (by omega) rfl rfl (by kernel_rfl) (by kernel_rfl) rfl rfl rfl rfl underlying47 underlying47 ap132 rfl rfl (fun g2 cs2 hF2 hO2 => ?_)
   iterate 2 refine .P ?_
   refine .nil (.seq (.ret (.blk (.seq (.loop (.blk (.seq ?_)))))))
   exact .end_ rfl rfl (fun m hm => ⟨(g2.H 132 cs2, g2.V (t.fields ++ x.fields).length), ArmA.of (with_arm (by assumption) hx hi.2 (by assumption)) ((Gro.sl hF2 hO2 (by rw [List.length_append]; omega)).mono (fun _ _ h => .inl h) fun _ _ h => h) (fun _ _ _ => (Tight.gro hO2).mono fun _ _ h => .inl h), WithV.some (x := (g2.H 132 cs2, g2.V (t.fields ++ x.fields).length)) (with_arm (by assumption) hx hi.2 (by assumption)), hm.ext, hm.news (List.sublist_append_left _ _)⟩)
  try simp only [nz] at hc2
  refine .skip (.blk (.seq (.region (.P ?_))))
  refine .W 30 i ?_
  refine .P ?_
  refine .nil ?_
  exact .loop (i + 1) ⟨hlt, upto_succ hi.2 hx (by assumption)⟩ (by omega) ⟨rfl, rfl, rfl, rfl, rfl, trivial⟩ (.cons _ (.refl _))
 try simp only [nz] at ht16
 refine .exit (.seq (.loop (.here (.seq (.seq (.region (.P2 ?_)))))))
 refine .nil (.seq (.ret ?_))
 exact .end_ rfl rfl (fun m hm => ⟨([], .slice none 0 0), arm_none_A (with_none (by assumption) fun j y hj hy => hi.2 j y (by omega) hy), WithV.none (x := ([], .slice none 0 0)) (with_none (by assumption) fun j y hj hy => hi.2 j y (by omega) hy), hm.ext, News.nil _ _⟩)
theorem value_ok {l : List Ty} {v : Value} {j : Nat} {t : Ty} {m : AW} (hm : m.lo ≤ m.next) (hl : Sl (Mem m) 5 (RTy (Mem m)) l v) (ht : l[j]? = some t) : Fc prog 62 [v, .int .i64 (Int.ofNat (j))] m fun v m' => v = .bool (valueB t) ∧ Ext m m' := by
 obtain ⟨a, cap, rfl, hn, hl⟩ := hl
 have hlt : j < l.length := (List.getElem?_eq_some_iff.1 ht).1
 obtain ⟨b, off, cs, el, g, md, mate, rfl, ⟨hb, hh⟩, hle, hc⟩ := so hl hlt
 have hr := hc j t ht
 obtain ⟨ve, vf, va, hr, he, hf, ha⟩ := hr
 obtain ⟨aa, ca, rfl, hna, ha⟩ := ha
 refine Fc.body (c := _) func62 rfl rfl rfl rfl hm ?_
 refine .seq (.region (.P ?_))
 refine .nil (.seq (.seq (.seq (.region (.P2 ?_)))))
 refine .K underlying22 sz50 ?_
 refine .F fa50_0 ?_
 refine .M ag3 (.base hh hb (by simp)) (cell_of_take hr (k := 0) rfl) ?_
 refine .nil (.seq (.block (.seq (.seq (.region (.P2 ?_))))))
 refine .nil (.seq (.cond rfl (fun hc0 => ?_) fun hc0 => ?_))
 ·refine .B 10 hc0 ?_
  try simp only [nz] at hc0
  refine .skip (.seq (.cond_true rfl (.seq (.region (.P ?_)))))
  refine .nil (.seq (.ret (.blk (.seq ?_))))
  exact .end_ rfl rfl (fun m hm => ⟨congrArg Value.bool (by unfold valueB; rw [Bool.eq_iff_iff]; simp only [nz, nb, reduceCtorEq]; (try simp only [nq]); omega), hm.ext⟩)
 refine .B 10 hc0 ?_
 try simp only [nz] at hc0
 refine .seq (.region (.P2 ?_))
 refine .nil (.seq (.cond rfl (fun hc1 => ?_) fun hc1 => ?_))
 ·refine .B 10 hc1 ?_
  try simp only [nz] at hc1
  refine .skip (.seq (.cond_true rfl (.seq (.region (.P ?_)))))
  refine .nil (.seq (.ret (.blk (.seq ?_))))
  exact .end_ rfl rfl (fun m hm => ⟨congrArg Value.bool (by unfold valueB; rw [Bool.eq_iff_iff]; simp only [nz, nb, reduceCtorEq]; (try simp only [nq]); omega), hm.ext⟩)
 refine .B 10 hc1 ?_
 try simp only [nz] at hc1
 refine .region (.P2 ?_)
 refine .nil (.seq (.cond rfl (fun hc2 => ?_) fun hc2 => ?_))
 ·refine .B 10 hc2 ?_
  try simp only [nz] at hc2
  refine .seq (.region (.P ?_))
  refine .nil (.seq (.ret (.blk (.seq ?_))))
  exact .end_ rfl rfl (fun m hm => ⟨congrArg Value.bool (by unfold valueB; rw [Bool.eq_iff_iff]; simp only [nz, nb, reduceCtorEq]; (try simp only [nq]); omega), hm.ext⟩)
 refine .B 10 hc2 ?_
 try simp only [nz] at hc2
 refine .seq (.region (.P2 ?_))
 refine .nil (.seq (.cond rfl (fun hc3 => ?_) fun hc3 => ?_))
 ·try simp only [nz] at hc3
  refine .seq (.region (.P2 ?_))
  refine .K underlying22 sz50 ?_
  refine .F fa50_4 ?_
  refine .M ag48 (.base hh hb (by simp)) (cell_of_take hr (k := 4) rfl) ?_
  refine .G (ln48 ..) ?_
  refine .P2 ?_
  refine .nil (.seq (.ret (.blk (.seq ?_))))
  exact .end_ rfl rfl (fun m hm => ⟨congrArg Value.bool (by unfold valueB; rw [Bool.eq_iff_iff]; simp only [nz, nb, reduceCtorEq]; (try simp only [nq]); omega), hm.ext⟩)
 try simp only [nz] at hc3
 refine .skip (.blk (.seq (.seq (.region (.P ?_)))))
 refine .nil (.seq (.ret ?_))
 exact .end_ rfl rfl (fun m hm => ⟨congrArg Value.bool (by unfold valueB; rw [Bool.eq_iff_iff]; simp only [nz, nb, reduceCtorEq]; (try simp only [nq]); omega), hm.ext⟩)
theorem twice_ok {t : Ty} {cs : List Value} {m : AW} (hm : m.lo ≤ m.next) (ht : RTy (Mem m) t cs) : Fc prog 97 [.agg ⟨cs⟩] m fun v m' => v = .bool (twiceB t) ∧ Ext m m' := by
 obtain ⟨ve, vf, va, rfl, he, hf, ha⟩ := ht
 have heS := he
 have hfS := hf
 have haS := ha
 obtain ⟨ae, ce, rfl, hne, he⟩ := he
 obtain ⟨af, cf, rfl, hnf, hf⟩ := hf
 obtain ⟨aa, ca, rfl, hna, ha⟩ := ha
 refine Fc.body (c := _) func97 rfl rfl rfl rfl hm ?_
 refine .seq (.region ?_)
 refine .box rfl rfl rfl rfl rfl (fun b1 hb1 => ?_)
 refine .P ?_
 refine .nil (.seq (.seq (.region ?_)))
 refine .makeMap rfl rfl rfl rfl (fun b12 hb12 => ?_)
 refine .P ?_
 refine .nil (.seq (.seq (.seq (.region (.F fa50_3 ?_)))))
 refine .L ag47 ?_
 refine .G (ln47 ..) ?_
 refine .P ?_
 refine .nil (.seq (.block ?_))
 refine .loop (α := Nat × List MapEntry × Nat × List (ByteArray × Value)) (fun q => [(1, .pointer (some ⟨b1, 0, none⟩)), (3, .map (some b12)), (14, .slice af t.fields.length cf), (15, .int .i64 (Int.ofNat (t.fields.length))), (16, .int .i64 (Int.ofNat (q.1)))]) (fun q => [(b12, .map q.2.1 q.2.2.1), (b1, .cells (cellsOfV (.agg ⟨[.int .i64 t.kind, .slice ae t.elems.length ce, .string t.name, .slice af t.fields.length cf, .slice aa t.arms.length ca]⟩)) 50 false .plain none)]) (fun q => q.1 ≤ t.fields.length ∧ PairsK Value.string q.2.1 q.2.2.2 ∧ SetIs q.2.2.2 ((fnames t.fields).take q.1) ∧ ((fnames t.fields).take q.1).Nodup) (fun q => t.fields.length - q.1) (0, [], 0, []) ⟨Nat.zero_le _, trivial, SetIs.nil, List.nodup_nil⟩ ⟨rfl, rfl, rfl, rfl, rfl, trivial⟩ (.refl _) (fun q hq0 => ?_)
 obtain ⟨i, es, c, lC⟩ := q
 obtain ⟨hi, hP, hS, hN⟩ := hq0
 simp only at hi hP hS hN
 refine .seq (.region (.P ?_))
 refine .nil (.seq (.seq (.cond rfl (fun ht17 => ?_) fun ht17 => ?_)))
 ·try simp only [nz] at ht17
  have hlt : i < t.fields.length := by omega
  obtain ⟨x, hx⟩ := gx hlt
  obtain ⟨b, off, cs, el, g, md, mate, rfl, ⟨hb, hh⟩, hle, hc⟩ := so hf hlt
  have hr := hc i x hx
  refine .skip (.seq (.seq (.block (.seq (.region (.K underlying47 sz132 ?_))))))
  refine .A ag132 sz132 (.base hh hb (by simp)) hr ?_
  refine .alloc rfl rfl rfl rfl zr132 (fun b5 hb5 => ?_)
  refine .S sz132 ?_
  refine .nil (.seq (.seq (.seq (.region (.P ?_)))))
  refine .F fa132_0 ?_
  refine .L ag9 ?_
  refine .lookup (K := Value.string) (.tail .one) hP (KeyOk.string underlying9) rfl rfl rfl rfl underlying195 zr4 rfl rfl (hS.look _) ?_
  refine .nil (.seq (.cond rfl (fun hc1 => ?_) fun hc1 => ?_))
  ·try simp only [nz] at hc1
   refine .seq (.region (.P ?_))
   refine .nil (.seq (.ret (.seq (.blk (.seq (.loop (.blk (.seq ?_))))))))
   exact .end_ rfl rfl (fun m hm => ⟨congrArg Value.bool ((twice_fields (dup_mem (fnames_get hx) (by assumption))).symm), hm.ext⟩)
  try simp only [nz] at hc1
  refine .skip (.seq (.region (.P ?_)))
  refine .F fa132_0 ?_
  refine .L ag9 ?_
  refine .mapUpdate (K := Value.string) (.tail .one) hP (KeyOk.string underlying9) rfl rfl rfl underlying195 rfl rfl rfl (fun es1 c1 hP1 => ?_)
  refine .nil (.blk (.seq (.region (.P ?_))))
  refine .W 27 i ?_
  refine .P ?_
  refine .nil ?_
  exact .loop (i + 1, es1, c1, putP x.name (.bool true) lC) ⟨hlt, hP1, hS.put_take (fnames_get hx), nodup_take hN (fnames_get hx) (by assumption)⟩ (by show t.fields.length - (i + 1) < t.fields.length - i; omega) ⟨rfl, rfl, rfl, rfl, rfl, trivial⟩ (.cons_cons _ (.cons _ (.refl _)))
 try simp only [nz] at ht17
 refine .exit (.seq (.loop (.here (.seq (.seq (.region ?_))))))
 refine .makeMap rfl rfl rfl rfl (fun b28 hb28 => ?_)
 refine .P ?_
 refine .nil (.seq (.seq (.seq (.region (.F fa50_4 ?_)))))
 refine .L ag48 ?_
 refine .G (ln48 ..) ?_
 refine .P ?_
 refine .nil (.seq (.block ?_))
 refine .loop (α := Nat × List MapEntry × Nat × List (ByteArray × Value)) (fun q => [(1, .pointer (some ⟨b1, 0, none⟩)), (3, .map (some b12)), (6, .map (some b28)), (30, .slice aa t.arms.length ca), (31, .int .i64 (Int.ofNat (t.arms.length))), (32, .int .i64 (Int.ofNat (q.1)))]) (fun q => [(b28, .map q.2.1 q.2.2.1), (b12, .map es c), (b1, .cells (cellsOfV (.agg ⟨[.int .i64 t.kind, .slice ae t.elems.length ce, .string t.name, .slice af t.fields.length cf, .slice aa t.arms.length ca]⟩)) 50 false .plain none)]) (fun q => q.1 ≤ t.arms.length ∧ PairsK Value.string q.2.1 q.2.2.2 ∧ SetIs q.2.2.2 ((anames t.arms).take q.1) ∧ ((anames t.arms).take q.1).Nodup ∧ ∀ (j : Nat) (x : Arm), j < q.1 → t.arms[j]? = some x → dupB (fnames (t.fields ++ x.fields)) = false) (fun q => t.arms.length - q.1) (0, [], 0, []) ⟨Nat.zero_le _, trivial, SetIs.nil, List.nodup_nil, fun _ _ h => (by cases h)⟩ ⟨rfl, rfl, rfl, rfl, rfl, rfl, trivial⟩ (.refl _) (fun q hq0 => ?_)
 obtain ⟨i2, es2, c2, lA⟩ := q
 obtain ⟨hi2, hP2, hS2, hN2, hD2⟩ := hq0
 simp only at hi2 hP2 hS2 hN2 hD2
 refine .seq (.region (.P ?_))
 refine .nil (.seq (.seq (.cond rfl (fun ht33 => ?_) fun ht33 => ?_)))
 ·try simp only [nz] at ht33
  have hlt : i2 < t.arms.length := by omega
  obtain ⟨x, hx⟩ := gx hlt
  obtain ⟨b, off, cs, el, g, md, mate, rfl, ⟨hb, hh⟩, hle, hc⟩ := so ha hlt
  have hr := hc i2 x hx
  obtain ⟨vx, hra, hfa⟩ := hr
  obtain ⟨ax, cx, rfl, hnx, hfa⟩ := hfa
  have hSF : SetIs lC (fnames t.fields) := by rw [List.take_of_length_le (by rw [fnames_len]; omega)] at hS; exact hS
  have hN5 : (fnames t.fields).Nodup := by rw [List.take_of_length_le (by rw [fnames_len]; omega)] at hN; exact hN
  refine .skip (.seq (.seq (.block (.seq (.region (.K underlying48 sz55 ?_))))))
  refine .A ag55 sz55 (.base hh hb (by simp)) hra ?_
  refine .alloc rfl rfl rfl rfl zr55 (fun b8 hb8 => ?_)
  refine .S sz55 ?_
  refine .nil (.seq (.seq (.seq (.region (.P ?_)))))
  refine .F fa55_0 ?_
  refine .L ag9 ?_
  refine .lookup (K := Value.string) (.tail .one) hP2 (KeyOk.string underlying9) rfl rfl rfl rfl underlying195 zr4 rfl rfl (hS2.look _) ?_
  refine .nil (.seq (.cond rfl (fun hc3 => ?_) fun hc3 => ?_))
  ·try simp only [nz] at hc3
   refine .seq (.region (.P ?_))
   refine .nil (.seq (.ret (.seq (.blk (.seq (.loop (.blk (.seq ?_))))))))
   exact .end_ rfl rfl (fun m hm => ⟨congrArg Value.bool ((twice_arms (dup_mem (anames_get hx) (by assumption))).symm), hm.ext⟩)
  try simp only [nz] at hc3
  refine .skip (.seq (.seq (.region (.P ?_))))
  refine .F fa55_0 ?_
  refine .L ag9 ?_
  refine .mapUpdate (K := Value.string) (.tail .one) hP2 (KeyOk.string underlying9) rfl rfl rfl underlying195 rfl rfl rfl (fun es3 c3 hP3 => ?_)
  refine .nil (.seq (.seq (.region ?_)))
  refine .makeMap rfl rfl rfl rfl (fun b43 hb43 => ?_)
  refine .P ?_
  refine .nil (.seq (.seq (.region (.F fa55_1 ?_))))
  refine .L ag47 ?_
  refine .G (ln47 ..) ?_
  refine .P ?_
  refine .nil (.seq (.block ?_))
  refine .loop (α := Nat × List MapEntry × Nat × List (ByteArray × Value)) (fun q => [(1, .pointer (some ⟨b1, 0, none⟩)), (3, .map (some b12)), (6, .map (some b28)), (9, .map (some b43)), (30, .slice (some ⟨b, off, none⟩) t.arms.length ca), (31, .int .i64 (Int.ofNat (t.arms.length))), (32, .int .i64 (Int.ofNat (i2))), (45, .slice ax x.fields.length cx), (46, .int .i64 (Int.ofNat (x.fields.length))), (47, .int .i64 (Int.ofNat (q.1)))]) (fun q => [(b43, .map q.2.1 q.2.2.1), (b28, .map es3 c3), (b12, .map es c), (b1, .cells (cellsOfV (.agg ⟨[.int .i64 t.kind, .slice ae t.elems.length ce, .string t.name, .slice af t.fields.length cf, .slice (some ⟨b, off, none⟩) t.arms.length ca]⟩)) 50 false .plain none)]) (fun q => q.1 ≤ x.fields.length ∧ PairsK Value.string q.2.1 q.2.2.2 ∧ SetIs q.2.2.2 ((fnames x.fields).take q.1) ∧ (fnames t.fields ++ (fnames x.fields).take q.1).Nodup) (fun q => x.fields.length - q.1) (0, [], 0, []) ⟨Nat.zero_le _, trivial, SetIs.nil, (by rw [List.take_zero, List.append_nil]; exact hN5)⟩ ⟨rfl, rfl, rfl, rfl, rfl, rfl, rfl, rfl, rfl, rfl, trivial⟩ (.cons_cons _ (.cons_cons _ (.cons _ (.refl _)))) (fun q hq0 => ?_)
  obtain ⟨k, es4, c4, lO⟩ := q
  obtain ⟨hi4, hP4, hS4, hN4⟩ := hq0
  simp only at hi4 hP4 hS4 hN4
  refine .seq (.region (.P ?_))
  refine .nil (.seq (.seq (.cond rfl (fun ht48 => ?_) fun ht48 => ?_)))
  ·try simp only [nz] at ht48
   have hlt2 : k < x.fields.length := by omega
   obtain ⟨y, hy⟩ := gx hlt2
   obtain ⟨b2, off2, cs2, el2, g2, md2, mate2, rfl, ⟨hb2, hh2⟩, hle2, hc2⟩ := so hfa hlt2
   have hry := hc2 k y hy
   refine .skip (.seq (.seq (.block (.seq (.region (.K underlying47 sz132 ?_))))))
   refine .A ag132 sz132 (.base hh2 hb2 (by simp)) hry ?_
   refine .alloc rfl rfl rfl rfl zr132 (fun b11 hb11 => ?_)
   refine .S sz132 ?_
   refine .nil (.seq (.seq (.seq (.region (.P ?_)))))
   refine .F fa132_0 ?_
   refine .L ag9 ?_
   refine .lookup (K := Value.string) (.tail (.tail (.tail .one))) hP (KeyOk.string underlying9) rfl rfl rfl rfl underlying195 zr4 rfl rfl (hSF.look _) ?_
   refine .P ?_
   refine .splitB 55 rfl (fun hs_55 => ?_) (fun hs_55 => ?_)
   ·try simp only [nz] at hs_55
    iterate 4 refine .O ?_
    refine .P ?_
    refine .nil (.seq (.cond_true rfl (.seq (.region (.P ?_)))))
    refine .nil (.seq (.ret (.seq (.blk (.seq (.loop (.blk (.blk (.seq (.loop (.blk ?_)))))))))))
    refine .seq ?_
    exact .end_ rfl rfl (fun m hm => ⟨congrArg Value.bool ((twice_arm hx (by rw [fnames_append]; exact dup_app (fnames_get hy) (.inl (by assumption)))).symm), hm.ext⟩)
   try simp only [nz] at hs_55
   refine .P ?_
   refine .F fa132_0 ?_
   refine .L ag9 ?_
   refine .lookup (K := Value.string) (.tail .one) hP4 (KeyOk.string underlying9) rfl rfl rfl rfl underlying195 zr4 rfl rfl (hS4.look _) ?_
   refine .P ?_
   refine .nil (.seq (.cond rfl (fun hc5 => ?_) fun hc5 => ?_))
   ·try simp only [nz] at hc5
    refine .seq (.region (.P ?_))
    refine .nil (.seq (.ret (.seq (.blk (.seq (.loop (.blk (.blk (.seq (.loop (.blk ?_)))))))))))
    refine .seq ?_
    exact .end_ rfl rfl (fun m hm => ⟨congrArg Value.bool ((twice_arm hx (by rw [fnames_append]; exact dup_app (fnames_get hy) (.inr (by assumption)))).symm), hm.ext⟩)
   try simp only [nz] at hc5
   refine .skip (.seq (.region (.P ?_)))
   refine .F fa132_0 ?_
   refine .L ag9 ?_
   refine .mapUpdate (K := Value.string) (.tail .one) hP4 (KeyOk.string underlying9) rfl rfl rfl underlying195 rfl rfl rfl (fun es5 c5 hP5 => ?_)
   refine .nil (.blk (.seq (.region (.P ?_))))
   refine .W 64 k ?_
   refine .P ?_
   refine .nil ?_
   exact .loop (k + 1, es5, c5, putP y.name (.bool true) lO) ⟨hlt2, hP5, hS4.put_take (fnames_get hy), nodup_app hN4 (fnames_get hy) (by assumption) (by assumption)⟩ (by show x.fields.length - (k + 1) < x.fields.length - k; omega) ⟨rfl, rfl, rfl, rfl, rfl, rfl, rfl, rfl, rfl, rfl, trivial⟩ (.cons_cons _ (.cons _ (.refl _)))
  try simp only [nz] at ht48
  refine .exit (.seq (.loop (.here (.blk (.seq (.region (.P ?_)))))))
  refine .W 65 i2 ?_
  refine .P ?_
  refine .nil ?_
  exact .loop (i2 + 1, es3, c3, putP x.name (.bool true) lA) ⟨hlt, hP3, hS2.put_take (anames_get hx), nodup_take hN2 (anames_get hx) (by assumption), upto_succ hD2 hx (by rw [fnames_append]; exact dup_app_no hN4 (by rw [fnames_len]; omega))⟩ (by show t.arms.length - (i2 + 1) < t.arms.length - i2; omega) ⟨rfl, rfl, rfl, rfl, rfl, rfl, trivial⟩ (.cons _ (.refl _))
 try simp only [nz] at ht33
 refine .exit (.seq (.loop (.here (.seq (.seq (.region (.P ?_)))))))
 refine .nil (.seq (.ret ?_))
 exact .end_ rfl rfl (fun m hm => ⟨congrArg Value.bool ((twice_not (dup_nodup hN (by rw [fnames_len]; omega)) (dup_nodup hN2 (by rw [anames_len]; omega)) fun j x hj hx => hD2 j x (by omega) hx).symm), hm.ext⟩)
theorem parts1_ok {α : Type} {y : Nat} {C : List Nat} {A : Nat → α → Prop} {B : α → Prop} {H : α → Hp} {x0 : α} {D : Nat → Prop} {t : Ty} {bt : Nat} {ve vf va : Value} {m : AW} (hm : m.lo ≤ m.next) (hbt : MemD D m bt (.cells [.int .i64 t.kind, ve, .string t.name, vf, va] 50 false .plain none)) (he : Sl (MemD D m) 1 RInt t.elems ve) (hf : Sl (MemD D m) 2 RFld t.fields vf) (ha : Sl (MemD D m) 2 (RArm (MemD D m)) t.arms va) (hK : ∀ x, (H x).map Prod.fst = C) (hDC : ∀ b, D b → b ∉ C) (h0 : A 0 x0) (hk : Knows C m m (H x0)) (hst : ∀ i x v, (pvs t)[i]? = some v → A i x → ∀ m', Knows C m m' (H x) → Yc prog y v m' fun r m'' => ∃ x', Knows C m' m'' (H x') ∧ (r = .bool true ∧ A (i + 1) x' ∨ r = .bool false ∧ B x')) : Fc prog 130 [.func (.yield y) ⟨[]⟩ ⟨[]⟩, .pointer (some ⟨bt, 0, none⟩)] m fun v m' => ∃ x', Knows C m m' (H x') ∧ (A (pvs t).length x' ∨ B x') := by
 obtain ⟨ae, ce, rfl, hne, he⟩ := he
 obtain ⟨af, cf, rfl, hnf, hf⟩ := hf
 obtain ⟨aa, ca, rfl, hna, ha⟩ := ha
 refine Fc.bodyS (c := _) func130 rfl rfl rfl rfl hk ?_
 refine .seq (.seq (.region (.F fa50_1 ?_)))
 refine .M ag32 (.base hbt.2.2 hbt.2.1 (hDC _ hbt.1)) rfl ?_
 refine .G (ln32 ..) ?_
 refine .P ?_
 refine .nil (.seq (.block ?_))
 refine .loop (α := Nat × α) (fun q => [(0, .func (.yield y) ⟨[]⟩ ⟨[]⟩), (1, .pointer (some ⟨bt, 0, none⟩)), (12, .slice ae t.elems.length ce), (13, .int .i64 (Int.ofNat (t.elems.length))), (14, .int .i64 (Int.ofNat (q.1)))]) (fun q => H q.2) (fun q => q.1 ≤ t.elems.length ∧ A q.1 q.2) (fun q => t.elems.length - q.1) (0, x0) ⟨Nat.zero_le _, h0⟩ ⟨rfl, rfl, rfl, rfl, rfl, trivial⟩ (.refl _) (fun q hq0 => ?_)
 obtain ⟨i, x⟩ := q
 obtain ⟨hi, hA⟩ := hq0
 simp only at hi hA
 refine .seq (.region (.P ?_))
 refine .nil (.seq (.seq (.cond rfl (fun ht15 => ?_) fun ht15 => ?_)))
 ·try simp only [nz] at ht15
  have hlt : i < t.elems.length := by omega
  obtain ⟨x_, hx⟩ := gx hlt
  obtain ⟨b, off, cs, el, g, md, mate, rfl, ⟨hd, hb, hh⟩, hle, hc⟩ := so he hlt
  have hr := hc i x_ hx
  refine .skip (.seq (.seq (.block (.seq (.region (.K underlying32 sz3 ?_))))))
  refine .M ag3 (.base hh hb (hDC _ hd)) (cell_of_take hr (k := 0) rfl) ?_
  refine .P ?_
  refine .nil (.seq (.seq (.region (.P2 ?_))))
  refine .yieldI hst rfl rfl hK (pvs_get (parts_elem hx)) hA .all rfl rfl rfl rfl rfl rfl (fun x1 hA1 => ?_) (fun x1 hB1 => ?_)
  ·refine .P ?_
   refine .nil (.seq (.cond_false rfl (.skip (.blk (.seq (.region (.P ?_)))))))
   refine .W 22 i ?_
   refine .P ?_
   refine .nil ?_
   exact .loop (i + 1, x1) ⟨hlt, hA1⟩ (by show t.elems.length - (i + 1) < t.elems.length - i; omega) ⟨rfl, rfl, rfl, rfl, rfl, trivial⟩ (List.sublist_append_left _ _)
  refine .P ?_
  refine .nil (.seq (.cond_true rfl (.ret (.blk (.seq (.loop (.blk (.seq ?_))))))))
  exact .end_ rfl rfl (fun m hm => ⟨x1, hm.sub (List.sublist_append_left _ _), .inr hB1⟩)
 try simp only [nz] at ht15
 refine .exit (.seq (.loop (.here (.seq (.seq (.seq (.region (.F fa50_3 ?_))))))))
 refine .M ag47 (.base hbt.2.2 hbt.2.1 (hDC _ hbt.1)) rfl ?_
 refine .G (ln47 ..) ?_
 refine .P ?_
 refine .nil (.seq (.block ?_))
 refine .loop (α := Nat × α) (fun q => [(0, .func (.yield y) ⟨[]⟩ ⟨[]⟩), (1, .pointer (some ⟨bt, 0, none⟩)), (24, .slice af t.fields.length cf), (25, .int .i64 (Int.ofNat (t.fields.length))), (26, .int .i64 (Int.ofNat (q.1)))]) (fun q => H q.2) (fun q => q.1 ≤ t.fields.length ∧ A (t.elems.length + q.1) q.2) (fun q => t.fields.length - q.1) (0, x) ⟨Nat.zero_le _, by rw [show t.elems.length + 0 = i by omega]; exact hA⟩ ⟨rfl, rfl, rfl, rfl, rfl, trivial⟩ (.refl _) (fun q hq0 => ?_)
 obtain ⟨i, x⟩ := q
 obtain ⟨hi2, hA2⟩ := hq0
 simp only at hi2 hA2
 refine .seq (.region (.P ?_))
 refine .nil (.seq (.seq (.cond rfl (fun ht27 => ?_) fun ht27 => ?_)))
 ·try simp only [nz] at ht27
  have hlt : i < t.fields.length := by omega
  obtain ⟨x_, hx⟩ := gx hlt
  obtain ⟨b, off, cs, el, g, md, mate, rfl, ⟨hd, hb, hh⟩, hle, hc⟩ := so hf hlt
  have hr := hc i x_ hx
  refine .skip (.seq (.seq (.block (.seq (.region (.K underlying47 sz132 ?_))))))
  refine .A ag132 sz132 (.base hh hb (hDC _ hd)) hr ?_
  refine .alloc rfl rfl rfl rfl zr132 (fun b6 hb6 => ?_)
  refine .S sz132 ?_
  refine .nil (.seq (.seq (.region (.P ?_))))
  refine .F fa132_1 ?_
  refine .L ag3 ?_
  refine .yieldI hst rfl rfl hK (pvs_get (parts_field hx)) hA2 (.tail .all) rfl rfl rfl rfl rfl rfl (fun x1 hA1 => ?_) (fun x1 hB1 => ?_)
  ·refine .P ?_
   refine .nil (.seq (.cond_false rfl (.skip (.blk (.seq (.region (.P ?_)))))))
   refine .W 35 i ?_
   refine .P ?_
   refine .nil ?_
   exact .loop (i + 1, x1) ⟨hlt, hA1⟩ (by show t.fields.length - (i + 1) < t.fields.length - i; omega) ⟨rfl, rfl, rfl, rfl, rfl, trivial⟩ (List.sublist_append_left _ _)
  refine .P ?_
  refine .nil (.seq (.cond_true rfl (.ret (.blk (.seq (.loop (.blk (.seq ?_))))))))
  exact .end_ rfl rfl (fun m hm => ⟨x1, hm.sub (List.sublist_append_left _ _), .inr hB1⟩)
 try simp only [nz] at ht27
 refine .exit (.seq (.loop (.here (.seq (.seq (.region (.F fa50_4 ?_)))))))
 refine .M ag48 (.base hbt.2.2 hbt.2.1 (hDC _ hbt.1)) rfl ?_
 refine .G (ln48 ..) ?_
 refine .P ?_
 refine .nil (.seq (.block ?_))
 refine .loop (α := Nat × α) (fun q => [(0, .func (.yield y) ⟨[]⟩ ⟨[]⟩), (1, .pointer (some ⟨bt, 0, none⟩)), (37, .slice aa t.arms.length ca), (38, .int .i64 (Int.ofNat (t.arms.length))), (39, .int .i64 (Int.ofNat (q.1)))]) (fun q => H q.2) (fun q => q.1 ≤ t.arms.length ∧ A (posA t q.1) q.2) (fun q => t.arms.length - q.1) (0, x) ⟨Nat.zero_le _, by rw [posA_zero, show t.fields.length = i by omega]; exact hA2⟩ ⟨rfl, rfl, rfl, rfl, rfl, trivial⟩ (.refl _) (fun q hq0 => ?_)
 obtain ⟨i, x⟩ := q
 obtain ⟨hi3, hA3⟩ := hq0
 simp only at hi3 hA3
 refine .seq (.region (.P ?_))
 refine .nil (.seq (.seq (.cond rfl (fun ht40 => ?_) fun ht40 => ?_)))
 ·try simp only [nz] at ht40
  have hlt : i < t.arms.length := by omega
  obtain ⟨x_, hx⟩ := gx hlt
  obtain ⟨b, off, cs, el, g, md, mate, rfl, ⟨hd, hb, hh⟩, hle, hc⟩ := so ha hlt
  have hr := hc i x_ hx
  obtain ⟨vx, hra, hfa⟩ := hr
  obtain ⟨ax, cx, rfl, hnx, hfa⟩ := hfa
  refine .skip (.seq (.seq (.block (.seq (.region (.K underlying48 sz55 ?_))))))
  refine .A ag55 sz55 (.base hh hb (hDC _ hd)) hra ?_
  refine .alloc rfl rfl rfl rfl zr55 (fun b8 hb8 => ?_)
  refine .S sz55 ?_
  refine .nil (.seq (.seq (.region (.F fa55_1 ?_))))
  refine .L ag47 ?_
  refine .G (ln47 ..) ?_
  refine .P ?_
  refine .nil (.seq (.block ?_))
  refine .loop (α := Nat × α) (fun q => [(0, .func (.yield y) ⟨[]⟩ ⟨[]⟩), (1, .pointer (some ⟨bt, 0, none⟩)), (37, .slice (some ⟨b, off, none⟩) t.arms.length ca), (38, .int .i64 (Int.ofNat (t.arms.length))), (39, .int .i64 (Int.ofNat (i))), (44, .slice ax x_.fields.length cx), (45, .int .i64 (Int.ofNat (x_.fields.length))), (46, .int .i64 (Int.ofNat (q.1)))]) (fun q => H q.2) (fun q => q.1 ≤ x_.fields.length ∧ A (posA t i + q.1) q.2) (fun q => x_.fields.length - q.1) (0, x) ⟨Nat.zero_le _, hA3⟩ ⟨rfl, rfl, rfl, rfl, rfl, rfl, rfl, rfl, trivial⟩ (.cons _ (.refl _)) (fun q hq0 => ?_)
  obtain ⟨k, x⟩ := q
  obtain ⟨hi4, hA4⟩ := hq0
  simp only at hi4 hA4
  refine .seq (.region (.P ?_))
  refine .nil (.seq (.seq (.cond rfl (fun ht47 => ?_) fun ht47 => ?_)))
  ·try simp only [nz] at ht47
   have hlt2 : k < x_.fields.length := by omega
   obtain ⟨y_, hy⟩ := gx hlt2
   obtain ⟨b2, off2, cs2, el2, g2, md2, mate2, rfl, ⟨hd2, hb2, hh2⟩, hle2, hc2⟩ := so hfa hlt2
   have hry := hc2 k y_ hy
   refine .skip (.seq (.seq (.block (.seq (.region (.K underlying47 sz132 ?_))))))
   refine .A ag132 sz132 (.base hh2 hb2 (hDC _ hd2)) hry ?_
   refine .alloc rfl rfl rfl rfl zr132 (fun b10 hb10 => ?_)
   refine .S sz132 ?_
   refine .nil (.seq (.seq (.region (.P ?_))))
   refine .F fa132_1 ?_
   refine .L ag3 ?_
   refine .yieldI hst rfl rfl hK (pvs_get (parts_arm hx hy)) hA4 (.tail .all) rfl rfl rfl rfl rfl rfl (fun x1 hA1 => ?_) (fun x1 hB1 => ?_)
   ·refine .P ?_
    refine .nil (.seq (.cond_false rfl (.skip (.blk (.seq (.region (.P ?_)))))))
    refine .W 55 k ?_
    refine .P ?_
    refine .nil ?_
    exact .loop (k + 1, x1) ⟨hlt2, hA1⟩ (by show x_.fields.length - (k + 1) < x_.fields.length - k; omega) ⟨rfl, rfl, rfl, rfl, rfl, rfl, rfl, rfl, trivial⟩ (List.sublist_append_left _ _)
   refine .P ?_
   refine .nil (.seq (.cond_true rfl (.ret (.blk (.seq (.loop (.blk (.blk (.seq (.loop (.blk ?_)))))))))))
   exact .end_ rfl rfl (fun m hm => ⟨x1, hm.sub (List.sublist_append_left _ _), .inr hB1⟩)
  try simp only [nz] at ht47
  refine .exit (.seq (.loop (.here (.blk (.seq (.region (.P ?_)))))))
  refine .W 56 i ?_
  refine .P ?_
  refine .nil ?_
  exact .loop (i + 1, x) ⟨hlt, by rw [posA_succ hx, show x_.fields.length = k by omega]; exact hA4⟩ (by show t.arms.length - (i + 1) < t.arms.length - i; omega) ⟨rfl, rfl, rfl, rfl, rfl, trivial⟩ (.refl _)
 try simp only [nz] at ht40
 refine .exit (.seq (.loop (.here ?_)))
 exact .end_ rfl rfl (fun m hm => ⟨x, hm, .inl (by rw [pvs_len, ← posA_end, show t.arms.length = i by omega]; exact hA3)⟩)
theorem parts_iter {D : Nat → Prop} {t : Ty} {bt : Nat} {ve vf va : Value} {m : AW} (hbt : MemD D m bt (.cells [.int .i64 t.kind, ve, .string t.name, vf, va] 50 false .plain none)) (he : Sl (MemD D m) 1 RInt t.elems ve) (hf : Sl (MemD D m) 2 RFld t.fields vf) (ha : Sl (MemD D m) 2 (RArm (MemD D m)) t.arms va) : Iterates prog 130 [] [.pointer (some ⟨bt, 0, none⟩)] (pvs t) D m :=
 fun _ _ _ _ _ _ _ hK hDC h0 hk hst => parts1_ok hk.lole' hbt he hf ha hK hDC h0 hk hst
theorem parts_ok {t : Ty} {cs : List Value} {m : AW} (hm : m.lo ≤ m.next) (ht : RTy (Mem m) t cs) : Fc prog 95 [.agg ⟨cs⟩] m fun v m' => ∃ b : Nat, True ∧ v = .func (.func 130) ⟨[]⟩ ⟨[.pointer (some ⟨b, 0, none⟩)]⟩ ∧ Ext m m' ∧ News m m' [(b, .cells cs 50 false .plain none)] := by
 obtain ⟨ve, vf, va, rfl, he, hf, ha⟩ := ht
 obtain ⟨ae, ce, rfl, hne, he⟩ := he
 obtain ⟨af, cf, rfl, hnf, hf⟩ := hf
 obtain ⟨aa, ca, rfl, hna, ha⟩ := ha
 refine Fc.body (c := _) func95 rfl rfl rfl rfl hm ?_
 refine .seq (.region ?_)
 refine .box rfl rfl rfl rfl rfl (fun b1 hb1 => ?_)
 refine .P ?_
 refine .nil (.seq (.seq (.region ?_)))
 refine .p (v := .func (.func 130) ⟨[]⟩ ⟨[.pointer (some ⟨b1, 0, none⟩)]⟩) rfl rfl rfl rfl ?_
 refine .P ?_
 refine .nil (.seq (.ret ?_))
 exact .end_ rfl rfl (fun m hm => ⟨b1, trivial, rfl, hm.ext, hm.news (.refl _)⟩)
theorem single_ok {n : Nat} {al : Option Addr} {cl : Nat} {t : Ty} {cs : List Value} {m : AW} (hm : m.lo ≤ m.next) (ht : RTy (Mem m) t cs) (hw : FewT t) : Fc prog 51 [.slice al n cl, .agg ⟨cs⟩] m fun v m' => v = .int .i64 (singleE n t) ∧ Ext m m' := by
 have htS := ht
 obtain ⟨ve, vf, va, rfl, he, hf, ha⟩ := ht
 have heS := he
 have hfS := hf
 have haS := ha
 obtain ⟨ae, ce, rfl, hne, he⟩ := he
 obtain ⟨af, cf, rfl, hnf, hf⟩ := hf
 obtain ⟨aa, ca, rfl, hna, ha⟩ := ha
 refine Fc.body (c := _) func51 rfl rfl rfl rfl hm ?_
 refine .seq (.region ?_)
 refine .box rfl rfl rfl rfl rfl (fun b2 hb2 => ?_)
 refine .box rfl rfl rfl rfl rfl (fun b3 hb3 => ?_)
 refine .alloc rfl rfl rfl rfl zr25 (fun b4 hb4 => ?_)
 refine .nil (.seq (.seq (.block ?_)))
 refine .joinA (True) [(6, .bool (decide (t.kind < 0 ∨ 14 < t.kind)))] ?_ (fun _ => ?_)
 ·refine .region (.F fa50_0 ?_)
  refine .L ag3 ?_
  refine .P2 ?_
  refine .splitB 10 rfl (fun hs0 => ?_) (fun hs0 => ?_)
  ·try simp only [nz] at hs0
   iterate 3 refine .O ?_
   refine .P2 ?_
   refine .nil ?_
   refine .as 6 (.bool (decide (t.kind < 0 ∨ 14 < t.kind))) rfl (congrArg Value.bool (by apply bbx; simp only [nz, nb, reduceCtorEq]; (try simp only [nq]); omega)) ?_
   exact .J (trivial)
  try simp only [nz] at hs0
  refine .F fa50_0 ?_
  refine .L ag3 ?_
  refine .P3 ?_
  refine .nil ?_
  refine .as 6 (.bool (decide (t.kind < 0 ∨ 14 < t.kind))) rfl (congrArg Value.bool (by apply bbx; simp only [nz, nb, reduceCtorEq]; (try simp only [nq]); omega)) ?_
  exact .J (trivial)
 refine .cond rfl (fun hc0 => ?_) (fun hc0 => ?_)
 ·try simp only [nz] at hc0
  refine .seq (.region (.S sz25 ?_))
  refine .nil (.seq (.ret (.blk (.seq ?_))))
  refine .endH rfl (.cell rfl ag25 (by repeat first | exact .head | exact .app .head | exact .base ‹_› ‹_› (by simp) | refine .tail ?_ | refine .app ?_) rfl .nil) ?_
  exact fun m hm => ⟨congrArg (Value.int .i64) (by unfold singleE; grind), hm.ext⟩
 try simp only [nz] at hc0
 refine .seq (.region (.E ag50 sz50 ?_))
 refine .call _ rfl rfl rfl rfl rfl rfl (fun m hm => shaped_ok hm.lole (RTy.mono (Mem.kr hm) _ _ htS)) ?_
 refine .P2 ?_
 refine .nil (.seq (.cond rfl (fun hc1 => ?_) fun hc1 => ?_))
 ·try simp only [nz] at hc1
  refine .seq (.region (.S sz25 ?_))
  refine .nil (.seq (.ret (.blk (.seq ?_))))
  refine .endH rfl (.cell rfl ag25 (by repeat first | exact .head | exact .app .head | exact .base ‹_› ‹_› (by simp) | refine .tail ?_ | refine .app ?_) rfl .nil) ?_
  exact fun m hm => ⟨congrArg (Value.int .i64) (by unfold singleE; grind), hm.ext⟩
 try simp only [nz] at hc1
 refine .seq (.region (.E ag50 sz50 ?_))
 refine .call _ rfl rfl rfl rfl rfl rfl (fun m hm => crowded_ok hm.lole (RTy.mono (Mem.kr hm) _ _ htS) hw) ?_
 refine .P ?_
 refine .nil (.seq (.cond rfl (fun hc2 => ?_) fun hc2 => ?_))
 ·try simp only [nz] at hc2
  refine .seq (.region (.S sz25 ?_))
  refine .nil (.seq (.ret (.blk (.seq ?_))))
  refine .endH rfl (.cell rfl ag25 (by repeat first | exact .head | exact .app .head | exact .base ‹_› ‹_› (by simp) | refine .tail ?_ | refine .app ?_) rfl .nil) ?_
  exact fun m hm => ⟨congrArg (Value.int .i64) (by unfold singleE; grind), hm.ext⟩
 try simp only [nz] at hc2
 refine .skip (.blk (.seq (.seq (.seq (.region (.E ag50 sz50 ?_))))))
 refine .calln _ _ _ rfl rfl rfl rfl rfl rfl (fun m hm => parts_ok hm.lole (RTy.mono (Mem.kr hm) _ _ htS)) (fun bt _ => ?_)
 refine .nil (.seq (.block ?_))
 refine .rangeFunc (α := Int) (vs := pvs t) (K := [b4, b3, b2]) (fun i z => z = 0 ∧ ∀ (j : Nat) (p : Int), j < i → (partsL t)[j]? = some p → ¬ (p < 0 ∨ (n : Int) ≤ p)) (fun z => z = 11 ∧ badB n t = true) (fun z => [(b4, .cells [.int .i64 z] 25 false .plain none), (b3, .cells (cellsOfV (.agg ⟨[.int .i64 t.kind, .slice ae t.elems.length ce, .string t.name, .slice af t.fields.length cf, .slice aa t.arms.length ca]⟩)) 50 false .plain none), (b2, .cells [.slice al n cl] 22 false .plain none)]) 0 rfl rfl (fun _ => rfl) ⟨rfl, fun _ _ h => by cases h⟩ (.cons _ (.refl _)) (fun v hv => by obtain ⟨p, rfl⟩ := pvs_mem hv; exact ⟨rfl, rfl⟩) (fun b => b = bt ∨ b < m.next) (fun m1 hm1 => ⟨parts_iter (rf_new hm1) (heS.mono (rf_mem hm1) fun _ _ h => h) (hfS.mono (rf_mem hm1) fun _ _ h => h) (haS.mono (rf_mem hm1) (RArm.mono (rf_mem hm1))), rf_base hm1 (by simp)⟩) (fun i z v hv hA ll m1 ready busy hll hm1 => ?_) (fun z hA => ?_) (fun z hR => ?_)
 ·obtain ⟨p, hp, rfl⟩ := pvs_inv hv
  obtain ⟨rfl, hA⟩ := hA
  refine .region (.P ?_)
  refine .nil (.asg rfl (.block ?_))
  refine .joinA (True) [(32, .bool (decide (p < 0 ∨ (n : Int) ≤ p)))] ?_ (fun _ => ?_)
  ·refine .region (.P3 ?_)
   refine .splitB 27 rfl (fun hs1 => ?_) (fun hs1 => ?_)
   ·try simp only [nz] at hs1
    iterate 4 refine .O ?_
    refine .P ?_
    refine .nil ?_
    refine .as 32 (.bool (decide (p < 0 ∨ (n : Int) ≤ p))) rfl (congrArg Value.bool (by apply bbx; simp only [nz, nb, reduceCtorEq]; (try simp only [nq]); omega)) ?_
    exact .J (trivial)
   try simp only [nz] at hs1
   refine .P ?_
   refine .L ag22 ?_
   refine .G (ln22 ..) ?_
   refine .P2 ?_
   refine .nil ?_
   refine .as 32 (.bool (decide (p < 0 ∨ (n : Int) ≤ p))) rfl (congrArg Value.bool (by apply bbx; simp only [nz, nb, reduceCtorEq]; (try simp only [nq]); omega)) ?_
   exact .J (trivial)
  refine .cond rfl (fun hc3 => ?_) (fun hc3 => ?_)
  ·try simp only [nz] at hc3
   refine .seq (.region (.S sz25 ?_))
   refine .nil (.seq (.ret (.blk ?_)))
   exact .rnd 11 ⟨rfl, bad_yes hp (by omega)⟩ (.refl _)
  try simp only [nz] at hc3
  refine .skip (.blk ?_)
  exact .rnd 0 ⟨rfl, upto_succ hA hp (by omega)⟩ (.refl _)
 ·obtain ⟨rfl, hA⟩ := hA
  have hbad : badB n t = false := bad_no fun j p hj hp => hA j p (by rw [pvs_len]; exact hj) hp
  refine .blk (.seq (.seq (.block (.seq (.region (.E ag50 sz50 ?_))))))
  refine .call _ rfl rfl rfl rfl rfl rfl (fun m hm => named_ok hm.lole (RTy.mono (Mem.kr hm) _ _ htS)) ?_
  refine .P2 ?_
  refine .nil (.seq (.cond rfl (fun hc4 => ?_) fun hc4 => ?_))
  ·try simp only [nz] at hc4
   refine .seq (.region (.S sz25 ?_))
   refine .nil (.seq (.ret (.blk (.seq ?_))))
   refine .endH rfl (.cell rfl ag25 (by repeat first | exact .head | exact .app .head | exact .base ‹_› ‹_› (by simp) | refine .tail ?_ | refine .app ?_) rfl .nil) ?_
   exact fun m hm => ⟨congrArg (Value.int .i64) (by unfold singleE; grind), hm.ext⟩
  try simp only [nz] at hc4
  refine .seq (.region (.E ag50 sz50 ?_))
  refine .call _ rfl rfl rfl rfl rfl rfl (fun m hm => twice_ok hm.lole (RTy.mono (Mem.kr hm) _ _ htS)) ?_
  refine .P ?_
  refine .nil (.seq (.cond rfl (fun hc5 => ?_) fun hc5 => ?_))
  ·try simp only [nz] at hc5
   refine .seq (.region (.S sz25 ?_))
   refine .nil (.seq (.ret (.blk (.seq ?_))))
   refine .endH rfl (.cell rfl ag25 (by repeat first | exact .head | exact .app .head | exact .base ‹_› ‹_› (by simp) | refine .tail ?_ | refine .app ?_) rfl .nil) ?_
   exact fun m hm => ⟨congrArg (Value.int .i64) (by unfold singleE; grind), hm.ext⟩
  try simp only [nz] at hc5
  refine .skip (.blk (.seq (.seq (.region (.S sz25 ?_)))))
  refine .nil (.seq (.ret ?_))
  refine .endH rfl (.cell rfl ag25 (by repeat first | exact .head | exact .app .head | exact .base ‹_› ‹_› (by simp) | refine .tail ?_ | refine .app ?_) rfl .nil) ?_
  exact fun m hm => ⟨congrArg (Value.int .i64) (by unfold singleE; grind), hm.ext⟩
 obtain ⟨rfl, hbad⟩ := hR
 refine .blk (.seq ?_)
 refine .endH rfl (.cell rfl ag25 (by repeat first | exact .head | exact .app .head | exact .base ‹_› ‹_› (by simp) | refine .tail ?_ | refine .app ?_) rfl .nil) ?_
 exact fun m hm => ⟨congrArg (Value.int .i64) (by unfold singleE; grind), hm.ext⟩
theorem fit_ok {l : List Ty} {vl : Value} {t : Ty} {cs : List Value} {m : AW} (hm : m.lo ≤ m.next) (hlS : Sl (Mem m) 5 (RTy (Mem m)) l vl) (hwl : ∀ (i : Nat) (a : Ty), l[i]? = some a → FewT a) (ht : RTy (Mem m) t cs) (hw : FewT t) (hsh : shapedB t = true) (hbd : badB l.length t = false) : Fc prog 52 [vl, .agg ⟨cs⟩] m fun v m' => v = .int .i64 (fitE l t) ∧ Ext m m' := by
 have hl := hlS
 obtain ⟨al, cl, rfl, hnl, hl⟩ := hl
 unfold shapedB at hsh
 have hsP := of_decide_eq_true hsh
 simp only [shapeP] at hsP
 have htS := ht
 obtain ⟨ve, vf, va, rfl, he, hf, ha⟩ := ht
 have heS := he
 have hfS := hf
 have haS := ha
 obtain ⟨ae, ce, rfl, hne, he⟩ := he
 obtain ⟨af, cf, rfl, hnf, hf⟩ := hf
 obtain ⟨aa, ca, rfl, hna, ha⟩ := ha
 have k1 := hw.elems
 have k2 := hw.fields
 have k3 := hw.arms
 refine Fc.body (c := _) func52 rfl rfl rfl rfl hm ?_
 refine .seq (.region ?_)
 refine .box rfl rfl rfl rfl rfl (fun b2 hb2 => ?_)
 refine .box rfl rfl rfl rfl rfl (fun b3 hb3 => ?_)
 refine .P ?_
 refine .nil (.seq (.seq (.region ?_)))
 refine .alloc rfl rfl rfl rfl zr4 (fun b5 hb5 => ?_)
 refine .S sz4 ?_
 refine .nil (.seq (.seq (.seq (.region (.F fa50_0 ?_)))))
 refine .L ag3 ?_
 refine .nil (.seq (.block (.seq (.region (.P2 ?_)))))
 refine .nil (.seq (.cond rfl (fun ht25 => ?_) fun ht25 => ?_))
 ·(try simp only [nz] at ht25); try simp only [nq] at ht25
  have hltE : 0 < t.elems.length := by clear he hf ha hl; omega
  obtain ⟨p, hp⟩ := gx hltE
  obtain ⟨bE, offE, csE, elE, gE, mdE, mateE, rfl, ⟨hbE, hhE⟩, hleE, hcE⟩ := so he hltE
  have hrp := hcE 0 p hp
  obtain ⟨q, rfl, hq⟩ := parts_in hbd (parts_elem hp)
  obtain ⟨a, ha_⟩ := gx hq
  rcases hl with ⟨e0, -⟩ | ⟨bL, offL, csL, elL, gL, mdL, mateL, rfl, ⟨hbL, hhL⟩, hleL, hcL⟩
  ·rw [e0] at hq; simp at hq
  have hra_ := hcL q a ha_
  have hraS := hra_
  obtain ⟨vea, vfa, vaa, hra_, hea, hfa_, haa⟩ := hra_
  have hfit := fit_ref ht25 hp ha_
  refine .seq (.seq ?_)
  refine .D [(3, 0), (15, 0), (3, 2), (15, 6), (3, 14), (15, 31), (15, 63), (3, 127), (15, 255)] (by kernel_rfl) (by kernel_rfl) (fun base hbase hB => ?_)
  refine .J ag22 ?_
  refine .F fa50_1 ?_
  refine .J ag32 ?_
  refine .K underlying32 sz3 ?_
  refine .M ag3 (.base hhE hbE (by simp)) (cell_of_take hrp (k := 0) rfl) ?_
  refine .K underlying22 sz50 ?_
  refine .F fa50_0 ?_
  refine .M ag3 (.base hhL hbL (by simp)) (cell_of_take hra_ (k := 0) rfl) ?_
  refine .P ?_
  refine .nil (.seq (.cond rfl (fun ht35 => ?_) fun ht35 => ?_))
  ·(try simp only [nz] at ht35); try simp only [nq] at ht35
   refine .seq (.region (.P ?_))
   refine .nil (.seq (.ret (.seq (.blk (.seq ?_)))))
   exact .end_ rfl rfl (fun m hm => ⟨congrArg (Value.int .i64) (by rw [hfit]; grind), hm.ext⟩)
  (try simp only [nz] at ht35); try simp only [nq] at ht35
  refine .skip (.seq (.seq ?_))
  refine .D [(3, 0), (15, 0), (3, 2), (15, 6), (3, 14), (15, 31), (3, 63), (15, 0), (3, 128), (7, 511), (15, 1023), (15, 2047), (15, 2047), (15, 4095), (15, 16383)] (by kernel_rfl) (by kernel_rfl) (fun base hbase hB => ?_)
  refine .J ag22 ?_
  refine .F fa50_1 ?_
  refine .J ag32 ?_
  refine .K underlying32 sz3 ?_
  refine .M ag3 (.base hhE hbE (by simp)) (cell_of_take hrp (k := 0) rfl) ?_
  refine .K underlying22 sz50 ?_
  refine .loadAgg rfl rfl rfl rfl rfl rfl rfl rfl ag50 sz50 (.base hhL hbL (by simp)) (by omega) hra_ ?_
  refine .F fa50_2 ?_
  refine .J ag9 ?_
  refine .calln _ _ _ rfl rfl rfl rfl rfl rfl rfl rfl rfl (fun m hm => arm_ok hm.lole (t := a) (Mem.kr hm) ⟨vea, vfa, vaa, rfl, hea, hfa_, haa⟩ (hwl q a ha_)) (fun z hz => ?_)
  refine .as 46 (.tuple ⟨[z.2, .bool (withL a t.name).isSome]⟩) rfl rfl ?_
  iterate 5 refine .P ?_
  refine .nil (.seq (.seq (.region (.P2 ?_))))
  refine .nil (.seq (.cond rfl (fun ht50 => ?_) fun ht50 => ?_))
  ·(try simp only [nz] at ht50); try simp only [nq] at ht50
   refine .seq (.region (.P ?_))
   refine .nil (.seq (.ret (.blk (.seq ?_))))
   exact .end_ rfl rfl (fun m hm => ⟨congrArg (Value.int .i64) (by rw [hfit]; grind), hm.ext⟩)
  (try simp only [nz] at ht50); try simp only [nq] at ht50
  refine .skip (.blk (.seq (.seq (.seq (.region (.L ag4 ?_))))))
  refine .P ?_
  refine .nil (.seq (.cond rfl (fun ht106 => ?_) fun ht106 => ?_))
  ·refine .seq (.region (.P ?_))
   refine .nil (.seq (.ret (.seq ?_)))
   exact .end_ rfl rfl (fun m hm => ⟨congrArg (Value.int .i64) (by rw [hfit]; grind), hm.ext⟩)
  refine .skip (.seq (.seq (.region (.P ?_))))
  refine .nil (.seq (.ret ?_))
  exact .end_ rfl rfl (fun m hm => ⟨congrArg (Value.int .i64) (by rw [hfit]; grind), hm.ext⟩)
 (try simp only [nz] at ht25); try simp only [nq] at ht25
 refine .seq (.region (.P2 ?_))
 refine .nil (.seq (.cond rfl (fun ht51 => ?_) fun ht51 => ?_))
 ·(try simp only [nz] at ht51); try simp only [nq] at ht51
  refine .seq (.region (.F fa50_3 ?_))
  refine .L ag47 ?_
  refine .G (ln47 ..) ?_
  refine .P ?_
  refine .nil (.seq (.block ?_))
  refine .loop (α := Nat) (fun i => [(2, .pointer (some ⟨b2, 0, none⟩)), (5, .pointer (some ⟨b5, 0, none⟩)), (54, .slice af t.fields.length cf), (55, .int .i64 (Int.ofNat (t.fields.length))), (56, .int .i64 (Int.ofNat (i)))]) (fun i => [(b5, .cells [.bool (allN (modF l t) i)] 4 false .plain none), (b3, .cells (cellsOfV (.agg ⟨[.int .i64 t.kind, .slice ae t.elems.length ce, .string t.name, .slice af t.fields.length cf, .slice aa t.arms.length ca]⟩)) 50 false .plain none), (b2, .cells [.slice al l.length cl] 22 false .plain none)]) (fun i => i ≤ t.fields.length) (fun i => t.fields.length - i) 0 (Nat.zero_le _) ⟨rfl, rfl, rfl, rfl, rfl, trivial⟩ (.refl _) (fun i hi => ?_)
  refine .seq (.region (.P ?_))
  refine .nil (.seq (.seq (.cond rfl (fun ht57 => ?_) fun ht57 => ?_)))
  ·(try simp only [nz] at ht57); try simp only [nq] at ht57
   have hlt : i < t.fields.length := by omega
   obtain ⟨x, hx⟩ := gx hlt
   obtain ⟨b, off, cs, el, g, md, mate, rfl, ⟨hb, hh⟩, hle, hc⟩ := so hf hlt
   have hr := hc i x hx
   obtain ⟨q, hq0, hq⟩ := parts_in hbd (parts_field hx)
   obtain ⟨a, ha_⟩ := gx hq
   rcases hl with ⟨e0, -⟩ | ⟨bL, offL, csL, elL, gL, mdL, mateL, rfl, ⟨hbL, hhL⟩, hleL, hcL⟩
   ·rw [e0] at hq; simp at hq
   have hra_ := hcL q a ha_
   have hraS := hra_
   obtain ⟨vea, vfa, vaa, hra_, hea, hfa_, haa⟩ := hra_
   have hfi : modF l t i = decide (a.kind = 12) := by simp only [modF, hx]; rw [hq0, kindAt_get ha_]
   refine .skip (.seq (.seq (.block (.seq (.region (.K underlying47 sz132 ?_))))))
   refine .A ag132 sz132 (.base hh hb (by simp)) hr ?_
   refine .alloc rfl rfl rfl rfl zr132 (fun b9 hb9 => ?_)
   refine .S sz132 ?_
   refine .nil (.seq (.region (.L ag4 ?_)))
   refine .P ?_
   refine .splitB 61 rfl (fun hs_61 => ?_) (fun hs_61 => ?_)
   ·(try simp only [nz] at hs_61); try simp only [nq] at hs_61
    refine .L ag22 ?_
    refine .F fa132_1 ?_
    refine .L ag3 ?_
    refine .as 64 (.int .i64 (Int.ofNat q)) rfl (congrArg (Value.int .i64) hq0) ?_
    refine .K underlying22 sz50 ?_
    refine .F fa50_0 ?_
    refine .M ag3 (.base hhL hbL (by simp)) (cell_of_take hra_ (k := 0) rfl) ?_
    refine .P2 ?_
    refine .as 69 (.bool (allN (modF l t) (i + 1))) rfl (congrArg Value.bool (by rw [allN_succ, hfi]; grind [eqI_eq])) ?_
    refine .S sz4 ?_
    refine .nil (.blk (.seq (.region (.P ?_))))
    refine .W 70 i ?_
    refine .P ?_
    refine .nil ?_
    exact .loop (i + 1) hlt (by omega) ⟨rfl, rfl, rfl, rfl, rfl, trivial⟩ (.cons _ (.refl _))
   (try simp only [nz] at hs_61); try simp only [nq] at hs_61
   iterate 7 refine .O ?_
   refine .P ?_
   refine .as 69 (.bool (allN (modF l t) (i + 1))) rfl (congrArg Value.bool (by rw [allN_succ, hfi]; grind [eqI_eq])) ?_
   refine .S sz4 ?_
   refine .nil (.blk (.seq (.region (.P ?_))))
   refine .W 70 i ?_
   refine .P ?_
   refine .nil ?_
   exact .loop (i + 1) hlt (by omega) ⟨rfl, rfl, rfl, rfl, rfl, trivial⟩ (.cons _ (.refl _))
  (try simp only [nz] at ht57); try simp only [nq] at ht57
  have hie : i = t.fields.length := by omega
  subst hie
  have hfit := fit_mod (l := l) ht25 ht51
  refine .exit (.seq (.loop (.here (.blk (.seq (.seq (.seq (.region (.L ag4 ?_)))))))))
  refine .P ?_
  refine .nil (.seq (.cond rfl (fun ht106 => ?_) fun ht106 => ?_))
  ·refine .seq (.region (.P ?_))
   refine .nil (.seq (.ret (.seq ?_)))
   exact .end_ rfl rfl (fun m hm => ⟨congrArg (Value.int .i64) (by rw [hfit]; grind), hm.ext⟩)
  refine .skip (.seq (.seq (.region (.P ?_))))
  refine .nil (.seq (.ret ?_))
  exact .end_ rfl rfl (fun m hm => ⟨congrArg (Value.int .i64) (by rw [hfit]; grind), hm.ext⟩)
 (try simp only [nz] at ht51); try simp only [nq] at ht51
 refine .seq (.region (.P2 ?_))
 refine .nil (.seq (.cond rfl (fun ht71 => ?_) fun ht71 => ?_))
 ·(try simp only [nz] at ht71); try simp only [nq] at ht71
  refine .seq (.region (.F fa50_1 ?_))
  refine .L ag32 ?_
  refine .G (ln32 ..) ?_
  refine .P ?_
  refine .as 76 (.int .i64 (Int.ofNat (t.elems.length - 1))) rfl (congrArg (Value.int .i64) (wr_pred (by clear he hf ha hl; omega) hne.1)) ?_
  refine .P ?_
  refine .nil (.seq (.seq (.region (.F fa50_1 ?_))))
  refine .L ag32 ?_
  refine .G (ln32 ..) ?_
  refine .P ?_
  refine .nil (.seq (.block ?_))
  refine .loop (α := Nat) (fun i => [(2, .pointer (some ⟨b2, 0, none⟩)), (5, .pointer (some ⟨b5, 0, none⟩)), (10, .int .i64 (Int.ofNat (t.elems.length - 1))), (78, .slice ae t.elems.length ce), (79, .int .i64 (Int.ofNat (t.elems.length))), (80, .int .i64 (Int.ofNat (i)))]) (fun i => [(b5, .cells [.bool (allN (fnF l t) i)] 4 false .plain none), (b3, .cells (cellsOfV (.agg ⟨[.int .i64 t.kind, .slice ae t.elems.length ce, .string t.name, .slice af t.fields.length cf, .slice aa t.arms.length ca]⟩)) 50 false .plain none), (b2, .cells [.slice al l.length cl] 22 false .plain none)]) (fun i => i ≤ t.elems.length) (fun i => t.elems.length - i) 0 (Nat.zero_le _) ⟨rfl, rfl, rfl, rfl, rfl, rfl, trivial⟩ (.refl _) (fun i hi => ?_)
  refine .seq (.region (.P ?_))
  refine .nil (.seq (.seq (.cond rfl (fun ht81 => ?_) fun ht81 => ?_)))
  ·(try simp only [nz] at ht81); try simp only [nq] at ht81
   have hlt : i < t.elems.length := by omega
   obtain ⟨p, hp⟩ := gx hlt
   obtain ⟨b, off, cs, el, g, md, mate, rfl, ⟨hb, hh⟩, hle, hc⟩ := so he hlt
   have hr := hc i p hp
   obtain ⟨q, rfl, hq⟩ := parts_in hbd (parts_elem hp)
   obtain ⟨a, ha_⟩ := gx hq
   rcases hl with ⟨e0, -⟩ | ⟨bL, offL, csL, elL, gL, mdL, mateL, rfl, ⟨hbL, hhL⟩, hleL, hcL⟩
   ·rw [e0] at hq; simp at hq
   have hra_ := hcL q a ha_
   have hraS := hra_
   obtain ⟨vea, vfa, vaa, hra_, hea, hfa_, haa⟩ := hra_
   have hfi : fnF l t i = (valueB a || (decide (i + 1 = t.elems.length) && decide (a.kind = 0))) := by simp only [fnF, hp]; rw [valAt_get ha_, kindAt_get ha_]
   refine .skip (.seq (.seq (.block (.seq (.region (.P ?_))))))
   refine .K underlying32 sz3 ?_
   refine .M ag3 (.base hh hb (by simp)) (cell_of_take hr (k := 0) rfl) ?_
   refine .P2 ?_
   refine .nil (.seq (.region (.L ag4 ?_)))
   refine .P ?_
   refine .splitB 86 rfl (fun hs_86 => ?_) (fun hs_86 => ?_)
   ·(try simp only [nz] at hs_86); try simp only [nq] at hs_86
    refine .L ag22 ?_
    refine .P ?_
    refine .call _ rfl rfl rfl rfl rfl rfl (fun m hm => value_ok hm.lole (hlS.mono (Mem.kr hm) (RTy.mono (Mem.kr hm))) ha_) ?_
    refine .P ?_
    refine .splitB 90 rfl (fun hs_90 => ?_) (fun hs_90 => ?_)
    ·(try simp only [nz] at hs_90); try simp only [nq] at hs_90
     iterate 11 refine .O ?_
     refine .P2 ?_
     refine .as 103 (.bool (allN (fnF l t) (i + 1))) rfl (congrArg Value.bool (by rw [allN_succ, hfi]; grind [eqI_eq])) ?_
     refine .S sz4 ?_
     refine .nil (.blk (.seq (.region (.P ?_))))
     refine .W 104 i ?_
     refine .P ?_
     refine .nil ?_
     exact .loop (i + 1) hlt (by omega) ⟨rfl, rfl, rfl, rfl, rfl, rfl, trivial⟩ (.refl _)
    (try simp only [nz] at hs_90); try simp only [nq] at hs_90
    iterate 4 refine .P ?_
    refine .splitB 94 rfl (fun hs_94 => ?_) (fun hs_94 => ?_)
    ·(try simp only [nz] at hs_94); try simp only [nq] at hs_94
     refine .L ag22 ?_
     refine .P ?_
     refine .K underlying22 sz50 ?_
     refine .F fa50_0 ?_
     refine .M ag3 (.base hhL hbL (by simp)) (cell_of_take hra_ (k := 0) rfl) ?_
     iterate 4 refine .P ?_
     refine .as 103 (.bool (allN (fnF l t) (i + 1))) rfl (congrArg Value.bool (by rw [allN_succ, hfi]; grind [eqI_eq])) ?_
     refine .S sz4 ?_
     refine .nil (.blk (.seq (.region (.P ?_))))
     refine .W 104 i ?_
     refine .P ?_
     refine .nil ?_
     exact .loop (i + 1) hlt (by omega) ⟨rfl, rfl, rfl, rfl, rfl, rfl, trivial⟩ (.refl _)
    (try simp only [nz] at hs_94); try simp only [nq] at hs_94
    iterate 6 refine .O ?_
    refine .P3 ?_
    refine .as 103 (.bool (allN (fnF l t) (i + 1))) rfl (congrArg Value.bool (by rw [allN_succ, hfi]; grind [eqI_eq])) ?_
    refine .S sz4 ?_
    refine .nil (.blk (.seq (.region (.P ?_))))
    refine .W 104 i ?_
    refine .P ?_
    refine .nil ?_
    exact .loop (i + 1) hlt (by omega) ⟨rfl, rfl, rfl, rfl, rfl, rfl, trivial⟩ (.refl _)
   (try simp only [nz] at hs_86); try simp only [nq] at hs_86
   iterate 16 refine .O ?_
   refine .P ?_
   refine .as 103 (.bool (allN (fnF l t) (i + 1))) rfl (congrArg Value.bool (by rw [allN_succ, hfi]; grind [eqI_eq])) ?_
   refine .S sz4 ?_
   refine .nil (.blk (.seq (.region (.P ?_))))
   refine .W 104 i ?_
   refine .P ?_
   refine .nil ?_
   exact .loop (i + 1) hlt (by omega) ⟨rfl, rfl, rfl, rfl, rfl, rfl, trivial⟩ (.refl _)
  (try simp only [nz] at ht81); try simp only [nq] at ht81
  have hie : i = t.elems.length := by omega
  subst hie
  have hfit := fit_fn (l := l) ht25 ht51 ht71
  refine .exit (.seq (.loop (.here (.blk (.seq (.seq (.seq (.region (.L ag4 ?_)))))))))
  refine .P ?_
  refine .nil (.seq (.cond rfl (fun ht106 => ?_) fun ht106 => ?_))
  ·refine .seq (.region (.P ?_))
   refine .nil (.seq (.ret (.seq ?_)))
   exact .end_ rfl rfl (fun m hm => ⟨congrArg (Value.int .i64) (by rw [hfit]; grind), hm.ext⟩)
  refine .skip (.seq (.seq (.region (.P ?_))))
  refine .nil (.seq (.ret ?_))
  exact .end_ rfl rfl (fun m hm => ⟨congrArg (Value.int .i64) (by rw [hfit]; grind), hm.ext⟩)
 (try simp only [nz] at ht71); try simp only [nq] at ht71
 refine .seq (.region (.E ag50 sz50 ?_))
 refine .calln _ _ _ rfl rfl rfl rfl rfl rfl (fun m hm => parts_ok hm.lole (RTy.mono (Mem.kr hm) _ _ htS)) (fun bt _ => ?_)
 refine .nil (.seq (.block ?_))
 refine .rangeFunc (α := Bool) (vs := pvs t) (K := [b5, b3, b2]) (fun i z => z = allN (partF l t) i) (fun _ => False) (fun z => [(b5, .cells [.bool z] 4 false .plain none), (b3, .cells (cellsOfV (.agg ⟨[.int .i64 t.kind, .slice ae t.elems.length ce, .string t.name, .slice af t.fields.length cf, .slice aa t.arms.length ca]⟩)) 50 false .plain none), (b2, .cells [.slice al l.length cl] 22 false .plain none)]) true rfl rfl (fun _ => rfl) rfl (.cons _ (.refl _)) (fun v hv => by obtain ⟨p, rfl⟩ := pvs_mem hv; exact ⟨rfl, rfl⟩) (fun b => b = bt ∨ b < m.next) (fun m1 hm1 => ⟨parts_iter (rf_new hm1) (heS.mono (rf_mem hm1) fun _ _ h => h) (hfS.mono (rf_mem hm1) fun _ _ h => h) (haS.mono (rf_mem hm1) (RArm.mono (rf_mem hm1))), rf_base hm1 (by simp)⟩) (fun i z v hv hA ll m1 ready busy hll hm1 => ?_) (fun z hA => ?_) (fun z hR => hR.elim)
 ·obtain ⟨p, hp, rfl⟩ := pvs_inv hv
  subst hA
  obtain ⟨q, rfl, hq⟩ := parts_in hbd hp
  obtain ⟨a, ha_⟩ := gx hq
  have hfi : partF l t i = valueB a := by simp only [partF, hp]; rw [valAt_get ha_]
  refine .region (.P ?_)
  refine .nil (.asg rfl (.block (.region (.L ag4 ?_))))
  refine .P ?_
  refine .splitB 20 rfl (fun hs_20 => ?_) (fun hs_20 => ?_)
  ·(try simp only [nz] at hs_20); try simp only [nq] at hs_20
   refine .L ag22 ?_
   refine .P ?_
   refine .call _ rfl rfl rfl rfl rfl rfl (fun m hm => value_ok hm.lole (hlS.mono (Mem.kr2 hm1 hm (by simp)) (RTy.mono (Mem.kr2 hm1 hm (by simp)))) ha_) ?_
   refine .P ?_
   refine .as 24 (.bool (allN (partF l t) (i + 1))) rfl (congrArg Value.bool (by rw [allN_succ, hfi]; grind [eqI_eq])) ?_
   refine .S sz4 ?_
   refine .nil (.blk ?_)
   exact .rnd _ rfl (.refl _)
  (try simp only [nz] at hs_20); try simp only [nq] at hs_20
  iterate 3 refine .O ?_
  refine .P ?_
  refine .as 24 (.bool (allN (partF l t) (i + 1))) rfl (congrArg Value.bool (by rw [allN_succ, hfi]; grind [eqI_eq])) ?_
  refine .S sz4 ?_
  refine .nil (.blk ?_)
  exact .rnd _ rfl (.refl _)
 subst hA
 have hfit := fit_else (l := l) ht25 ht51 ht71
 rw [← pvs_len] at hfit
 refine .blk (.blk (.seq (.seq (.seq (.region (.L ag4 ?_))))))
 refine .P ?_
 refine .nil (.seq (.cond rfl (fun ht106 => ?_) fun ht106 => ?_))
 ·refine .seq (.region (.P ?_))
  refine .nil (.seq (.ret (.seq ?_)))
  exact .end_ rfl rfl (fun m hm => ⟨congrArg (Value.int .i64) (by rw [hfit]; grind), hm.ext⟩)
 refine .skip (.seq (.seq (.region (.P ?_))))
 refine .nil (.seq (.ret ?_))
 exact .end_ rfl rfl (fun m hm => ⟨congrArg (Value.int .i64) (by rw [hfit]; grind), hm.ext⟩)
theorem few_ok {l : List Ty} {v : Value} {m : AW} (hm : m.lo ≤ m.next) (hl : Sl (Mem m) 5 (RTy (Mem m)) l v) : Fc prog 14 [v] m fun v m' => v = .bool (fewB l) ∧ Ext m m' := by
 obtain ⟨a, cap, rfl, hn, hl⟩ := hl
 refine Fc.body (c := _) func14 rfl rfl rfl rfl hm ?_
 refine .seq (.region (.P ?_))
 refine .nil (.seq (.seq (.seq (.region (.P ?_)))))
 refine .G (ln22 ..) ?_
 refine .P ?_
 refine .nil (.seq (.cond rfl (fun hc0 => ?_) fun hc0 => ?_))
 ·try simp only [nz] at hc0
  refine .seq (.region (.P ?_))
  refine .nil (.seq (.ret (.seq ?_)))
  exact .end_ rfl rfl (fun m hm => ⟨congrArg Value.bool (by unfold fewB; rw [decide_eq_false (by omega)]; rfl), hm.ext⟩)
 try simp only [nz] at hc0
 refine .skip (.seq (.seq (.seq (.region (.P ?_)))))
 refine .nil (.seq (.block ?_))
 refine .loop (α := Nat) (fun i => [(0, .slice a l.length cap), (3, .int .i64 (Int.ofNat (i)))]) (fun i => []) (fun i => i ≤ l.length ∧ ∀ (j : Nat) (x : Ty), j < i → l[j]? = some x → fewTB x = true) (fun i => l.length - i) 0 ⟨Nat.zero_le _, fun _ _ h => (by cases h)⟩ ⟨rfl, rfl, trivial⟩ (List.nil_sublist _) (fun i hq => ?_)
 refine .seq (.seq (.region (.P2 ?_)))
 refine .G (ln22 ..) ?_
 refine .P ?_
 refine .nil (.seq (.cond rfl (fun ht12 => ?_) fun ht12 => ?_))
 ·try simp only [nz] at ht12
  have hlt : i < l.length := by omega
  obtain ⟨x, hx⟩ := gx hlt
  obtain ⟨b, off, cs, el, g, md, mate, rfl, ⟨hb, hh⟩, hle, hc⟩ := so hl hlt
  have hr := hc i x hx
  obtain ⟨ve, vf, va, hr, he, hf, ha⟩ := hr
  obtain ⟨ae, ce, rfl, hne, he⟩ := he
  have hfS := hf
  obtain ⟨af, cf, rfl, hnf, hf⟩ := hf
  obtain ⟨aa, ca, rfl, hna, ha⟩ := ha
  refine .skip (.seq (.seq (.block (.seq (.region (.P2 ?_))))))
  refine .K underlying22 sz50 ?_
  refine .A ag50 sz50 (.base hh hb (by simp)) hr ?_
  refine .alloc rfl rfl rfl rfl zr50 (fun b4 hb4 => ?_)
  refine .S sz50 ?_
  refine .nil (.seq (.seq (.seq (.region (.F fa50_1 ?_)))))
  refine .L ag32 ?_
  refine .G (ln32 ..) ?_
  refine .P2 ?_
  refine .splitB 23 rfl (fun hs_23 => ?_) (fun hs_23 => ?_)
  ·try simp only [nz] at hs_23
   iterate 4 refine .O ?_
   refine .P2 ?_
   iterate 4 refine .O ?_
   refine .P2 ?_
   iterate 4 refine .O ?_
   refine .P ?_
   refine .nil (.seq (.cond_true rfl (.seq (.region (.P ?_)))))
   refine .nil (.seq (.ret (.seq (.blk (.seq (.loop (.blk (.seq ?_))))))))
   exact .end_ rfl rfl (fun m hm => ⟨congrArg Value.bool (by first | exact (few_yes (by omega) fun j x hj hx => hq.2 j x (by omega) hx).symm | exact (few_not hx (fewT_arm hy (by unfold fewAB; grind))).symm | exact (few_not hx (by unfold fewTB; grind)).symm), hm.ext⟩)
  try simp only [nz] at hs_23
  refine .F fa50_4 ?_
  refine .L ag48 ?_
  refine .G (ln48 ..) ?_
  refine .P3 ?_
  refine .splitB 29 rfl (fun hs_29 => ?_) (fun hs_29 => ?_)
  ·try simp only [nz] at hs_29
   iterate 4 refine .O ?_
   refine .P2 ?_
   iterate 4 refine .O ?_
   refine .P ?_
   refine .nil (.seq (.cond_true rfl (.seq (.region (.P ?_)))))
   refine .nil (.seq (.ret (.seq (.blk (.seq (.loop (.blk (.seq ?_))))))))
   exact .end_ rfl rfl (fun m hm => ⟨congrArg Value.bool (by first | exact (few_yes (by omega) fun j x hj hx => hq.2 j x (by omega) hx).symm | exact (few_not hx (fewT_arm hy (by unfold fewAB; grind))).symm | exact (few_not hx (by unfold fewTB; grind)).symm), hm.ext⟩)
  try simp only [nz] at hs_29
  refine .F fa50_2 ?_
  refine .L ag9 ?_
  refine .G (ln9 ..) ?_
  refine .P3 ?_
  refine .splitB 35 rfl (fun hs_35 => ?_) (fun hs_35 => ?_)
  ·try simp only [nz] at hs_35
   iterate 4 refine .O ?_
   refine .P ?_
   refine .nil (.seq (.cond_true rfl (.seq (.region (.P ?_)))))
   refine .nil (.seq (.ret (.seq (.blk (.seq (.loop (.blk (.seq ?_))))))))
   exact .end_ rfl rfl (fun m hm => ⟨congrArg Value.bool (by first | exact (few_yes (by omega) fun j x hj hx => hq.2 j x (by omega) hx).symm | exact (few_not hx (fewT_arm hy (by unfold fewAB; grind))).symm | exact (few_not hx (by unfold fewTB; grind)).symm), hm.ext⟩)
  try simp only [nz] at hs_35
  refine .F fa50_3 ?_
  refine .L ag47 ?_
  refine .call _ rfl rfl rfl rfl rfl rfl (fun m hm => short_ok hm.lole (hfS.mono (Mem.kr hm) fun _ _ h => h)) ?_
  refine .P2 ?_
  refine .nil (.seq (.cond rfl (fun ht40 => ?_) fun ht40 => ?_))
  ·try simp only [nz] at ht40
   refine .seq (.region (.P ?_))
   refine .nil (.seq (.ret (.seq (.blk (.seq (.loop (.blk (.seq ?_))))))))
   exact .end_ rfl rfl (fun m hm => ⟨congrArg Value.bool (by first | exact (few_yes (by omega) fun j x hj hx => hq.2 j x (by omega) hx).symm | exact (few_not hx (fewT_arm hy (by unfold fewAB; grind))).symm | exact (few_not hx (by unfold fewTB; grind)).symm), hm.ext⟩)
  try simp only [nz] at ht40
  refine .skip (.seq (.seq (.region (.P ?_))))
  refine .nil (.seq (.block ?_))
  refine .loop (α := Nat) (fun k => [(0, .slice (some ⟨b, off, none⟩) l.length cap), (3, .int .i64 (Int.ofNat (i))), (4, .pointer (some ⟨b4, 0, none⟩)), (5, .int .i64 (Int.ofNat (k)))]) (fun k => [(b4, .cells [.int .i64 x.kind, .slice ae x.elems.length ce, .string x.name, .slice af x.fields.length cf, .slice aa x.arms.length ca] 50 false .plain none)]) (fun k => k ≤ x.arms.length ∧ ∀ (j : Nat) (y : Arm), j < k → x.arms[j]? = some y → fewAB y = true) (fun k => x.arms.length - k) 0 ⟨Nat.zero_le _, fun _ _ h => (by cases h)⟩ ⟨rfl, rfl, rfl, rfl, trivial⟩ (.refl _) (fun k hj => ?_)
  refine .seq (.seq (.region (.P ?_)))
  refine .F fa50_4 ?_
  refine .L ag48 ?_
  refine .G (ln48 ..) ?_
  refine .P ?_
  refine .nil (.seq (.cond rfl (fun ht45 => ?_) fun ht45 => ?_))
  ·try simp only [nz] at ht45
   have hlt2 : k < x.arms.length := by omega
   obtain ⟨y, hy⟩ := gx hlt2
   obtain ⟨b2, off2, cs2, el2, g2, md2, mate2, rfl, ⟨hb2, hh2⟩, hle2, hc2⟩ := so ha hlt2
   have hry := hc2 k y hy
   obtain ⟨vy, hry, hyf⟩ := hry
   refine .skip (.seq (.seq (.block (.seq (.region (.F fa50_4 ?_))))))
   refine .L ag48 ?_
   refine .P ?_
   refine .K underlying48 sz55 ?_
   refine .F fa55_0 ?_
   refine .M ag9 (.base hh2 hb2 (by simp)) (cell_of_take hry (k := 0) rfl) ?_
   refine .G (ln9 ..) ?_
   refine .P2 ?_
   refine .splitB 56 rfl (fun hs_56 => ?_) (fun hs_56 => ?_)
   ·try simp only [nz] at hs_56
    iterate 8 refine .O ?_
    refine .P ?_
    refine .nil (.seq (.cond_true rfl (.seq (.region (.P ?_)))))
    refine .nil (.seq (.ret (.blk (.seq (.loop (.blk (.blk (.seq (.loop (.blk (.seq ?_)))))))))))
    exact .end_ rfl rfl (fun m hm => ⟨congrArg Value.bool (by first | exact (few_yes (by omega) fun j x hj hx => hq.2 j x (by omega) hx).symm | exact (few_not hx (fewT_arm hy (by unfold fewAB; grind))).symm | exact (few_not hx (by unfold fewTB; grind)).symm), hm.ext⟩)
   try simp only [nz] at hs_56
   refine .F fa50_4 ?_
   refine .L ag48 ?_
   refine .P ?_
   refine .K underlying48 sz55 ?_
   refine .F fa55_1 ?_
   refine .M ag47 (.base hh2 hb2 (by simp)) (cell_of_take hry (k := 1) rfl) ?_
   refine .call _ rfl rfl rfl rfl rfl rfl (fun m hm => short_ok hm.lole (hyf.mono (Mem.kr hm) fun _ _ h => h)) ?_
   refine .P2 ?_
   refine .nil (.seq (.cond rfl (fun ht65 => ?_) fun ht65 => ?_))
   ·try simp only [nz] at ht65
    refine .seq (.region (.P ?_))
    refine .nil (.seq (.ret (.blk (.seq (.loop (.blk (.blk (.seq (.loop (.blk (.seq ?_)))))))))))
    exact .end_ rfl rfl (fun m hm => ⟨congrArg Value.bool (by first | exact (few_yes (by omega) fun j x hj hx => hq.2 j x (by omega) hx).symm | exact (few_not hx (fewT_arm hy (by unfold fewAB; grind))).symm | exact (few_not hx (by unfold fewTB; grind)).symm), hm.ext⟩)
   try simp only [nz] at ht65
   refine .skip (.blk (.seq (.region (.P2 ?_))))
   refine .W 47 k ?_
   refine .P ?_
   refine .nil ?_
   exact .loop (k + 1) ⟨hlt2, upto_succ hj.2 hy (by unfold fewAB; grind)⟩ (by omega) ⟨rfl, rfl, rfl, rfl, trivial⟩ (.refl _)
  try simp only [nz] at ht45
  refine .exit (.seq (.loop (.here (.blk (.seq (.region (.P2 ?_)))))))
  refine .W 14 i ?_
  refine .P ?_
  refine .nil ?_
  exact .loop (i + 1) ⟨hlt, upto_succ hq.2 hx (fewT_yes (by omega) (by assumption) fun j y hj_ hy => hj.2 j y (by omega) hy)⟩ (by omega) ⟨rfl, rfl, trivial⟩ (List.nil_sublist _)
 try simp only [nz] at ht12
 refine .exit (.seq (.loop (.here (.seq (.seq (.region (.P ?_)))))))
 refine .nil (.seq (.ret ?_))
 exact .end_ rfl rfl (fun m hm => ⟨congrArg Value.bool (by first | exact (few_yes (by omega) fun j x hj hx => hq.2 j x (by omega) hx).symm | exact (few_not hx (fewT_arm hy (by unfold fewAB; grind))).symm | exact (few_not hx (by unfold fewTB; grind)).symm), hm.ext⟩)
theorem visit_step {l : List Ty} {al : Option Addr} {cl bs bl bv bb t : Nat} {st : List Int} {m : AW} (hm : m.lo ≤ m.next) (hk : Knows [bb] m m [(bb, .cells (ints st) 3 false .plain none)]) (hp : VisPre l al cl bs bl bv bb m) (hv : VisSt l st t) (hwl : ∀ (i : Nat) (a : Ty), l[i]? = some a → FewT a) (hbd : ∀ (i : Nat) (a : Ty), l[i]? = some a → badB l.length a = false) (ih : ∀ (st2 : List Int) (t2 : Nat) (m2 : AW), white st2 < white st → m2.lo ≤ m2.next → Knows [bb] m2 m2 [(bb, .cells (ints st2) 3 false .plain none)] → VisPre l al cl bs bl bv bb m2 → VisSt l st2 t2 → Fc prog 98 [.int .i64 (Int.ofNat t2), ptr bs, ptr bl, ptr bv] m2 fun v m' => ∃ z : Bool × List Int, VisA l st2 t2 z ∧ v = .bool z.1 ∧ Knows [bb] m2 m' [(bb, .cells (ints z.2) 3 false .plain none)]) : Fc prog 98 [.int .i64 (Int.ofNat t), ptr bs, ptr bl, ptr bv] m fun v m' => ∃ z : Bool × List Int, VisA l st t z ∧ v = .bool z.1 ∧ Knows [bb] m m' [(bb, .cells (ints z.2) 3 false .plain none)] := by
 obtain ⟨hbs, hbl, hbv, hlS⟩ := hp
 have hlS0 := hlS
 obtain ⟨a_, cap_, he_, hnl, hl⟩ := hlS
 cases he_
 have hts : t < st.length := by rw [hv.len]; exact hv.ht
 obtain ⟨s, hs⟩ : ∃ s, st[t]? = some s := ⟨_, List.getElem?_eq_getElem hts⟩
 have hlt := hv.ht
 obtain ⟨a, ha⟩ := gx hlt
 obtain ⟨b, off, cs, el, g, md, mate, rfl, ⟨hb, hh⟩, hle, hc⟩ := so hl hlt
 have hr := hc t a ha
 obtain ⟨ve, vf, va, hr, he, hf, hga⟩ := hr
 have hraS : RTy (Off [bb] m) a [.int .i64 a.kind, ve, .string a.name, vf, va] := ⟨ve, vf, va, rfl, he, hf, hga⟩
 have hw := hwl t a ha
 have hba := hbd t a ha
 refine Fc.bodyS (S := [bb]) (c := _) func98 rfl rfl rfl rfl hk ?_
 refine .seq (.region ?_)
 refine .alloc rfl rfl rfl rfl zr4 (fun b5 hb5 => ?_)
 refine .nil (.seq (.seq (.seq (.region ?_))))
 refine .M ag32 (Off.sees rfl rfl _ _ hbs) rfl ?_
 refine .P ?_
 refine .indexAddr rfl rfl rfl rfl underlying32 sz3 rfl rfl (hv.ht) ?_
 refine .load rfl rfl rfl rfl rfl ag3 (by repeat first | exact .head | exact .app .head | exact .base ‹_› ‹_› (by simp) | refine .tail ?_ | refine .app ?_) (map_cell hs) ?_
 refine .P ?_
 refine .nil (.seq (.cond rfl (fun ht11 => ?_) fun ht11 => ?_))
 ·try simp only [nz] at ht11
  have hne : s ≠ 0 := by omega
  refine .seq (.region ?_)
  refine .M ag32 (Off.sees rfl rfl _ _ hbs) rfl ?_
  refine .P ?_
  refine .indexAddr rfl rfl rfl rfl underlying32 sz3 rfl rfl (hv.ht) ?_
  refine .load rfl rfl rfl rfl rfl ag3 (by repeat first | exact .head | exact .app .head | exact .base ‹_› ‹_› (by simp) | refine .tail ?_ | refine .app ?_) (map_cell hs) ?_
  refine .P ?_
  refine .S sz4 ?_
  refine .nil (.seq (.ret (.seq ?_)))
  refine .endH rfl (.cell rfl ag4 (by repeat first | exact .head | exact .app .head | exact .base ‹_› ‹_› (by simp) | refine .tail ?_ | refine .app ?_) rfl .nil) ?_
  exact fun m hm => ⟨(_, st), VisA.seen hv hs hne, congrArg Value.bool (by rw [eqI_eq]), hm.sub (.cons _ (.refl _))⟩
 try simp only [nz] at ht11
 have hs0 : s = 0 := by omega
 subst hs0
 have hV0 := VIn.zero (a := a) hv hs
 refine .skip (.seq (.seq (.region ?_)))
 refine .M ag32 (Off.sees rfl rfl _ _ hbs) rfl ?_
 refine .P ?_
 refine .indexAddr rfl rfl rfl rfl underlying32 sz3 rfl rfl (hv.ht) ?_
 refine .storeAt int_plain (st := st) (i := t) (x := 1) hts (.tail .one) rfl rfl rfl rfl sz3 rfl rfl ?_
 refine .nil (.seq (.seq (.seq (.region ?_))))
 refine .M ag22 (Off.sees rfl rfl _ _ hbl) rfl ?_
 refine .P ?_
 refine .indexAddr rfl rfl rfl rfl underlying22 sz50 rfl rfl (hv.ht) ?_
 refine .F fa50_0 ?_
 refine .M ag3 (Off.sees rfl rfl _ _ ⟨hb, hh⟩) (cell_of_take hr (k := 0) rfl) ?_
 refine .P ?_
 refine .nil (.seq (.cond rfl (fun ht25 => ?_) fun ht25 => ?_))
 ·try simp only [nz] at ht25
  have h9 : a.kind ≠ 9 := by omega
  refine .seq (.region ?_)
  refine .M ag22 (Off.sees rfl rfl _ _ hbl) rfl ?_
  refine .P ?_
  refine .indexAddr rfl rfl rfl rfl underlying22 sz50 rfl rfl (hv.ht) ?_
  refine .A ag50 sz50 (Off.sees rfl rfl _ _ ⟨hb, hh⟩) hr ?_
  refine .calln _ _ _ rfl rfl rfl rfl rfl rfl (fun m hm => parts_ok hm.lole (RTy.mono (fun b o h => Off.mem b o (Off.kr hm b o h)) _ _ hraS)) (fun bt _ => ?_)
  refine .nil (.seq (.block ?_))
  refine .rangeFunc (α := Bool × List Int) (vs := pvs a) (K := [bb, b5]) (fun i z => z.1 = false ∧ VIn l (st.set t 1) a i z.2) (fun z => z.1 = true ∧ Cyc l) (fun z => [(bb, .cells (ints z.2) 3 false .plain none), (b5, .cells [.bool z.1] 4 false .plain none)]) (false, st.set t 1) rfl rfl (fun _ => rfl) ⟨rfl, hV0⟩ (.cons _ (.refl _)) (fun v hv => by obtain ⟨p, rfl⟩ := pvs_mem hv; exact ⟨rfl, rfl⟩) (fun b => b = bt ∨ b < m.next ∧ b ∉ [bb]) (fun m1 hm1 => ⟨parts_iter (rf_newS hm1) (he.mono (rf_memS hm1) fun _ _ h => h) (hf.mono (rf_memS hm1) fun _ _ h => h) (hga.mono (rf_memS hm1) (RArm.mono (rf_memS hm1))), rf_baseS hm1 (by simp)⟩) (fun i z v hv0 hA ll m1 ready busy hll hm1 => ?_) (fun z hA => ?_) (fun z hR => ?_)
  ·obtain ⟨p, hp, rfl⟩ := pvs_inv hv0
   obtain ⟨zb, st2⟩ := z
   obtain ⟨hz1, hV⟩ := hA
   simp only at hz1 hV
   subst hz1
   obtain ⟨q, rfl, hq⟩ := parts_in hba hp
   refine .region (.P ?_)
   refine .nil (.asg rfl (.block (.seq (.region ?_))))
   refine .M ag96 (Off.sees rfl rfl _ _ (Off.into hm1 (by intro b hb; simpa using hb) _ _ hbv)) rfl ?_
   refine .P ?_
   refine .callc (fun z => VisA l st2 q z) (fun z => .bool z.1) (fun z => [(bb, .cells (ints z.2) 3 false .plain none)]) (.tail .one) rfl rfl rfl rfl rfl rfl (fun m2 g1 g2 => ih st2 q m2 (hV.less hv hs) g1.lole' g2 (VisPre.mono ⟨hbs, hbl, hbv, hlS0⟩ (Off.kr2 hm1 g1.kr (by intro b hb; simpa using hb))) (hV.st hv hs ha h9 hq hp)) (fun z hz => ?_)
   refine .nil (.seq (.cond rfl (fun ht34 => ?_) fun ht34 => ?_))
   ·have hcy := hz.1 ht34
    refine .seq (.region (.S sz4 ?_))
    refine .nil (.seq (.ret (.blk ?_)))
    refine .swap (.swap _ _ _) ?_
    exact .rnd (true, z.2) ⟨rfl, hcy⟩ (.refl _)
   have hV := hV.succ hp hz ht34
   refine .skip (.blk ?_)
   refine .swap (.swap _ _ _) ?_
   exact .rnd (false, z.2) ⟨rfl, hV⟩ (.refl _)
  ·obtain ⟨zb, st2⟩ := z
   obtain ⟨hz1, hV⟩ := hA
   simp only at hz1 hV
   subst hz1
   have hlt2 : t < st2.length := by rw [hV.vis.len, List.length_set]; exact hts
   have hfin := hV.fin hv hs ha (.inr (by rw [pvs_len]; exact Nat.le_refl _)) hba
   refine .blk (.seq (.seq (.region ?_)))
   refine .M ag32 (Off.sees rfl rfl _ _ hbs) rfl ?_
   refine .P ?_
   refine .indexAddr rfl rfl rfl rfl underlying32 sz3 rfl rfl (hv.ht) ?_
   refine .storeAt int_plain (st := _) (i := t) (x := 2) hlt2 .one rfl rfl rfl rfl sz3 rfl rfl ?_
   refine .nil (.seq (.seq (.region (.S sz4 ?_))))
   refine .nil (.seq (.ret ?_))
   refine .endH rfl (.cell rfl ag4 (by repeat first | exact .head | exact .app .head | exact .base ‹_› ‹_› (by simp) | refine .tail ?_ | refine .app ?_) rfl .nil) ?_
   exact fun m hm => ⟨(false, _), hfin, rfl, hm.sub (.cons_cons _ (List.nil_sublist _))⟩
  obtain ⟨zb, st2⟩ := z
  obtain ⟨hz1, hcy⟩ := hR
  simp only at hz1
  subst hz1
  refine .blk (.seq ?_)
  refine .endH rfl (.cell rfl ag4 (by repeat first | exact .head | exact .app .head | exact .base ‹_› ‹_› (by simp) | refine .tail ?_ | refine .app ?_) rfl .nil) ?_
  exact fun m hm => ⟨(true, _), VisA.cyc hcy, rfl, hm.sub (.cons_cons _ (List.nil_sublist _))⟩
 try simp only [nz] at ht25
 have hlt2 : t < (st.set t 1).length := by rw [List.length_set]; exact hts
 have hfin := hV0.fin hv hs ha (.inl (by omega)) hba
 refine .skip (.seq (.seq (.region ?_)))
 refine .M ag32 (Off.sees rfl rfl _ _ hbs) rfl ?_
 refine .P ?_
 refine .indexAddr rfl rfl rfl rfl underlying32 sz3 rfl rfl (hv.ht) ?_
 refine .storeAt int_plain (st := _) (i := t) (x := 2) hlt2 .one rfl rfl rfl rfl sz3 rfl rfl ?_
 refine .nil (.seq (.seq (.region (.S sz4 ?_))))
 refine .nil (.seq (.ret ?_))
 refine .endH rfl (.cell rfl ag4 (by repeat first | exact .head | exact .app .head | exact .base ‹_› ‹_› (by simp) | refine .tail ?_ | refine .app ?_) rfl .nil) ?_
 exact fun m hm => ⟨(false, _), hfin, rfl, hm.sub (.cons_cons _ (List.nil_sublist _))⟩
theorem visit_ok {l : List Ty} {al : Option Addr} {cl bs bl bv bb : Nat} (hwl : ∀ (i : Nat) (a : Ty), l[i]? = some a → FewT a) (hbd : ∀ (i : Nat) (a : Ty), l[i]? = some a → badB l.length a = false) : ∀ (n : Nat) (st : List Int) (t : Nat) (m : AW), white st < n → m.lo ≤ m.next → Knows [bb] m m [(bb, .cells (ints st) 3 false .plain none)] → VisPre l al cl bs bl bv bb m → VisSt l st t → Fc prog 98 [.int .i64 (Int.ofNat t), ptr bs, ptr bl, ptr bv] m fun v m' => ∃ z : Bool × List Int, VisA l st t z ∧ v = .bool z.1 ∧ Knows [bb] m m' [(bb, .cells (ints z.2) 3 false .plain none)]
 | 0, _, _, _, h, _, _, _, _ => absurd h (Nat.not_lt_zero _)
 | n + 1, st, t, m, hw, hm, hk, hp, hv => visit_step hm hk hp hv hwl hbd fun st2 t2 m2 h2 hm2 hk2 hp2 hv2 => visit_ok hwl hbd n st2 t2 m2 (by omega) hm2 hk2 hp2 hv2
theorem mkInts_b : (match prog.info? 3 with | some i => Nat.ble i.bytes 65536 | none => false) = true := by kernel_rfl
theorem mkInts {n : Nat} (hn : n ≤ 14) : makeSliceA prog 32 (some (Int.ofNat n)) (some (Int.ofNat n)) = some (.cells ((List.replicate n (0 : Int)).map (Value.int .i64)) 3 false .plain none, sliceTo n n) := by
 have h := mkInts_b
 cases hi : prog.info? 3 with
 | none => rw [hi] at h; cases h
 | some i =>
  rw [hi] at h
  rw [makeSliceA_n (el := 3) (z := .int .i64 0) (i := i) underlying32 sz3 hi zr3 rfl h (by omega), List.map_replicate]
  rfl
theorem circular_ok {l : List Ty} {vl : Value} {m : AW} (hm : m.lo ≤ m.next) (hlS : Sl (Mem m) 5 (RTy (Mem m)) l vl) (hwl : ∀ (i : Nat) (a : Ty), l[i]? = some a → FewT a) (hbd : ∀ (i : Nat) (a : Ty), l[i]? = some a → badB l.length a = false) (hn14 : l.length ≤ 14) : Fc prog 53 [vl] m fun v m' => ∃ c : Bool, CircA l c ∧ v = .bool c ∧ Ext m m' ∧ News m m' [] := by
 have hlS0 := hlS
 obtain ⟨al, cl, rfl, hnl, hl⟩ := hlS
 refine Fc.body (c := _) func53 rfl rfl rfl rfl hm ?_
 refine .seq (.region ?_)
 refine .box rfl rfl rfl rfl rfl (fun b1 hb1 => ?_)
 refine .P ?_
 refine .nil (.seq (.seq (.region (.L ag22 ?_))))
 refine .G (ln22 ..) ?_
 refine .makeSlice (el := 3) (mkInts hn14) rfl rfl rfl rfl rfl rfl (fun b8 hb8 => ?_)
 refine .alloc rfl rfl rfl rfl zr32 (fun b3 hb3 => ?_)
 refine .S sz32 ?_
 refine .nil (.seq (.seq (.region ?_)))
 refine .alloc rfl rfl rfl rfl zr96 (fun b4 hb4 => ?_)
 refine .nil (.seq (.seq (.region ?_)))
 refine .p (v := .func (.func 98) ⟨[]⟩ ⟨[ptr b3, ptr b1, ptr b4]⟩) rfl rfl rfl rfl ?_
 refine .S sz96 ?_
 refine .nil (.seq (.seq (.seq (.region (.L ag22 ?_)))))
 refine .G (ln22 ..) ?_
 refine .P ?_
 refine .nil (.seq (.block ?_))
 refine .swap (Pick.perm (.tail (.tail .one))) (.loop (α := Nat × List Int) (fun q => [(4, ptr b4), (11, .int .i64 (Int.ofNat (l.length))), (12, .int .i64 (Int.ofNat (q.1)))]) (fun q => [(b8, .cells (ints q.2) 3 false .plain none), (b4, .cells [.func (.func 98) ⟨[]⟩ ⟨[ptr b3, ptr b1, ptr b4]⟩] 96 false .plain none), (b3, .cells [.slice (some ⟨b8, 0, none⟩) l.length l.length] 32 false .plain none), (b1, .cells [.slice al l.length cl] 22 false .plain none)]) (fun q => q.1 ≤ l.length ∧ VAll l q.2 q.1) (fun q => l.length - q.1) (0, List.replicate l.length 0) ⟨Nat.zero_le _, VAll.zero l⟩ ⟨rfl, rfl, rfl, trivial⟩ (.refl _) (fun q hq0 => ?_))
 obtain ⟨i, st⟩ := q
 obtain ⟨hi, hV⟩ := hq0
 simp only at hi hV
 refine .seq (.region (.P ?_))
 refine .nil (.seq (.seq (.cond rfl (fun ht13 => ?_) fun ht13 => ?_)))
 ·try simp only [nz] at ht13
  refine .skip (.seq (.seq (.block (.seq (.region (.P2 ?_))))))
  refine .nil (.seq (.seq (.region (.L ag96 ?_))))
  refine .P ?_
  refine .callc (fun z => VisA l st i z) (fun z => .bool z.1) (fun z => [(b8, .cells (ints z.2) 3 false .plain none)]) .one rfl rfl rfl rfl rfl rfl (fun m2 g1 g2 => visit_ok hwl hbd (white st + 1) st i m2 (Nat.lt_succ_self _) g1.lole' g2 ⟨Off.known g1 (.tail _ (.head _)), Off.known g1 (.tail _ (.tail _ (.head _))), Off.known g1 (.head _), hlS0.mono (Off.old g1) (RTy.mono (Off.old g1))⟩ (hV.st (by omega))) (fun z hz => ?_)
  refine .nil (.seq (.cond rfl (fun ht17 => ?_) fun ht17 => ?_))
  ·refine .seq (.region (.P ?_))
   refine .nil (.seq (.ret (.blk (.seq (.loop (.blk (.seq ?_)))))))
   exact .end_ rfl rfl (fun m hm => ⟨true, ⟨fun _ => hz.1 ht17, fun e => (by cases e)⟩, rfl, hm.ext, News.nil _ _⟩)
  refine .skip (.blk (.seq (.region (.P ?_))))
  refine .W 18 i ?_
  refine .P ?_
  refine .nil ?_
  exact .loop (i + 1, z.2) ⟨by omega, hV.succ hz ht17⟩ (by show l.length - (i + 1) < l.length - i; omega) ⟨rfl, rfl, rfl, trivial⟩ (.refl _)
 try simp only [nz] at ht13
 refine .exit (.seq (.loop (.here (.seq (.seq (.region (.P ?_)))))))
 refine .nil (.seq (.ret ?_))
 exact .end_ rfl rfl (fun m hm => ⟨false, ⟨fun e => (by cases e), fun _ => hV.ranked (by omega)⟩, rfl, hm.ext, News.nil _ _⟩)
theorem sfields_ok {l : List Ty} {al : Option Addr} {cl bs bm : Nat} {sz : List Int} {x0 : List MapEntry × Nat} {L : List Fld} {vf : Value} {m : AW} (hm : m.lo ≤ m.next) (hk : Knows [bm] m m (MapC bm x0)) (hM : MapA sz x0) (hp : SzPre l al cl bs bm m) (hwl : ∀ (i : Nat) (a : Ty), l[i]? = some a → FewT a) (hbd : ∀ (i : Nat) (a : Ty), l[i]? = some a → badB l.length a = false) (hz : SzFix l sz) (hf : Sl (Off [bm] m) 2 RFld L vf) (hL : ∀ (j : Nat) (x : Fld), L[j]? = some x → ∃ q : Nat, x.type = Int.ofNat q ∧ q < l.length ∧ SizeC prog l al cl bs bm sz q) : Fc prog 75 [ptr bs, vf] m fun v m' => SzQ sz bm (sumF sz L) m v m' := by
 obtain ⟨af, cf, rfl, hnf, hf⟩ := hf
 refine Fc.bodyS (S := [bm]) (c := _) func75 rfl rfl rfl rfl hk ?_
 refine .seq (.region (.P ?_))
 refine .nil (.seq (.seq (.region (.P ?_))))
 refine .nil (.seq (.seq (.seq (.region (.P ?_)))))
 refine .G (ln47 ..) ?_
 refine .P ?_
 refine .nil (.seq (.block ?_))
 refine .loop (α := Nat × List MapEntry × Nat) (fun q => [(0, ptr bs), (5, .int .i64 (sumF sz (L.take q.1))), (8, .slice af L.length cf), (9, .int .i64 (Int.ofNat (L.length))), (10, .int .i64 (Int.ofNat (q.1)))]) (fun q => [(bm, .map q.2.1 q.2.2)]) (fun q => q.1 ≤ L.length ∧ MapA sz q.2 ∧ True) (fun q => L.length - q.1) (0, x0) ⟨Nat.zero_le _, hM, trivial⟩ ⟨rfl, rfl, rfl, rfl, rfl, trivial⟩ (.refl _) (fun q hq0 => ?_)
 obtain ⟨i, x1⟩ := q
 obtain ⟨hi, hM1, hI⟩ := hq0
 simp only at hi hM1 hI
 refine .seq (.region (.P ?_))
 refine .nil (.seq (.seq (.cond rfl (fun ht11 => ?_) fun ht11 => ?_)))
 ·try simp only [nz] at ht11
  have hlt : i < L.length := by omega
  obtain ⟨x, hx⟩ := gx hlt
  obtain ⟨b, off, cs, el, g, md, mate, rfl, ⟨hb, hh⟩, hle, hc⟩ := so hf hlt
  have hr := hc i x hx
  obtain ⟨q, hq0, hq, hsc⟩ := hL i x hx
  have hr1 := sumF_range hz.ok (L.take i)
  have hr2 := szAt_range hz.ok (Int.ofNat q)
  refine .skip (.seq (.seq (.block (.seq (.region (.K underlying47 sz132 ?_))))))
  refine .A ag132 sz132 (Off.sees rfl rfl _ _ ⟨hb, hh⟩) hr ?_
  refine .alloc rfl rfl rfl rfl zr132 (fun b7 hb7 => ?_)
  refine .S sz132 ?_
  refine .nil (.seq (.region (.P2 ?_)))
  refine .F fa132_1 ?_
  refine .L ag3 ?_
  refine .as 17 (.int .i64 (Int.ofNat q)) rfl (congrArg (Value.int .i64) hq0) ?_
  refine .callc (fun z => MapA sz z) (fun _ => .int .i64 (szAt sz (Int.ofNat q))) (fun z => [(bm, .map z.1 z.2)]) (.tail .one) rfl rfl rfl rfl rfl rfl (fun m2 g1 g2 => hsc m2 _ g1.lole' g2 hM1 (hp.mono (Off.kr g1.kr))) (fun y hy => ?_)
  refine .P ?_
  refine .as 19 (.int .i64 (sumF sz (L.take i) + szAt sz (Int.ofNat q))) rfl (congrArg (Value.int .i64) (wr_small (by show (0 : Int) ≤ sumF sz (L.take i) + szAt sz (Int.ofNat q); omega) (by show sumF sz (L.take i) + szAt sz (Int.ofNat q) ≤ 1000000; omega))) ?_
  refine .min rfl rfl rfl rfl rfl rfl ?_
  refine .as 20 (.int .i64 (sumF sz (L.take (i + 1)))) rfl (congrArg (Value.int .i64) (by rw [sumF_succ hx, hq0]; rfl)) ?_
  refine .P ?_
  refine .nil (.blk (.seq (.region (.P ?_))))
  refine .W 21 i ?_
  refine .P ?_
  refine .nil ?_
  exact .loop (i + 1, _) ⟨by omega, hy, trivial⟩ (by show L.length - (i + 1) < L.length - i; omega) ⟨rfl, rfl, rfl, rfl, rfl, trivial⟩ (.cons_cons _ (List.nil_sublist _))
 try simp only [nz] at ht11
 refine .exit (.seq (.loop (.here (.seq (.seq (.region (.P2 ?_)))))))
 refine .nil (.seq (.ret ?_))
 exact .end_ rfl rfl (fun m hm => ⟨x1, hM1, congrArg (Value.int .i64) (by rw [List.take_of_length_le (by omega)]), hm⟩)
theorem srecord_ok {l : List Ty} {al : Option Addr} {cl bs bm : Nat} {sz : List Int} {x0 : List MapEntry × Nat} {L : List Fld} {vf : Value} {t : Ty} {cs : List Value} {m : AW} (hm : m.lo ≤ m.next) (hk : Knows [bm] m m (MapC bm x0)) (hM : MapA sz x0) (hp : SzPre l al cl bs bm m) (hwl : ∀ (i : Nat) (a : Ty), l[i]? = some a → FewT a) (hbd : ∀ (i : Nat) (a : Ty), l[i]? = some a → badB l.length a = false) (hz : SzFix l sz) (ht : RTy (Off [bm] m) t cs) (hf : Sl (Off [bm] m) 2 RFld L vf) (hL : ∀ (j : Nat) (x : Fld), L[j]? = some x → ∃ q : Nat, x.type = Int.ofNat q ∧ q < l.length ∧ SizeC prog l al cl bs bm sz q) : Fc prog 99 [ptr bs, .agg ⟨cs⟩, vf] m fun v m' => SzQ sz bm (recS sz t L) m v m' := by
 obtain ⟨ve, vg, va, rfl, he, hg, ha⟩ := ht
 obtain ⟨aa, ca, rfl, hna, ha⟩ := ha
 have hr1 := sumF_range hz.ok L
 refine Fc.bodyS (S := [bm]) (c := _) func99 rfl rfl rfl rfl hk ?_
 refine .seq (.region ?_)
 refine .box rfl rfl rfl rfl rfl (fun b4 hb4 => ?_)
 refine .P ?_
 refine .nil (.seq (.seq (.region (.P2 ?_))))
 refine .callc (fun z => MapA sz z) (fun _ => .int .i64 (sumF sz L)) (fun z => [(bm, .map z.1 z.2)]) (.tail .one) rfl rfl rfl rfl rfl rfl (fun m2 g1 g2 => sfields_ok g1.lole' g2 hM (hp.mono (Off.kr g1.kr)) hwl hbd hz (hf.mono (Off.kr g1.kr) fun _ _ h => h) hL) (fun y hy => ?_)
 refine .P ?_
 refine .nil (.seq (.seq (.seq (.region (.F fa50_4 ?_)))))
 refine .L ag48 ?_
 refine .G (ln48 ..) ?_
 refine .P ?_
 refine .nil (.seq (.cond rfl (fun ht14 => ?_) fun ht14 => ?_))
 ·try simp only [nz] at ht14
  have hrec : recS sz t L = cap257 (sumF sz L + 1) := by unfold recS; rw [if_pos (by omega)]
  refine .region (.P2 ?_)
  refine .as 16 (.int .i64 (sumF sz L + 1)) rfl (congrArg (Value.int .i64) (wr_small (by omega) (by omega))) ?_
  refine .min rfl rfl rfl rfl rfl rfl (.P ?_)
  refine .nil (.seq (.seq (.region (.P2 ?_))))
  refine .nil (.seq (.ret ?_))
  exact .end_ rfl rfl (fun m hm => ⟨y, hy, congrArg (Value.int .i64) (by rw [hrec] <;> rfl), hm.sub (.cons_cons _ (List.nil_sublist _))⟩)
 try simp only [nz] at ht14
 have hrec : recS sz t L = sumF sz L := by unfold recS; rw [if_neg (by omega)]
 refine .skip (.seq (.seq (.region (.P2 ?_))))
 refine .nil (.seq (.ret ?_))
 exact .end_ rfl rfl (fun m hm => ⟨y, hy, congrArg (Value.int .i64) (by rw [hrec] <;> rfl), hm.sub (.cons_cons _ (List.nil_sublist _))⟩)
theorem ssize_step {l : List Ty} {al : Option Addr} {cl bs bm : Nat} {sz : List Int} {x0 : List MapEntry × Nat} {t : Nat} {r : Nat → Nat} {m : AW} (hm : m.lo ≤ m.next) (hk : Knows [bm] m m (MapC bm x0)) (hM : MapA sz x0) (hp : SzPre l al cl bs bm m) (hwl : ∀ (i : Nat) (a : Ty), l[i]? = some a → FewT a) (hbd : ∀ (i : Nat) (a : Ty), l[i]? = some a → badB l.length a = false) (hz : SzFix l sz) (hr0 : Ranked l r) (hlt : t < l.length) (ih : ∀ t2, r t2 < r t → t2 < l.length → SizeC prog l al cl bs bm sz t2) : Fc prog 74 [ptr bs, .int .i64 (Int.ofNat (t))] m fun v m' => SzQ sz bm (szAt sz (Int.ofNat t)) m v m' := by
 have hsS := hp.hs
 obtain ⟨a_, cap_, he_, hnl, hl⟩ := hp.hl
 cases he_
 obtain ⟨a, ha⟩ := gx hlt
 obtain ⟨b, off, cs, el, g, md, mate, rfl, ⟨hb, hh⟩, hle, hc⟩ := so hl hlt
 have hr := hc t a ha
 obtain ⟨ve, vf, va, hr, he, hf, hga⟩ := hr
 have hraS : RTy (Off [bm] m) a [.int .i64 a.kind, ve, .string a.name, vf, va] := ⟨ve, vf, va, rfl, he, hf, hga⟩
 have hfS := hf
 obtain ⟨ae, ce, rfl, hne, he⟩ := he
 obtain ⟨af, cf, rfl, hnf, hf⟩ := hf
 obtain ⟨aa, ca, rfl, hna, hga⟩ := hga
 have hw := hwl t a ha
 have hba := hbd t a ha
 have hzt : szAt sz (Int.ofNat t) = szStep sz a := szAt_get (hz.fix_ t a ha)
 have hsc : ∀ (p : Int), a.kind ≠ 9 → p ∈ partsL a → ∃ q : Nat, p = Int.ofNat q ∧ q < l.length ∧ SizeC prog l (some ⟨b, off, none⟩) cl bs bm sz q := fun p h9 hp2 => by obtain ⟨j, hj⟩ := List.getElem?_of_mem hp2; obtain ⟨q, rfl, hq⟩ := parts_in hba hj; exact ⟨q, rfl, hq, ih q (hr0 t q ⟨a, ha, h9, hp2⟩) hq⟩
 have hM0 := hM
 obtain ⟨lM, hP, hD⟩ := hM
 refine Fc.bodyS (S := [bm]) (c := _) func74 rfl rfl rfl rfl hk ?_
 refine .seq (.region (.P ?_))
 refine .nil (.seq (.seq (.seq (.region (.P2 ?_)))))
 refine .F fa157_1 ?_
 refine .M ag155 (Off.sees rfl rfl _ _ hsS) rfl ?_
 refine .P ?_
 rcases hgm : getP (Int.ofNat t) lM with _ | gv
 ·refine .lookupOk (K := Value.int .i64) .one hP (KeyOk.int underlying3) rfl rfl rfl rfl underlying155 zr3 rfl rfl (v := .tuple ⟨[.int .i64 0, .bool false]⟩) (by rw [hgm]) ?_
  iterate 5 refine .P ?_
  refine .nil (.seq (.seq (.region (.P ?_))))
  refine .nil (.seq (.cond_false rfl (.skip (.seq (.seq (.region (.P ?_)))))))
  refine .nil (.seq (.seq (.seq (.region (.P2 ?_)))))
  refine .F fa157_0 ?_
  refine .M ag22 (Off.sees rfl rfl _ _ hsS) rfl ?_
  refine .P ?_
  refine .K underlying22 sz50 ?_
  refine .A ag50 sz50 (Off.sees rfl rfl _ _ ⟨hb, hh⟩) hr ?_
  refine .alloc rfl rfl rfl rfl zr50 (fun b8 hb8 => ?_)
  refine .S sz50 ?_
  refine .nil (.seq (.seq (.region (.F fa50_0 ?_))))
  refine .L ag3 ?_
  refine .nil (.seq (.block ?_))
  refine .joinA (True) [(31, .bool (decide (a.kind = 0 ∨ a.kind = 12 ∨ a.kind = 14)))] ?_ (fun _ => ?_)
  ·refine .seq (.region (.P2 ?_))
   refine .nil (.seq (.cond rfl (fun ht31 => ?_) fun ht31 => ?_))
   ·refine .B 31 ht31 ?_
    try simp only [nz] at ht31
    have hst : (0 : Int) = szAt sz (Int.ofNat t) := by rw [hzt, szStep_zero (by omega)]
    have hMe := hM0
    refine .skip ?_
    refine .as 31 (.bool (decide (a.kind = 0 ∨ a.kind = 12 ∨ a.kind = 14))) rfl (congrArg Value.bool (by apply bbx; simp only [nz, nb, reduceCtorEq]; (try simp only [nq]); omega)) ?_
    exact .J (trivial)
   refine .B 31 ht31 ?_
   try simp only [nz] at ht31
   refine .seq (.region (.P2 ?_))
   refine .nil (.seq (.cond rfl (fun ht31 => ?_) fun ht31 => ?_))
   ·refine .B 31 ht31 ?_
    try simp only [nz] at ht31
    have hst : (0 : Int) = szAt sz (Int.ofNat t) := by rw [hzt, szStep_zero (by omega)]
    have hMe := hM0
    refine .skip ?_
    refine .as 31 (.bool (decide (a.kind = 0 ∨ a.kind = 12 ∨ a.kind = 14))) rfl (congrArg Value.bool (by apply bbx; simp only [nz, nb, reduceCtorEq]; (try simp only [nq]); omega)) ?_
    exact .J (trivial)
   refine .B 31 ht31 ?_
   try simp only [nz] at ht31
   refine .region (.P2 ?_)
   refine .nil ?_
   refine .as 31 (.bool (decide (a.kind = 0 ∨ a.kind = 12 ∨ a.kind = 14))) rfl (congrArg Value.bool (by apply bbx; simp only [nz, nb, reduceCtorEq]; (try simp only [nq]); omega)) ?_
   exact .J (trivial)
  refine .cond rfl (fun ht31 => ?_) (fun ht31 => ?_)
  ·refine .B 31 ht31 ?_
   try simp only [nz] at ht31
   have hst : (0 : Int) = szAt sz (Int.ofNat t) := by rw [hzt, szStep_zero (by omega)]
   have hMe := hM0
   refine .region (.P ?_)
   refine .nil (.blk (.seq (.seq (.region (.P2 ?_)))))
   refine .F fa157_1 ?_
   refine .M ag155 (Off.sees rfl rfl _ _ hsS) rfl ?_
   refine .P2 ?_
   refine .as 63 (.int .i64 (szAt sz (Int.ofNat t))) rfl (congrArg (Value.int .i64) hst) ?_
   obtain ⟨lE, hPq, hDq⟩ := hMe
   first | (refine .mapUpdate (K := Value.int .i64) .one hPq (KeyOk.int underlying3) rfl rfl rfl underlying155 rfl rfl rfl (fun es9 c9 hP9 => ?_)) | (refine .mapUpdate (K := Value.int .i64) (.tail .one) hPq (KeyOk.int underlying3) rfl rfl rfl underlying155 rfl rfl rfl (fun es9 c9 hP9 => ?_))
   refine .nil (.seq (.seq (.region (.P2 ?_))))
   refine .nil (.seq (.ret ?_))
   exact .end_ rfl rfl (fun m hm => ⟨(es9, c9), MapA.put hDq hP9, congrArg (Value.int .i64) hst, hm.sub (.cons_cons _ (List.nil_sublist _))⟩)
  refine .B 31 ht31 ?_
  try simp only [nz] at ht31
  refine .seq (.region (.P2 ?_))
  refine .nil (.seq (.cond rfl (fun ht35 => ?_) fun ht35 => ?_))
  ·try simp only [nz] at ht35
   refine .seq (.region (.P ?_))
   refine .nil (.seq (.seq (.region (.F fa50_1 ?_))))
   refine .L ag32 ?_
   refine .G (ln32 ..) ?_
   refine .P ?_
   refine .nil (.seq (.block ?_))
   refine .loop (α := Nat × List MapEntry × Nat) (fun q => [(0, ptr bs), (1, .int .i64 (Int.ofNat (t))), (7, .int .i64 (foldS sz (a.elems.take q.1))), (38, .slice ae a.elems.length ce), (39, .int .i64 (Int.ofNat (a.elems.length))), (40, .int .i64 (Int.ofNat (q.1)))]) (fun q => [(bm, .map q.2.1 q.2.2)]) (fun q => q.1 ≤ a.elems.length ∧ MapA sz q.2 ∧ True) (fun q => a.elems.length - q.1) (0, x0) ⟨Nat.zero_le _, hM0, trivial⟩ ⟨rfl, rfl, rfl, rfl, rfl, rfl, trivial⟩ (.cons _ (.refl _)) (fun q hq0 => ?_)
   obtain ⟨i, x1⟩ := q
   obtain ⟨hi, hM1, hI⟩ := hq0
   simp only at hi hM1 hI
   refine .seq (.region (.P ?_))
   refine .nil (.seq (.seq (.cond rfl (fun ht41 => ?_) fun ht41 => ?_)))
   ·try simp only [nz] at ht41
    have hltE : i < a.elems.length := by omega
    obtain ⟨p, hp_⟩ := gx hltE
    obtain ⟨bE, offE, csE, elE, gE, mdE, mateE, rfl, ⟨hbE, hhE⟩, hleE, hcE⟩ := so he hltE
    have hrp := hcE i p hp_
    obtain ⟨q, rfl, hq, hsq⟩ := hsc p (by omega) (parts_elems (List.mem_of_getElem? hp_))
    have hr1 := foldS_range hz.ok (a.elems.take i)
    have hr2 := szAt_range hz.ok (Int.ofNat q)
    refine .skip (.seq (.seq (.block (.seq (.region (.K underlying32 sz3 ?_))))))
    refine .M ag3 (Off.sees rfl rfl _ _ ⟨hbE, hhE⟩) (cell_of_take hrp (k := 0) rfl) ?_
    refine .P ?_
    refine .nil (.seq (.region (.P3 ?_)))
    refine .callc (fun z => MapA sz z) (fun _ => .int .i64 (szAt sz (Int.ofNat q))) (fun z => [(bm, .map z.1 z.2)]) .one rfl rfl rfl rfl rfl rfl (fun m2 g1 g2 => hsq m2 _ g1.lole' g2 hM1 (hp.mono (Off.kr g1.kr))) (fun y hy => ?_)
    refine .P ?_
    refine .as 48 (.int .i64 (foldS sz (a.elems.take i) + szAt sz (Int.ofNat q))) rfl (congrArg (Value.int .i64) (wr_small (by show (0 : Int) ≤ foldS sz (a.elems.take i) + szAt sz (Int.ofNat q); omega) (by show foldS sz (a.elems.take i) + szAt sz (Int.ofNat q) ≤ 1000000; omega))) ?_
    refine .min rfl rfl rfl rfl rfl rfl ?_
    refine .as 49 (.int .i64 (foldS sz (a.elems.take (i + 1)))) rfl (congrArg (Value.int .i64) (by rw [foldS_succ hp_]; rfl)) ?_
    refine .P ?_
    refine .nil (.blk (.seq (.region (.P ?_))))
    refine .W 50 i ?_
    refine .P ?_
    refine .nil ?_
    exact .loop (i + 1, _) ⟨by omega, hy, trivial⟩ (by show a.elems.length - (i + 1) < a.elems.length - i; omega) ⟨rfl, rfl, rfl, rfl, rfl, rfl, trivial⟩ (.refl _)
   try simp only [nz] at ht41
   have hst : foldS sz (a.elems.take i) = szAt sz (Int.ofNat t) := by rw [hzt, szStep_tuple (by omega), List.take_of_length_le (by omega)]
   have hMe := hM1
   refine .exit (.seq (.loop (.here (.blk (.seq (.seq (.region (.P2 ?_))))))))
   refine .F fa157_1 ?_
   refine .M ag155 (Off.sees rfl rfl _ _ hsS) rfl ?_
   refine .P2 ?_
   refine .as 63 (.int .i64 (szAt sz (Int.ofNat t))) rfl (congrArg (Value.int .i64) hst) ?_
   obtain ⟨lE, hPq, hDq⟩ := hMe
   first | (refine .mapUpdate (K := Value.int .i64) .one hPq (KeyOk.int underlying3) rfl rfl rfl underlying155 rfl rfl rfl (fun es9 c9 hP9 => ?_)) | (refine .mapUpdate (K := Value.int .i64) (.tail .one) hPq (KeyOk.int underlying3) rfl rfl rfl underlying155 rfl rfl rfl (fun es9 c9 hP9 => ?_))
   refine .nil (.seq (.seq (.region (.P2 ?_))))
   refine .nil (.seq (.ret ?_))
   exact .end_ rfl rfl (fun m hm => ⟨(es9, c9), MapA.put hDq hP9, congrArg (Value.int .i64) hst, hm.sub (.cons_cons _ (List.nil_sublist _))⟩)
  try simp only [nz] at ht35
  refine .seq (.region (.P2 ?_))
  refine .nil (.seq (.cond rfl (fun ht51 => ?_) fun ht51 => ?_))
  ·try simp only [nz] at ht51
   refine .region (.P ?_)
   refine .E ag50 sz50 ?_
   refine .F fa50_3 ?_
   refine .L ag47 ?_
   refine .callc (fun z => MapA sz z) (fun _ => .int .i64 (recS sz a a.fields)) (fun z => [(bm, .map z.1 z.2)]) (.tail .one) rfl rfl rfl rfl rfl rfl (fun m2 g1 g2 => srecord_ok g1.lole' g2 hM0 (hp.mono (Off.kr g1.kr)) hwl hbd hz (RTy.mono (Off.kr g1.kr) _ _ hraS) (hfS.mono (Off.kr g1.kr) fun _ _ h => h) (fun j x hx => hsc x.type (by omega) (parts_fields (List.mem_map.2 ⟨x, List.mem_of_getElem? hx, rfl⟩)))) (fun x1 hMe => ?_)
   have hst : recS sz a a.fields = szAt sz (Int.ofNat t) := by rw [hzt, szStep_adt (by omega), recS_adt hz.ok]
   refine .P ?_
   refine .nil (.blk (.seq (.seq (.region (.P2 ?_)))))
   refine .F fa157_1 ?_
   refine .M ag155 (Off.sees rfl rfl _ _ hsS) rfl ?_
   refine .P2 ?_
   refine .as 63 (.int .i64 (szAt sz (Int.ofNat t))) rfl (congrArg (Value.int .i64) hst) ?_
   obtain ⟨lE, hPq, hDq⟩ := hMe
   first | (refine .mapUpdate (K := Value.int .i64) .one hPq (KeyOk.int underlying3) rfl rfl rfl underlying155 rfl rfl rfl (fun es9 c9 hP9 => ?_)) | (refine .mapUpdate (K := Value.int .i64) (.tail .one) hPq (KeyOk.int underlying3) rfl rfl rfl underlying155 rfl rfl rfl (fun es9 c9 hP9 => ?_))
   refine .nil (.seq (.seq (.region (.P2 ?_))))
   refine .nil (.seq (.ret ?_))
   exact .end_ rfl rfl (fun m hm => ⟨(es9, c9), MapA.put hDq hP9, congrArg (Value.int .i64) hst, hm.sub (.cons_cons _ (List.nil_sublist _))⟩)
  try simp only [nz] at ht51
  have hst : (1 : Int) = szAt sz (Int.ofNat t) := by rw [hzt, szStep_one (by omega) (by omega) (by omega)]
  have hMe := hM0
  refine .skip (.blk (.seq (.seq (.region (.P2 ?_)))))
  refine .F fa157_1 ?_
  refine .M ag155 (Off.sees rfl rfl _ _ hsS) rfl ?_
  refine .P2 ?_
  refine .as 63 (.int .i64 (szAt sz (Int.ofNat t))) rfl (congrArg (Value.int .i64) hst) ?_
  obtain ⟨lE, hPq, hDq⟩ := hMe
  first | (refine .mapUpdate (K := Value.int .i64) .one hPq (KeyOk.int underlying3) rfl rfl rfl underlying155 rfl rfl rfl (fun es9 c9 hP9 => ?_)) | (refine .mapUpdate (K := Value.int .i64) (.tail .one) hPq (KeyOk.int underlying3) rfl rfl rfl underlying155 rfl rfl rfl (fun es9 c9 hP9 => ?_))
  refine .nil (.seq (.seq (.region (.P2 ?_))))
  refine .nil (.seq (.ret ?_))
  exact .end_ rfl rfl (fun m hm => ⟨(es9, c9), MapA.put hDq hP9, congrArg (Value.int .i64) hst, hm.sub (.cons_cons _ (List.nil_sublist _))⟩)
 obtain rfl := hD _ _ hgm
 refine .lookupOk (K := Value.int .i64) .one hP (KeyOk.int underlying3) rfl rfl rfl rfl underlying155 zr3 rfl rfl (v := .tuple ⟨[.int .i64 (szAt sz (Int.ofNat t)), .bool true]⟩) (by rw [hgm]) ?_
 iterate 5 refine .P ?_
 refine .nil (.seq (.seq (.region (.P ?_))))
 refine .nil (.seq (.cond_true rfl (.seq (.region (.P2 ?_)))))
 refine .nil (.seq (.ret (.seq ?_)))
 exact .end_ rfl rfl (fun m hm => ⟨x0, hM0, rfl, hm⟩)
theorem ssize_all {l : List Ty} {al : Option Addr} {cl bs bm : Nat} {sz : List Int} {r : Nat → Nat} (hwl : ∀ (i : Nat) (a : Ty), l[i]? = some a → FewT a) (hbd : ∀ (i : Nat) (a : Ty), l[i]? = some a → badB l.length a = false) (hz : SzFix l sz) (hr0 : Ranked l r) : ∀ (n t : Nat), r t < n → t < l.length → SizeC prog l al cl bs bm sz t
 | 0, _, h, _ => absurd h (Nat.not_lt_zero _)
 | n + 1, t, h, hlt => fun m x hm hk hM hp => ssize_step hm hk hM hp hwl hbd hz hr0 hlt fun t2 h2 hlt2 => ssize_all hwl hbd hz hr0 n t2 (by omega) hlt2
theorem ssize_ok {l : List Ty} {al : Option Addr} {cl bs bm : Nat} {sz : List Int} {r : Nat → Nat} (hwl : ∀ (i : Nat) (a : Ty), l[i]? = some a → FewT a) (hbd : ∀ (i : Nat) (a : Ty), l[i]? = some a → badB l.length a = false) (hz : SzFix l sz) (hr0 : Ranked l r) (t : Nat) (hlt : t < l.length) : SizeC prog l al cl bs bm sz t := ssize_all hwl hbd hz hr0 (r t + 1) t (Nat.lt_succ_self _) hlt
theorem slarge_ok {l : List Ty} {al : Option Addr} {cl bs bm : Nat} {sz : List Int} {x0 : List MapEntry × Nat} {t : Nat} {a : Ty} {r : Nat → Nat} {m : AW} (hm : m.lo ≤ m.next) (hk : Knows [bm] m m (MapC bm x0)) (hM : MapA sz x0) (hp : SzPre l al cl bs bm m) (hwl : ∀ (i : Nat) (a : Ty), l[i]? = some a → FewT a) (hbd : ∀ (i : Nat) (a : Ty), l[i]? = some a → badB l.length a = false) (hz : SzFix l sz) (hr0 : Ranked l r) (ha : l[t]? = some a) : Fc prog 55 [ptr bs, .int .i64 (Int.ofNat (t))] m fun v m' => ∃ x, MapA sz x ∧ v = .bool (largeB sz (szAt sz (Int.ofNat t)) a) ∧ Knows [bm] m m' (MapC bm x) := by
 have hsS := hp.hs
 have hlt : t < l.length := (List.getElem?_eq_some_iff.1 ha).1
 obtain ⟨a_, cap_, he_, hnl, hl⟩ := hp.hl
 cases he_
 obtain ⟨b, off, cs, el, g, md, mate, rfl, ⟨hb, hh⟩, hle, hc⟩ := so hl hlt
 have hr := hc t a ha
 obtain ⟨ve, vf, va, hr, he, hf, hga⟩ := hr
 obtain ⟨aa, ca, rfl, hna, hga⟩ := hga
 have hw := hwl t a ha
 have hba := hbd t a ha
 refine Fc.bodyS (S := [bm]) (c := _) func55 rfl rfl rfl rfl hk ?_
 refine .seq (.region (.P ?_))
 refine .nil (.seq (.seq (.seq (.region (.P2 ?_)))))
 refine .callc (fun z => MapA sz z) (fun _ => .int .i64 (szAt sz (Int.ofNat t))) (fun z => [(bm, .map z.1 z.2)]) .one rfl rfl rfl rfl rfl rfl (fun m2 g1 g2 => ssize_ok hwl hbd hz hr0 t hlt m2 _ g1.lole' g2 hM (hp.mono (Off.kr g1.kr))) (fun y hy => ?_)
 refine .P ?_
 refine .nil (.seq (.cond rfl (fun ht12 => ?_) fun ht12 => ?_))
 ·try simp only [nz] at ht12
  refine .seq (.region (.P ?_))
  refine .nil (.seq (.ret (.seq ?_)))
  exact .end_ rfl rfl (fun m hm => ⟨y, hy, congrArg Value.bool (large_yes (by omega)).symm, hm⟩)
 try simp only [nz] at ht12
 refine .skip (.seq (.seq (.seq (.region (.P2 ?_)))))
 refine .F fa157_0 ?_
 refine .M ag22 (Off.sees rfl rfl _ _ hsS) rfl ?_
 refine .P ?_
 refine .K underlying22 sz50 ?_
 refine .F fa50_4 ?_
 refine .M ag48 (Off.sees rfl rfl _ _ ⟨hb, hh⟩) (cell_of_take hr (k := 4) rfl) ?_
 refine .G (ln48 ..) ?_
 refine .P ?_
 refine .nil (.seq (.block ?_))
 refine .loop (α := Nat × List MapEntry × Nat) (fun q => [(0, ptr bs), (1, .int .i64 (Int.ofNat (t))), (20, .slice aa a.arms.length ca), (21, .int .i64 (Int.ofNat (a.arms.length))), (22, .int .i64 (Int.ofNat (q.1)))]) (fun q => [(bm, .map q.2.1 q.2.2)]) (fun q => q.1 ≤ a.arms.length ∧ MapA sz q.2 ∧ ∀ (j : Nat) (x : Arm), j < q.1 → a.arms[j]? = some x → armL sz a x = false) (fun q => a.arms.length - q.1) (0, y) ⟨Nat.zero_le _, hy, fun _ _ h => (by cases h)⟩ ⟨rfl, rfl, rfl, rfl, rfl, trivial⟩ (.refl _) (fun q hq0 => ?_)
 obtain ⟨i, x1⟩ := q
 obtain ⟨hi, hM1, hI⟩ := hq0
 simp only at hi hM1 hI
 refine .seq (.region (.P ?_))
 refine .nil (.seq (.seq (.cond rfl (fun ht23 => ?_) fun ht23 => ?_)))
 ·try simp only [nz] at ht23
  have hraS : RTy (Off [bm] m) a [.int .i64 a.kind, ve, .string a.name, vf, .slice aa a.arms.length ca] := ⟨ve, vf, _, rfl, he, hf, aa, ca, rfl, hna, hga⟩
  have hltX : i < a.arms.length := by omega
  obtain ⟨x, hx⟩ := gx hltX
  obtain ⟨bX, offX, csX, elX, gX, mdX, mateX, rfl, ⟨hbX, hhX⟩, hleX, hcX⟩ := so hga hltX
  have hrx := hcX i x hx
  obtain ⟨vx, hrx, hfa⟩ := hrx
  obtain ⟨ax, cx, rfl, hnx, hfa⟩ := hfa
  obtain ⟨L, hW⟩ := withL_some (List.mem_of_getElem? hx)
  refine .skip (.seq (.seq (.block (.seq (.region (.K underlying48 sz55 ?_))))))
  refine .A ag55 sz55 (Off.sees rfl rfl _ _ ⟨hbX, hhX⟩) hrx ?_
  refine .alloc rfl rfl rfl rfl zr55 (fun b6 hb6 => ?_)
  refine .S sz55 ?_
  refine .nil (.seq (.seq ?_))
  refine .D [(15, 0), (15, 1), (15, 3), (3, 7), (15, 0), (15, 31), (3, 63), (15, 0), (3, 128), (7, 511), (15, 1023), (15, 2047), (15, 2047), (15, 4095), (15, 16383)] (by kernel_rfl) (by kernel_rfl) (fun base hbase hB => ?_)
  iterate 2 refine .P ?_
  refine .F fa157_0 ?_
  refine .M ag22 (Off.sees rfl rfl _ _ hsS) rfl ?_
  refine .P ?_
  refine .K underlying22 sz50 ?_
  refine .loadAgg rfl rfl rfl rfl rfl rfl rfl rfl ag50 sz50 (Off.sees rfl rfl _ _ ⟨hb, hh⟩) (by omega) hr ?_
  refine .F fa55_0 ?_
  refine .J ag9 ?_
  refine .calln _ _ _ rfl rfl rfl rfl rfl rfl rfl rfl rfl (fun m hm => arm_ok (t := a) hm.lole (fun b o h => Off.mem b o (Off.kr hm b o h)) hraS hw) (fun z hzw => ?_)
  refine .as 36 (.tuple ⟨[z.2, .bool true]⟩) rfl (WithV.some (x := z) hW).symm ?_
  iterate 5 refine .P ?_
  refine .nil (.seq (.seq (.region (.P3 ?_))))
  refine .F fa157_0 ?_
  refine .M ag22 (Off.sees rfl rfl _ _ hsS) rfl ?_
  refine .P ?_
  refine .K underlying22 sz50 ?_
  refine .A ag50 sz50 (Off.sees rfl rfl _ _ ⟨hb, hh⟩) hr ?_
  refine .P ?_
  refine .callc (fun z => MapA sz z) (fun _ => .int .i64 (recS sz a L)) (fun z => [(bm, .map z.1 z.2)]) (.over (.tail .one)) rfl rfl rfl rfl rfl rfl (fun m2 g1 g2 => srecord_ok (t := a) g1.lole' g2 hM1 (hp.mono (Off.kr g1.kr)) hwl hbd hz (RTy.mono (Off.kr g1.kr) _ _ hraS) ((hzw _ hW).1.mono (fun b o h => h.elim (fun h => Off.known g1 (List.mem_append_left _ h)) (Off.kr g1.kr b o)) fun _ _ h => h) (fun j x hx => by obtain ⟨q, e1, e2⟩ := parts_ok_fld hba (fun x hx => withL_parts hW hx) j x hx; exact ⟨q, e1, e2, ssize_ok hwl hbd hz hr0 q e2⟩)) (fun y hy => ?_)
  refine .P ?_
  refine .nil (.seq (.cond rfl (fun ht49 => ?_) fun ht49 => ?_))
  ·try simp only [nz] at ht49
   have hbig := (recS_big (sz := sz) (t := a) (L := L) (by omega)).1 (by omega)
   refine .seq (.region (.P ?_))
   refine .nil (.seq (.ret (.blk (.seq (.loop (.blk (.seq ?_)))))))
   exact .end_ rfl rfl (fun m hm => ⟨y, hy, congrArg Value.bool (large_arm hx hW hbig).symm, hm.sub (.cons_cons _ (List.nil_sublist _))⟩)
  try simp only [nz] at ht49
  have hbig : ¬ 256 < 1 + sumF sz L := fun h => absurd ((recS_big (sz := sz) (t := a) (L := L) (by omega)).2 h) (by omega)
  refine .skip (.blk (.seq (.region (.P ?_))))
  refine .W 50 i ?_
  refine .P ?_
  refine .nil ?_
  exact .loop (i + 1, _) ⟨by omega, hy, upto_succ hI hx (armL_no hW hbig)⟩ (by show a.arms.length - (i + 1) < a.arms.length - i; omega) ⟨rfl, rfl, rfl, rfl, rfl, trivial⟩ (.cons_cons _ (List.nil_sublist _))
 try simp only [nz] at ht23
 refine .exit (.seq (.loop (.here (.seq (.seq (.region (.P ?_)))))))
 refine .nil (.seq (.ret ?_))
 exact .end_ rfl rfl (fun m hm => ⟨x1, hM1, congrArg Value.bool (large_not (Int.not_lt.2 ht12) fun j x hj hx => hI j x (by omega) hx).symm, hm⟩)
theorem newsizer_ok {vl : Value} {m : AW} (hm : m.lo ≤ m.next) {al : Option Addr} {n cl : Nat} (hvl : vl = .slice al n cl) : Fc prog 54 [vl] m fun v m' => ∃ x : Nat × Nat, True ∧ v = ptr x.1 ∧ Ext m m' ∧ News m m' [(x.1, .cells [vl, .map (some x.2)] 157 false .plain none), (x.2, .map [] 0)] := by
 subst hvl
 refine Fc.body (c := _) func54 rfl rfl rfl rfl hm ?_
 refine .seq (.region (.P ?_))
 refine .nil (.seq (.seq (.region (.P ?_))))
 refine .makeMap rfl rfl rfl rfl (fun b4 hb4 => ?_)
 refine .p (v := .agg ⟨[.slice al n cl, .map (some b4)]⟩) rfl rfl rfl (by kernel_rfl) ?_
 refine .box rfl rfl rfl rfl rfl (fun b6 hb6 => ?_)
 refine .P ?_
 refine .nil (.seq (.ret ?_))
 exact .end_ rfl rfl (fun m hm => ⟨(b6, b4), trivial, rfl, hm.ext, hm.news (.refl _)⟩)
theorem check_ok {l : List Ty} {vl : Value} {m : AW} (hm : m.lo ≤ m.next) (hlS : Sl (Mem m) 5 (RTy (Mem m)) l vl) (hwl : ∀ (i : Nat) (a : Ty), l[i]? = some a → FewT a) (hn14 : l.length ≤ 14) : Fc prog 15 [vl] m fun v m' => ∃ e : Int, ChkP l e ∧ v = .int .i64 e ∧ Ext m m' ∧ News m m' [] := by
 have hlS0 := hlS
 obtain ⟨al, cl, rfl, hnl, hl⟩ := hlS
 refine Fc.body (c := _) func15 rfl rfl rfl rfl hm ?_
 refine .seq (.region (.P ?_))
 refine .nil (.seq (.seq (.seq (.region (.P ?_)))))
 refine .G (ln22 ..) ?_
 refine .P ?_
 refine .nil (.seq (.cond rfl (fun ht13 => ?_) fun ht13 => ?_))
 ·try simp only [nz] at ht13
  exfalso; omega
 try simp only [nz] at ht13
 refine .skip (.seq (.seq (.seq (.region (.P ?_)))))
 refine .G (ln22 ..) ?_
 refine .P ?_
 refine .nil (.seq (.block ?_))
 refine .loop (α := Nat) (fun i => [(0, .slice al l.length cl), (14, .slice al l.length cl), (15, .int .i64 (Int.ofNat (l.length))), (16, .int .i64 (Int.ofNat (i)))]) (fun i => []) (fun i => i ≤ l.length ∧ ∀ (j : Nat) (x : Ty), j < i → l[j]? = some x → singleE l.length x = 0) (fun i => l.length - i) 0 ⟨Nat.zero_le _, fun _ _ h => (by cases h)⟩ ⟨rfl, rfl, rfl, rfl, trivial⟩ (List.nil_sublist _) (fun i hi => ?_)
 refine .seq (.region (.P ?_))
 refine .nil (.seq (.seq (.cond rfl (fun ht17 => ?_) fun ht17 => ?_)))
 ·try simp only [nz] at ht17
  have hlt : i < l.length := by omega
  obtain ⟨a, ha⟩ := gx hlt
  obtain ⟨b, off, cs, el, g, md, mate, rfl, ⟨hb, hh⟩, hle, hc⟩ := so hl hlt
  have hr := hc i a ha
  obtain ⟨ve, vf, va, hr, he, hf, hga⟩ := hr
  have hraS : RTy (Mem m) a [.int .i64 a.kind, ve, .string a.name, vf, va] := ⟨ve, vf, va, rfl, he, hf, hga⟩
  obtain ⟨ae, ce, rfl, hne, he⟩ := he
  obtain ⟨af, cf, rfl, hnf, hf⟩ := hf
  obtain ⟨aa, ca, rfl, hna, hga⟩ := hga
  have hw := hwl i a ha
  refine .skip (.seq (.seq (.block (.seq (.region (.K underlying22 sz50 ?_))))))
  refine .A ag50 sz50 (.base hh hb (by simp)) hr ?_
  refine .alloc rfl rfl rfl rfl zr50 (fun b4 hb4 => ?_)
  refine .S sz50 ?_
  refine .nil (.seq (.seq (.region (.P ?_))))
  refine .E ag50 sz50 ?_
  refine .call _ rfl rfl rfl rfl rfl rfl (fun m hm => single_ok hm.lole (RTy.mono (Mem.kr hm) _ _ hraS) hw) ?_
  refine .P ?_
  refine .nil (.seq (.seq (.region (.P2 ?_))))
  refine .nil (.seq (.cond rfl (fun ht24 => ?_) fun ht24 => ?_))
  ·try simp only [nz] at ht24
   refine .seq (.region (.P2 ?_))
   refine .nil (.seq (.ret (.blk (.seq (.loop (.blk (.seq ?_)))))))
   exact .end_ rfl rfl (fun m hm => ⟨_, .inl ⟨by rw [first_at ha hi.2 (by assumption)]; assumption, (first_at ha hi.2 (by assumption)).symm⟩, rfl, hm.ext, News.nil _ _⟩)
  try simp only [nz] at ht24
  refine .skip (.blk (.seq (.region (.P ?_))))
  refine .W 26 i ?_
  refine .P ?_
  refine .nil ?_
  exact .loop (i + 1) ⟨hlt, upto_succ hi.2 ha (by assumption)⟩ (by omega) ⟨rfl, rfl, rfl, rfl, trivial⟩ (List.nil_sublist _)
 try simp only [nz] at ht17
 have hWl : Well l := well_of (by omega) hi.2
 have hbd : ∀ (i : Nat) (a : Ty), l[i]? = some a → badB l.length a = false := fun i a ha => hWl.sound i a ha
 refine .exit (.seq (.loop (.here (.seq (.seq (.seq (.region (.P ?_))))))))
 refine .G (ln22 ..) ?_
 refine .P ?_
 refine .nil (.seq (.block ?_))
 refine .loop (α := Nat) (fun i => [(0, .slice al l.length cl), (27, .slice al l.length cl), (28, .int .i64 (Int.ofNat (l.length))), (29, .int .i64 (Int.ofNat (i)))]) (fun i => []) (fun i => i ≤ l.length ∧ ∀ (j : Nat) (x : Ty), j < i → l[j]? = some x → fitE l x = 0) (fun i => l.length - i) 0 ⟨Nat.zero_le _, fun _ _ h => (by cases h)⟩ ⟨rfl, rfl, rfl, rfl, trivial⟩ (List.nil_sublist _) (fun i hj => ?_)
 refine .seq (.region (.P ?_))
 refine .nil (.seq (.seq (.cond rfl (fun ht30 => ?_) fun ht30 => ?_)))
 ·try simp only [nz] at ht30
  have hlt : i < l.length := by omega
  obtain ⟨a, ha⟩ := gx hlt
  obtain ⟨b, off, cs, el, g, md, mate, rfl, ⟨hb, hh⟩, hle, hc⟩ := so hl hlt
  have hr := hc i a ha
  obtain ⟨ve, vf, va, hr, he, hf, hga⟩ := hr
  have hraS : RTy (Mem m) a [.int .i64 a.kind, ve, .string a.name, vf, va] := ⟨ve, vf, va, rfl, he, hf, hga⟩
  obtain ⟨ae, ce, rfl, hne, he⟩ := he
  obtain ⟨af, cf, rfl, hnf, hf⟩ := hf
  obtain ⟨aa, ca, rfl, hna, hga⟩ := hga
  have hw := hwl i a ha
  refine .skip (.seq (.seq (.block (.seq (.region (.K underlying22 sz50 ?_))))))
  refine .A ag50 sz50 (.base hh hb (by simp)) hr ?_
  refine .alloc rfl rfl rfl rfl zr50 (fun b7 hb7 => ?_)
  refine .S sz50 ?_
  refine .nil (.seq (.seq (.region (.P ?_))))
  refine .E ag50 sz50 ?_
  refine .call _ rfl rfl rfl rfl rfl rfl (fun m hm => fit_ok hm.lole (hlS0.mono (Mem.kr hm) (RTy.mono (Mem.kr hm))) hwl (RTy.mono (Mem.kr hm) _ _ hraS) hw (single_zero (hWl.all i a ha)).1 (hbd i a ha)) ?_
  refine .P ?_
  refine .nil (.seq (.seq (.region (.P2 ?_))))
  refine .nil (.seq (.cond rfl (fun ht37 => ?_) fun ht37 => ?_))
  ·try simp only [nz] at ht37
   refine .seq (.region (.P2 ?_))
   refine .nil (.seq (.ret (.blk (.seq (.loop (.blk (.seq ?_)))))))
   exact .end_ rfl rfl (fun m hm => ⟨_, .inr (.inl ⟨hWl.first, by rw [first_at ha hj.2 (by assumption)]; assumption, (first_at ha hj.2 (by assumption)).symm⟩), rfl, hm.ext, News.nil _ _⟩)
  try simp only [nz] at ht37
  refine .skip (.blk (.seq (.region (.P ?_))))
  refine .W 39 i ?_
  refine .P ?_
  refine .nil ?_
  exact .loop (i + 1) ⟨hlt, upto_succ hj.2 ha (by assumption)⟩ (by omega) ⟨rfl, rfl, rfl, rfl, trivial⟩ (List.nil_sublist _)
 try simp only [nz] at ht30
 have hfit0 : firstE (fitE l) l = 0 := first_none fun j y hj_ hy => hj.2 j y (by omega) hy
 refine .exit (.seq (.loop (.here (.seq (.seq (.seq (.region (.P ?_))))))))
 refine .calln _ _ _ rfl rfl rfl rfl rfl rfl (fun m hm => circular_ok hm.lole (hlS0.mono (Mem.kr hm) (RTy.mono (Mem.kr hm))) hwl hbd hn14) (fun c hcirc => ?_)
 refine .nil (.seq (.cond rfl (fun ht41 => ?_) fun ht41 => ?_))
 ·refine .seq (.region (.P ?_))
  refine .nil (.seq (.ret (.seq ?_)))
  exact .end_ rfl rfl (fun m hm => ⟨10, .inr (.inr ⟨hWl.first, hfit0, hWl.sound, .inl ⟨hcirc.1 ht41, rfl⟩⟩), rfl, hm.ext, News.nil _ _⟩)
 obtain ⟨r, hr0⟩ := hcirc.2 ht41
 obtain ⟨sz, hz⟩ := SzFix.exists_ hWl.sound hr0
 refine .skip (.seq (.seq (.region (.P ?_))))
 refine .calln _ _ _ rfl rfl rfl rfl rfl rfl (fun m hm => newsizer_ok hm.lole rfl) (fun x _ => ?_)
 refine .P ?_
 refine .nil (.seq (.seq (.seq (.region (.P ?_)))))
 refine .G (ln22 ..) ?_
 refine .P ?_
 refine .nil (.seq (.block ?_))
 refine .swap (Pick.perm (.tail .one)) (.loop (α := Nat × List MapEntry × Nat) (fun q => [(9, ptr x.1), (45, .int .i64 (Int.ofNat (l.length))), (46, .int .i64 (Int.ofNat (q.1)))]) (fun q => [(x.2, .map q.2.1 q.2.2), (x.1, .cells [.slice al l.length cl, .map (some x.2)] 157 false .plain none)]) (fun q => q.1 ≤ l.length ∧ MapA sz q.2 ∧ allN (bigAt sz l) q.1 = true) (fun q => l.length - q.1) (0, ([], 0)) ⟨Nat.zero_le _, MapA.nil sz 0, rfl⟩ ⟨rfl, rfl, rfl, trivial⟩ (.refl _) (fun q hq0 => ?_))
 obtain ⟨i, x1⟩ := q
 obtain ⟨hk, hM1, hA⟩ := hq0
 simp only at hk hM1 hA
 refine .seq (.region (.P ?_))
 refine .nil (.seq (.seq (.cond rfl (fun ht47 => ?_) fun ht47 => ?_)))
 ·try simp only [nz] at ht47
  have hlt : i < l.length := by omega
  obtain ⟨a, ha⟩ := gx hlt
  have hat := bigAt_get (sz := sz) ha
  refine .skip (.seq (.seq (.block (.seq (.region (.P2 ?_))))))
  refine .nil (.seq (.seq (.region (.P2 ?_))))
  refine .callc (fun z => MapA sz z) (fun _ => .bool (largeB sz (szAt sz (Int.ofNat i)) a)) (fun z => [(x.2, .map z.1 z.2)]) .one rfl rfl rfl rfl rfl rfl (fun m2 g1 g2 => slarge_ok (r := r) g1.lole' g2 hM1 ⟨Off.known g1 (.head _), hlS0.mono (Off.old g1) (RTy.mono (Off.old g1))⟩ hwl hbd hz hr0 ha) (fun y hy => ?_)
  refine .nil (.seq (.cond rfl (fun ht51 => ?_) fun ht51 => ?_))
  ·refine .seq (.region (.P ?_))
   refine .nil (.seq (.ret (.blk (.seq (.loop (.blk (.seq ?_)))))))
   exact .end_ rfl rfl (fun m hm => ⟨3, .inr (.inr ⟨hWl.first, hfit0, hWl.sound, .inr ⟨r, sz, hr0, hz, by rw [if_neg (by rw [allN_false hlt (by rw [hat, ht51]; rfl)]; decide)]⟩⟩), rfl, hm.ext, News.nil _ _⟩)
  refine .skip (.blk (.seq (.region (.P ?_))))
  refine .W 52 i ?_
  refine .P ?_
  refine .nil ?_
  exact .loop (i + 1, _) ⟨hlt, hy, by rw [allN_succ, hA, hat, ht51]; rfl⟩ (by show l.length - (i + 1) < l.length - i; omega) ⟨rfl, rfl, rfl, trivial⟩ (.refl _)
 try simp only [nz] at ht47
 refine .exit (.seq (.loop (.here (.seq (.seq (.region (.P ?_)))))))
 refine .nil (.seq (.ret ?_))
 exact .end_ rfl rfl (fun m hm => ⟨0, .inr (.inr ⟨hWl.first, hfit0, hWl.sound, .inr ⟨r, sz, hr0, hz, by rw [if_pos (by rw [← show i = l.length by omega]; exact hA)]⟩⟩), rfl, hm.ext, News.nil _ _⟩)
/-- What is asked of some types. -/
def AskP (l : List Ty) (ts : List Int) (e : Int) : Prop := ∃ e0, ChkP l e0 ∧ ((e0 ≠ 0 ∧ e = e0) ∨ (e0 = 0 ∧ e = if ts.all (fun t => decide (0 ≤ t ∧ t < l.length)) = true then 0 else 11))
theorem AskP.uniq {l : List Ty} {ts : List Int} {e e' : Int} (h : AskP l ts e) (h' : AskP l ts e') : e = e' := by
 obtain ⟨a, h1, h2⟩ := h
 obtain ⟨b, g1, g2⟩ := h'
 have := h1.uniq g1
 subst this
 rcases h2 with ⟨h3, rfl⟩ | ⟨h3, rfl⟩
 ·rcases g2 with ⟨_, rfl⟩ | ⟨g3, _⟩
  ·rfl
  exact absurd g3 h3
 rcases g2 with ⟨g3, _⟩ | ⟨_, rfl⟩
 ·exact absurd h3 g3
 rfl
theorem AskP.ok {l : List Ty} {ts : List Int} (h : ChkP l 0) (ht : ∀ (j : Nat) (t : Int), j < ts.length → ts[j]? = some t → 0 ≤ t ∧ t < l.length) : AskP l ts 0 := ⟨0, h, .inr ⟨rfl, by rw [if_pos (all_of fun j x hj hx => decide_eq_true (ht j x hj hx))]⟩⟩
theorem AskP.out {l : List Ty} {ts : List Int} {i : Nat} {t : Int} (h : ChkP l 0) (ht : ts[i]? = some t) (hn : ¬ (0 ≤ t ∧ t < l.length)) : AskP l ts 11 := ⟨0, h, .inr ⟨rfl, by rw [if_neg (by rw [all_not ht (decide_eq_false hn)]; decide)]⟩⟩
theorem AskP.bad {l : List Ty} {ts : List Int} {e : Int} (h : ChkP l e) (he : e ≠ 0) : AskP l ts e := ⟨e, h, .inl ⟨he, rfl⟩⟩
theorem AskP.well {l : List Ty} {ts : List Int} (h : AskP l ts 0) : ChkP l 0 ∧ ∀ (j : Nat) (t : Int), ts[j]? = some t → 0 ≤ t ∧ t < l.length := by
 obtain ⟨e, h1, h2⟩ := h
 rcases h2 with ⟨h3, h4⟩ | ⟨rfl, h4⟩
 ·exact absurd h4.symm h3
 refine ⟨h1, fun j t ht => ?_⟩
 split at h4
 ·rename_i h5
  exact of_decide_eq_true (List.all_eq_true.1 h5 t (List.mem_of_getElem? ht))
 cases h4
theorem asked_ok {l : List Ty} {vl : Value} {ts : List Int} {vt : Value} {m : AW} (hm : m.lo ≤ m.next) (hlS : Sl (Mem m) 5 (RTy (Mem m)) l vl) (hwl : ∀ (i : Nat) (a : Ty), l[i]? = some a → FewT a) (hn14 : l.length ≤ 14) (hts : Sl (Mem m) 1 RInt ts vt) : Fc prog 61 [vl, vt] m fun v m' => ∃ e : Int, AskP l ts e ∧ v = .int .i64 e ∧ Ext m m' ∧ News m m' [] := by
 have hlS0 := hlS
 obtain ⟨al, cl, rfl, hnl, hl⟩ := hlS
 obtain ⟨at_, ct, rfl, hnt, hts⟩ := hts
 refine Fc.body (c := _) func61 rfl rfl rfl rfl hm ?_
 refine .seq (.region (.P ?_))
 refine .nil (.seq (.seq (.seq (.region (.P ?_)))))
 refine .calln _ _ _ rfl rfl rfl rfl rfl rfl (fun m hm => check_ok hm.lole (hlS0.mono (Mem.kr hm) (RTy.mono (Mem.kr hm))) hwl hn14) (fun e he => ?_)
 refine .P ?_
 refine .nil (.seq (.seq (.region (.P2 ?_))))
 refine .nil (.seq (.cond rfl (fun ht11 => ?_) fun ht11 => ?_))
 ·try simp only [nz] at ht11
  refine .seq (.region (.P2 ?_))
  refine .nil (.seq (.ret (.seq ?_)))
  exact .end_ rfl rfl (fun m hm => ⟨_, AskP.bad he (by omega), rfl, hm.ext, News.nil _ _⟩)
 try simp only [nz] at ht11
 have he0 : e = 0 := by omega
 subst he0
 refine .skip (.seq (.seq (.seq (.region (.P ?_)))))
 refine .G (ln32 ..) ?_
 refine .P ?_
 refine .nil (.seq (.block ?_))
 refine .loop (α := Nat) (fun i => [(0, .slice al l.length cl), (13, .slice at_ ts.length ct), (14, .int .i64 (Int.ofNat (ts.length))), (15, .int .i64 (Int.ofNat (i)))]) (fun i => []) (fun i => i ≤ ts.length ∧ ∀ (j : Nat) (t : Int), j < i → ts[j]? = some t → 0 ≤ t ∧ t < l.length) (fun i => ts.length - i) 0 ⟨Nat.zero_le _, fun _ _ h => (by cases h)⟩ ⟨rfl, rfl, rfl, rfl, trivial⟩ (List.nil_sublist _) (fun i hi => ?_)
 refine .seq (.region (.P ?_))
 refine .nil (.seq (.seq (.cond rfl (fun ht16 => ?_) fun ht16 => ?_)))
 ·try simp only [nz] at ht16
  have hltE : i < ts.length := by omega
  obtain ⟨t, ht⟩ := gx hltE
  obtain ⟨bE, offE, csE, elE, gE, mdE, mateE, rfl, ⟨hbE, hhE⟩, hleE, hcE⟩ := so hts hltE
  have hrt := hcE i t ht
  refine .skip (.seq (.seq (.block (.seq (.region (.K underlying32 sz3 ?_))))))
  refine .M ag3 (.base hhE hbE (by simp)) (cell_of_take hrt (k := 0) rfl) ?_
  refine .P ?_
  refine .nil (.seq ?_)
  refine .joinA (True) [(26, .bool (decide (¬ (0 ≤ t ∧ t < l.length))))] ?_ (fun _ => ?_)
  ·refine .region (.P3 ?_)
   refine .splitB 21 rfl (fun hs0 => ?_) (fun hs0 => ?_)
   ·try simp only [nz] at hs0
    iterate 4 refine .O ?_
    refine .P ?_
    refine .nil ?_
    refine .as 26 (.bool (decide (¬ (0 ≤ t ∧ t < l.length)))) rfl (congrArg Value.bool (by apply bbx; simp only [nz, nb, reduceCtorEq]; (try simp only [nq]); omega)) ?_
    exact .J (trivial)
   try simp only [nz] at hs0
   refine .P2 ?_
   refine .G (ln22 ..) ?_
   refine .P2 ?_
   refine .nil ?_
   refine .as 26 (.bool (decide (¬ (0 ≤ t ∧ t < l.length)))) rfl (congrArg Value.bool (by apply bbx; simp only [nz, nb, reduceCtorEq]; (try simp only [nq]); omega)) ?_
   exact .J (trivial)
  refine .cond rfl (fun ht26 => ?_) (fun ht26 => ?_)
  ·try simp only [nz] at ht26
   refine .seq (.region (.P ?_))
   refine .nil (.seq (.ret (.blk (.seq (.loop (.blk (.seq ?_)))))))
   exact .end_ rfl rfl (fun m hm => ⟨11, AskP.out he ht (by omega), rfl, hm.ext, News.nil _ _⟩)
  try simp only [nz] at ht26
  refine .skip (.blk (.seq (.region (.P ?_))))
  refine .W 27 i ?_
  refine .P ?_
  refine .nil ?_
  exact .loop (i + 1) ⟨hltE, upto_succ hi.2 ht (by omega)⟩ (by omega) ⟨rfl, rfl, rfl, rfl, trivial⟩ (List.nil_sublist _)
 try simp only [nz] at ht16
 refine .exit (.seq (.loop (.here (.seq (.seq (.region (.P ?_)))))))
 refine .nil (.seq (.ret ?_))
 exact .end_ rfl rfl (fun m hm => ⟨0, AskP.ok he fun j t hj ht => hi.2 j t (by omega) ht, rfl, hm.ext, News.nil _ _⟩)
theorem RTyT.flats {K : Kn} : ∀ x cs, RTyT K x cs → flats cs = true := by
 rintro x cs ⟨⟨ve, vf, va, rfl, ⟨ae, ce, rfl, _⟩, ⟨af, cf, rfl, _⟩, ⟨aa, ca, rfl, _⟩⟩, -⟩
 rfl
theorem RArm.flats {K : Kn} : ∀ x cs, RArm K x cs → flats cs = true := by
 rintro x cs ⟨v, rfl, ⟨ae, ce, rfl, _⟩⟩
 rfl
theorem own_perm1 {A B C D : Hp} {x y : Nat × AObj} : (A ++ (x :: (B ++ (y :: (C ++ D))))).Perm (x :: (y :: (A ++ ((B ++ C) ++ D)))) := by
 refine List.perm_middle.trans (List.Perm.cons _ ?_)
 rw [← List.append_assoc]
 refine List.perm_middle.trans (List.Perm.cons _ ?_)
 exact List.Perm.of_eq (by simp [List.append_assoc])
theorem updo {A B : Hp} {b : Nat} {o o' : AObj} {x : Nat × AObj} {h : Hp} : Upd (A ++ (x :: (B ++ ((b, o) :: h)))) b o o' (A ++ (x :: (B ++ ((b, o') :: h)))) := by
 have key : ∀ (P : Hp) {h h' : Hp}, Upd h b o o' h' → Upd (P ++ h) b o o' (P ++ h') := fun P => by
  induction P with
  | nil => exact fun u => u
  | cons p P ih => exact fun u => .tail (ih u)
 exact key _ (.tail (key _ .head))
theorem own_arms0 {F G : Hp} {l L : List Arm} {g : Gro} {cs : List Value} {w : Value} (hF : Flat 2 (RArm (InH F)) L cs) (hO : g.Ok L.length) (hL : L = l) (hl : l.length ≤ 9223372036854775807) (hw : w = g.V L.length) : Sl (InH (g.H 55 cs ++ (F ++ G))) 2 (RArm (InH (g.H 55 cs ++ (F ++ G)))) l w := by
 subst hL hw
 exact (Gro.sl hF hO hl).mono (fun b o h => List.mem_append_left _ h) (RArm.mono fun b o h => List.mem_append_right _ (List.mem_append_left _ h))
theorem own_arms {F G : Hp} {l L : List Arm} {k : Nat} {g : Gro} {cs : List Value} {w : Value} (hF : Flat 2 (RArm (InH F)) L cs) (hO : g.Ok L.length) (hL : L = l.take k) (hk : l.length ≤ k) (hw : w = g.V L.length) (hl : l.length ≤ 9223372036854775807) : Sl (InH (g.H 55 cs ++ (F ++ G))) 2 (RArm (InH (g.H 55 cs ++ (F ++ G)))) l w := own_arms0 hF hO (hL.trans (List.take_of_length_le hk)) hl hw
theorem own_fin0 {F : Hp} {l L : List Ty} {g : Gro} {cs : List Value} (hF : Flat 5 (RTyT (InH F)) L cs) (hO : g.Ok L.length) (hL : L = l) (hl : l.length ≤ 9223372036854775807) : Sl (InH (g.H 50 cs ++ F)) 5 (RTyT (InH (g.H 50 cs ++ F))) l (g.V L.length) := by
 subst hL
 exact (Gro.sl hF hO hl).mono (fun b o h => List.mem_append_left _ h) (RTyT.mono fun b o h => List.mem_append_right _ h)
theorem own_fin {F : Hp} {l L : List Ty} {i : Nat} {g : Gro} {cs : List Value} (hF : Flat 5 (RTyT (InH F)) L cs) (hO : g.Ok L.length) (hL : L = l.take i) (hi : l.length ≤ i) (hl : l.length ≤ 9223372036854775807) : Sl (InH (g.H 50 cs ++ F)) 5 (RTyT (InH (g.H 50 cs ++ F))) l (g.V L.length) := own_fin0 hF hO (hL.trans (List.take_of_length_le hi)) hl
theorem own_sub {A B C : Hp} {x : Nat × AObj} : (x :: ([] ++ ((A ++ B) ++ C))).Sublist (x :: (A ++ (B ++ C))) := by simp [List.append_assoc]
theorem inA {A B : Hp} : ∀ b o, InH A b o → InH (A ++ B) b o := fun _ _ h => List.mem_append_left _ h
theorem inB {A B : Hp} : ∀ b o, InH B b o → InH (A ++ B) b o := fun _ _ h => List.mem_append_right _ h
theorem flat_mono {α : Type} {sz : Nat} {R R' : α → List Value → Prop} {l : List α} {cs : List Value} (h : Flat sz R l cs) (k : ∀ x cs, R x cs → R' x cs) : Flat sz R' l cs := ⟨h.1, fun i x hx => k _ _ (h.2 i x hx)⟩
theorem own_ok {l : List Ty} {vl : Value} {m : AW} (hm : m.lo ≤ m.next) (hlS : Sl (Mem m) 5 (RTy (Mem m)) l vl) (hwl : ∀ (i : Nat) (a : Ty), l[i]? = some a → FewT a) (hn14 : l.length ≤ 14) : Fc prog 16 [vl] m fun v m' => ∃ x : Hp × Value, Sl (InH x.1) 5 (RTyT (InH x.1)) l x.2 ∧ v = x.2 ∧ Ext m m' ∧ News m m' x.1 := by
 obtain ⟨al, cl, rfl, hnl, hl⟩ := hlS
 refine Fc.body (c := _) func16 rfl rfl rfl rfl hm ?_
 refine .seq (.region (.P ?_))
 refine .nil (.seq (.seq (.region (.P ?_))))
 refine .nil (.seq (.seq (.seq (.region (.P ?_)))))
 refine .nil (.seq (.block ?_))
 refine .loop (α := Nat × Gro × List Value × List Ty × Hp) (fun q => [(0, .slice al l.length cl), (3, q.2.1.V q.2.2.2.1.length), (4, .int .i64 (Int.ofNat (q.1)))]) (fun q => q.2.1.H 50 q.2.2.1 ++ q.2.2.2.2) (fun q => q.1 ≤ l.length ∧ q.2.2.2.1 = l.take q.1 ∧ Flat 5 (RTyT (InH q.2.2.2.2)) q.2.2.2.1 q.2.2.1 ∧ q.2.1.Ok q.2.2.2.1.length) (fun q => l.length - q.1) (0, .no, [], [], []) ⟨Nat.zero_le _, rfl, Flat.nil, rfl⟩ ⟨rfl, rfl, rfl, trivial⟩ (.refl _) (fun q hq0 => ?_)
 obtain ⟨i, g_, cs_, L, F⟩ := q
 obtain ⟨hi, hL, hF, hO⟩ := hq0
 simp only at hi hL hF hO
 have hLl : L.length = i := by rw [hL, List.length_take]; omega
 refine .seq (.seq (.region (.P2 ?_)))
 refine .G (ln22 ..) ?_
 refine .P ?_
 refine .nil (.seq (.cond rfl (fun ht10 => ?_) fun ht10 => ?_))
 ·try simp only [nz] at ht10
  have hlt : i < l.length := by omega
  obtain ⟨a, ha⟩ := gx hlt
  obtain ⟨b, off, cs, el, g, md, mate, rfl, ⟨hb, hh⟩, hle, hc⟩ := so hl hlt
  have hr := hc i a ha
  obtain ⟨ve, vf, va, hr, he, hf, hga⟩ := hr
  have heS := he
  have hfS := hf
  obtain ⟨ae, ce, rfl, hne, he⟩ := he
  obtain ⟨af, cf, rfl, hnf, hf⟩ := hf
  obtain ⟨aa, ca, rfl, hna, hga⟩ := hga
  have hw := hwl i a ha
  have k1 := hw.elems
  have k2 := hw.fields
  have k3 := hw.arms
  refine .skip (.seq (.seq (.block (.seq ?_))))
  refine .D [(13, 0), (13, 0), (13, 3), (13, 7), (1, 15), (13, 0), (13, 0), (13, 96), (13, 224), (1, 480), (11, 0), (15, 0), (15, 0), (15, 6144), (15, 14336), (3, 30720), (7, 64512), (8, 0), (12, 0), (12, 0), (12, 786432), (12, 1835008), (0, 3932160), (7, 8387584), (15, 16777215), (8, 0), (7, 67108863)] (by kernel_rfl) (by kernel_rfl) (fun base hbase hB => ?_)
  iterate 2 refine .P ?_
  refine .K underlying22 sz50 ?_
  refine .F fa50_0 ?_
  refine .loadOld rfl rfl rfl rfl rfl rfl ag3 (.base hh hb (by simp)) (cell_of_take hr (k := 0) rfl) (by first | exact hB _ _ (.head _) | exact hB _ _ (.tail _ (.head _)) | exact hB _ _ (.tail _ (.tail _ (.head _))) | exact hB _ _ (.tail _ (.tail _ (.tail _ (.head _)))) | exact hB _ _ (List.mem_append_right _ (.head _)) | exact hB _ _ (List.mem_append_right _ (.tail _ (.head _))) | exact Nat.lt_of_lt_of_le ‹_› hbase) ?_
  iterate 2 refine .P ?_
  refine .K underlying22 sz50 ?_
  refine .F fa50_2 ?_
  refine .loadOld rfl rfl rfl rfl rfl rfl ag9 (.base hh hb (by simp)) (cell_of_take hr (k := 2) rfl) (by first | exact hB _ _ (.head _) | exact hB _ _ (.tail _ (.head _)) | exact hB _ _ (.tail _ (.tail _ (.head _))) | exact hB _ _ (.tail _ (.tail _ (.tail _ (.head _)))) | exact hB _ _ (List.mem_append_right _ (.head _)) | exact hB _ _ (List.mem_append_right _ (.tail _ (.head _))) | exact Nat.lt_of_lt_of_le ‹_› hbase) ?_
  refine .buildSlice rfl rfl rfl rfl rfl rfl (bs32_0) (fun b23 hn23 hb23 => ?_)
  iterate 2 refine .P ?_
  refine .K underlying22 sz50 ?_
  refine .F fa50_1 ?_
  refine .loadOld rfl rfl rfl rfl rfl rfl ag32 (.base hh hb (by simp)) (cell_of_take hr (k := 1) rfl) (by first | exact hB _ _ (.head _) | exact hB _ _ (.tail _ (.head _)) | exact hB _ _ (.tail _ (.tail _ (.head _))) | exact hB _ _ (.tail _ (.tail _ (.tail _ (.head _)))) | exact hB _ _ (List.mem_append_right _ (.head _)) | exact hB _ _ (List.mem_append_right _ (.tail _ (.head _))) | exact Nat.lt_of_lt_of_le ‹_› hbase) ?_
  refine .appendNewSl (.inr ⟨_, rfl⟩) (R := RInt) (l0 := []) (l := a.elems) (L := a.elems) (g := .emp b23) (cs := []) rfl .one Flat.nil rfl (heS) ((Mem.sees rfl rfl)) RInt.flats (by simp; omega) rfl rfl (by kernel_rfl) rfl rfl rfl rfl underlying32 underlying32 ap3 rfl rfl (fun g1 cs1 hF1 hO1 => ?_)
  have hS1 := Gro.sl (el := 3) hF1 hO1 (by first | omega | (simp; omega))
  obtain ⟨a1, c1, hh29, -, -⟩ := id hS1
  rw [hh29] at hS1
  refine .as 29 (.slice a1 a.elems.length c1) rfl hh29 ?_
  refine .buildSlice rfl rfl rfl rfl rfl rfl (bs47_0) (fun b30 hn30 hb30 => ?_)
  iterate 2 refine .P ?_
  refine .K underlying22 sz50 ?_
  refine .F fa50_3 ?_
  refine .loadOld rfl rfl rfl rfl rfl rfl ag47 (.base hh hb (by simp)) (cell_of_take hr (k := 3) rfl) (by first | exact hB _ _ (.head _) | exact hB _ _ (.tail _ (.head _)) | exact hB _ _ (.tail _ (.tail _ (.head _))) | exact hB _ _ (.tail _ (.tail _ (.tail _ (.head _)))) | exact hB _ _ (List.mem_append_right _ (.head _)) | exact hB _ _ (List.mem_append_right _ (.tail _ (.head _))) | exact Nat.lt_of_lt_of_le ‹_› hbase) ?_
  refine .appendNewSl (.inr ⟨_, rfl⟩) (R := RFld) (l0 := []) (l := a.fields) (L := a.fields) (g := .emp b30) (cs := []) rfl .one Flat.nil rfl (hfS) ((Mem.sees rfl rfl)) RFld.flats (by simp; omega) rfl rfl (by kernel_rfl) rfl rfl rfl rfl underlying47 underlying47 ap132 rfl rfl (fun g2 cs2 hF2 hO2 => ?_)
  have hS2 := Gro.sl (el := 132) hF2 hO2 (by first | omega | (simp; omega))
  obtain ⟨a2, c2, hh36, -, -⟩ := id hS2
  rw [hh36] at hS2
  refine .as 36 (.slice a2 a.fields.length c2) rfl hh36 ?_
  refine .p (v := .agg ⟨[.int .i64 a.kind, .slice a1 a.elems.length c1, .string a.name, .slice a2 a.fields.length c2, .slice none 0 0]⟩) rfl rfl rfl rfl (by kernel_rfl) ?_
  refine .alloc rfl rfl rfl rfl rfl zr50 (fun b5 hn5 hb5 => ?_)
  refine .store rfl rfl (by kernel_rfl) (by kernel_rfl) rfl rfl rfl rfl rfl sz50 rfl (by first | exact .head | exact .tail .head | exact .tail (.tail .head) | exact .tail (.tail (.tail .head)) | exact updo) rfl ?_
  refine .nil (.seq (.seq (.seq (.region (.P ?_)))))
  refine .nil (.seq (.block ?_))
  refine .loop (α := Nat × Gro × List Value × List Arm × Hp × Value) (fun q => [(0, .slice (some ⟨b, off, none⟩) l.length cl), (3, g_.V L.length), (4, .int .i64 (Int.ofNat (i))), (5, ptr b5), (6, .int .i64 (Int.ofNat (q.1)))]) (fun q => (b5, .cells [.int .i64 a.kind, .slice a1 a.elems.length c1, .string a.name, .slice a2 a.fields.length c2, q.2.2.2.2.2] 50 false .plain none) :: (q.2.1.H 55 q.2.2.1 ++ (q.2.2.2.2.1 ++ (g_.H 50 cs_ ++ F)))) (fun q => q.1 ≤ a.arms.length ∧ q.2.2.2.1 = a.arms.take q.1 ∧ Flat 2 (RArm (InH q.2.2.2.2.1)) q.2.2.2.1 q.2.2.1 ∧ q.2.1.Ok q.2.2.2.1.length ∧ q.2.2.2.2.2 = q.2.1.V q.2.2.2.1.length ∧ Sl (InH q.2.2.2.2.1) 1 RInt a.elems (.slice a1 a.elems.length c1) ∧ (Sl (InH q.2.2.2.2.1) 2 RFld a.fields (.slice a2 a.fields.length c2) ∧ Tight (InH q.2.2.2.2.1) a.fields.length (.slice a2 a.fields.length c2))) (fun q => a.arms.length - q.1) (0, .no, [], [], (g2.H 132 cs2 ++ g1.H 3 cs1), .slice none 0 0) ⟨Nat.zero_le _, rfl, Flat.nil, rfl, rfl, hS1.mono inB fun _ _ h => h, hS2.mono inA fun _ _ h => h, (hh36 ▸ Tight.gro hO2 : Tight (InH (g2.H 132 cs2)) a.fields.length (.slice a2 a.fields.length c2)).mono inA⟩ ⟨rfl, rfl, rfl, rfl, rfl, trivial⟩ own_sub (fun q hq0 => ?_)
  obtain ⟨k, g3, cs3, L3, F2, w⟩ := q
  obtain ⟨hk, hL3, hF3, hO3, hw3, hSe, hSf⟩ := hq0
  simp only at hk hL3 hF3 hO3 hw3 hSe hSf
  have hL3l : L3.length = k := by rw [hL3, List.length_take]; omega
  refine .seq (.seq (.region (.P3 ?_)))
  refine .K underlying22 sz50 ?_
  refine .F fa50_4 ?_
  refine .M ag48 (.base hh hb (by simp)) (cell_of_take hr (k := 4) rfl) ?_
  refine .G (ln48 ..) ?_
  refine .P ?_
  refine .nil (.seq (.cond rfl (fun ht45 => ?_) fun ht45 => ?_))
  ·try simp only [nz] at ht45
   have hltX : k < a.arms.length := by omega
   obtain ⟨x, hx⟩ := gx hltX
   obtain ⟨bX, offX, csX, elX, gX, mdX, mateX, rfl, ⟨hbX, hhX⟩, hleX, hcX⟩ := so hga hltX
   have hrx := hcX k x hx
   obtain ⟨vx, hrx, hxS⟩ := hrx
   have k4 := hw.afields k x hx
   refine .skip (.seq (.seq (.block ?_)))
   refine .D [(13, 0), (1, 1), (13, 0), (13, 0), (13, 12), (13, 28), (1, 60), (13, 0), (13, 252), (13, 508), (1, 1020), (11, 0), (15, 0), (15, 0), (15, 12288), (15, 28672), (3, 61440), (15, 0), (15, 258048), (15, 520192), (3, 1044480), (7, 2095104), (15, 4194300), (11, 8388604), (7, 16777215), (15, 33554431), (7, 67108863)] (by kernel_rfl) (by kernel_rfl) (fun base hbase hB => ?_)
   refine .F fa50_4 ?_
   refine .R ag48 hB ?_
   refine .as 49 (g3.V L3.length) rfl hw3 ?_
   iterate 2 refine .P ?_
   refine .K underlying22 sz50 ?_
   refine .F fa50_4 ?_
   refine .loadOld rfl rfl rfl rfl rfl rfl ag48 (.base hh hb (by simp)) (cell_of_take hr (k := 4) rfl) (by first | exact hB _ _ (.head _) | exact hB _ _ (.tail _ (.head _)) | exact hB _ _ (.tail _ (.tail _ (.head _))) | exact hB _ _ (.tail _ (.tail _ (.tail _ (.head _)))) | exact hB _ _ (List.mem_append_right _ (.head _)) | exact hB _ _ (List.mem_append_right _ (.tail _ (.head _))) | exact Nat.lt_of_lt_of_le ‹_› hbase) ?_
   refine .P ?_
   refine .K underlying48 sz55 ?_
   refine .F fa55_0 ?_
   refine .loadOld rfl rfl rfl rfl rfl rfl ag9 (.base hhX hbX (by simp)) (cell_of_take hrx (k := 0) rfl) (by first | exact hB _ _ (.head _) | exact hB _ _ (.tail _ (.head _)) | exact hB _ _ (.tail _ (.tail _ (.head _))) | exact hB _ _ (.tail _ (.tail _ (.tail _ (.head _)))) | exact hB _ _ (List.mem_append_right _ (.head _)) | exact hB _ _ (List.mem_append_right _ (.tail _ (.head _))) | exact Nat.lt_of_lt_of_le ‹_› hbase) ?_
   refine .buildSlice rfl rfl rfl rfl rfl rfl (bs47_0) (fun b59 hn59 hb59 => ?_)
   iterate 2 refine .P ?_
   refine .K underlying22 sz50 ?_
   refine .F fa50_4 ?_
   refine .loadOld rfl rfl rfl rfl rfl rfl ag48 (.base hh hb (by simp)) (cell_of_take hr (k := 4) rfl) (by first | exact hB _ _ (.head _) | exact hB _ _ (.tail _ (.head _)) | exact hB _ _ (.tail _ (.tail _ (.head _))) | exact hB _ _ (.tail _ (.tail _ (.tail _ (.head _)))) | exact hB _ _ (List.mem_append_right _ (.head _)) | exact hB _ _ (List.mem_append_right _ (.tail _ (.head _))) | exact Nat.lt_of_lt_of_le ‹_› hbase) ?_
   refine .P ?_
   refine .K underlying48 sz55 ?_
   refine .F fa55_1 ?_
   refine .loadOld rfl rfl rfl rfl rfl rfl ag47 (.base hhX hbX (by simp)) (cell_of_take hrx (k := 1) rfl) (by first | exact hB _ _ (.head _) | exact hB _ _ (.tail _ (.head _)) | exact hB _ _ (.tail _ (.tail _ (.head _))) | exact hB _ _ (.tail _ (.tail _ (.tail _ (.head _)))) | exact hB _ _ (List.mem_append_right _ (.head _)) | exact hB _ _ (List.mem_append_right _ (.tail _ (.head _))) | exact Nat.lt_of_lt_of_le ‹_› hbase) ?_
   refine .appendNewSl (.inr ⟨_, rfl⟩) (R := RFld) (l0 := []) (l := x.fields) (L := x.fields) (g := .emp b59) (cs := []) rfl .one Flat.nil rfl (hxS) ((Mem.sees rfl rfl)) RFld.flats (by simp; omega) rfl rfl (by kernel_rfl) rfl rfl rfl rfl underlying47 underlying47 ap132 rfl rfl (fun g4 cs4 hF4 hO4 => ?_)
   have hS4 := Gro.sl (el := 132) hF4 hO4 (by first | omega | (simp; omega))
   obtain ⟨a4, c4, hh69, -, -⟩ := id hS4
   rw [hh69] at hS4
   refine .as 69 (.slice a4 x.fields.length c4) rfl hh69 ?_
   refine .p (v := .agg ⟨[.string x.name, .slice a4 x.fields.length c4]⟩) rfl rfl rfl rfl (by kernel_rfl) ?_
   refine .buildSlice rfl rfl rfl rfl rfl rfl (bs48_1 ..) (fun b71 hn71 hb71 => ?_)
   refine .appendSl (R := RArm (InH (g4.H 132 cs4 ++ F2))) (l0 := L3) (l := [x]) (L := (L3 ++ [x])) (g := g3) (cs := cs3) rfl (.tail (.over (.tail .here))) (flat_mono hF3 (RArm.mono inB)) hO3 (Sl.single (R := RArm (InH (g4.H 132 cs4 ++ F2))) (b := b71) (c := 1) (el := 55) (g := false) (md := .plain) (mate := none) ⟨_, rfl, hS4.mono inA fun _ _ h => h⟩ rfl) ((InH.sees (by intro p hp; rw [List.mem_singleton.1 hp]; exact List.mem_cons_self))) RArm.flats (by simp; omega) rfl rfl (by kernel_rfl) (by kernel_rfl) rfl rfl rfl rfl underlying48 underlying48 ap55 rfl rfl (fun g5 cs5 hF5 hO5 => ?_)
   have hS5 := Gro.sl (el := 55) hF5 hO5 (by simp; omega)
   obtain ⟨a5, c5, hw5, -, -⟩ := hS5
   refine .as 72 (.slice a5 (L3 ++ [x]).length c5) rfl hw5 ?_
   refine .F fa50_4 ?_
   refine .store rfl rfl (by kernel_rfl) (by kernel_rfl) rfl rfl rfl rfl rfl sz48 rfl (by first | exact .head | exact .tail .head | exact .tail (.tail .head) | exact .tail (.tail (.tail .head)) | exact updo) rfl ?_
   refine .nil (.blk (.seq (.region (.P2 ?_))))
   refine .W 47 k ?_
   refine .P ?_
   refine .nil (.swap own_perm1 ?_)
   exact .loop (k + 1, g5, cs5, L3 ++ [x], g4.H 132 cs4 ++ F2, _) ⟨hltX, by rw [hL3, take_succ' hx], hF5, hO5, hw5.symm, hSe.mono inB fun _ _ h => h, ⟨hSf.1.mono inB fun _ _ h => h, hSf.2.mono inB⟩⟩ (by show a.arms.length - (k + 1) < a.arms.length - k; omega) ⟨rfl, rfl, rfl, rfl, rfl, trivial⟩ (.cons _ (.refl _))
  try simp only [nz] at ht45
  have hke : k = a.arms.length := by omega
  have hSa : Sl (InH (g3.H 55 cs3 ++ (F2 ++ F))) 2 (RArm (InH (g3.H 55 cs3 ++ (F2 ++ F)))) a.arms w := by exact own_arms hF3 hO3 hL3 (by omega) hw3 (by omega)
  refine .exit (.seq (.loop (.here (.seq (.region (.P ?_))))))
  refine .E ag50 sz50 ?_
  refine .buildSlice rfl rfl rfl rfl rfl (bs22_1 ..) (fun b76 hb76 => ?_)
  refine .appendSl (R := RTyT (InH (g3.H 55 cs3 ++ (F2 ++ F)))) (l0 := L) (l := [a]) (L := (L ++ [a])) (g := g_) (cs := cs_) rfl (.tail (.tail (.over (.over .here)))) (flat_mono hF (RTyT.mono fun b o h => inB b o (inB b o h))) hO (Sl.single (R := RTyT (InH (g3.H 55 cs3 ++ (F2 ++ F)))) (b := b76) (c := 1) (el := 50) (g := false) (md := .plain) (mate := none) ⟨⟨_, _, _, rfl, hSe.mono (fun b o h => inB b o (inA b o h)) fun _ _ h => h, hSf.1.mono (fun b o h => inB b o (inA b o h)) fun _ _ h => h, hSa⟩, fun vf h => by cases h; exact hSf.2.mono fun b o h => inB b o (inA b o h)⟩ rfl) ((InH.sees (by intro p hp; rw [List.mem_singleton.1 hp]; exact List.mem_cons_self))) RTyT.flats (by simp; omega) rfl rfl rfl rfl underlying22 underlying22 ap50 rfl rfl (fun g6 cs6 hF6 hO6 => ?_)
  refine .P ?_
  refine .nil (.blk (.seq (.region (.P2 ?_))))
  refine .W 12 i ?_
  refine .P ?_
  refine .nil ?_
  exact .loop (i + 1, g6, cs6, L ++ [a], g3.H 55 cs3 ++ (F2 ++ F)) ⟨by omega, by rw [hL, take_succ' ha], hF6, hO6⟩ (by show l.length - (i + 1) < l.length - i; omega) ⟨rfl, rfl, rfl, trivial⟩ (List.Sublist.append_left (.cons _ (.cons _ (.refl _))) _)
 try simp only [nz] at ht10
 refine .exit (.seq (.loop (.here (.seq (.seq (.region (.P2 ?_)))))))
 refine .nil (.seq (.ret ?_))
 exact .end_ rfl rfl (fun m hm => ⟨(g_.H 50 cs_ ++ F, g_.V L.length), own_fin hF hO hL (by omega) (by omega), rfl, hm.ext, hm.news (.refl _)⟩)
theorem awake_ok {m : AW} : Fc prog 13 [] m fun v m' => v = .bool true ∧ Ext m m' := Fc.said func13 (by kernel_rfl) rfl rfl fewer ⟨rfl, fun p hp => by cases hp⟩

/-! Right tables, and what is asked of them. -/
theorem first_zero {f : Ty → Int} {l : List Ty} (h : firstE f l = 0) (i : Nat) (x : Ty) (hx : l[i]? = some x) : f x = 0 := by
 unfold firstE at h
 cases hf : l.find? (fun t => decide (f t ≠ 0)) with
 | none =>
  rw [List.find?_eq_none] at hf
  simpa using hf x (List.mem_of_getElem? hx)
 | some y =>
  rw [hf] at h
  have := List.find?_some hf
  simp only [decide_eq_true_eq] at this
  exact absurd h this
structure Fine (l : List Ty) : Prop where
 well : Well l
 fit : ∀ (i : Nat) (a : Ty), l[i]? = some a → fitE l a = 0
 rank : ∃ r sz, Ranked l r ∧ (∀ u, r u ≤ l.length) ∧ SzFix l sz
theorem ChkP.fine {l : List Ty} (h : ChkP l 0) : Fine l := by
 rcases h with ⟨h1, h2⟩ | ⟨_, h1, h2⟩ | ⟨h1, h2, hb, h3⟩
 ·exact absurd h2.symm h1
 ·exact absurd h2.symm h1
 rcases h3 with ⟨_, h3⟩ | ⟨r, sz, hr, hz, _⟩
 ·cases h3
 obtain ⟨r', h4, h5⟩ := hr.small hb
 exact ⟨⟨fun i a ha => first_zero h1 i a ha⟩, fun i a ha => first_zero h2 i a ha, r', sz, h4, h5, hz⟩
theorem AskP.fine {l : List Ty} {ts : List Int} (h : AskP l ts 0) : Fine l := h.well.1.fine
theorem AskP.at1 {l : List Ty} {t : Int} (h : AskP l [t] 0) : ∃ (q : Nat) (a : Ty), t = Int.ofNat q ∧ q < l.length ∧ l[q]? = some a := by
 have hin := h.well.2 0 t rfl
 obtain ⟨q, rfl⟩ := Int.eq_ofNat_of_zero_le hin.1
 have hq : q < l.length := by omega
 exact ⟨q, l[q], rfl, hq, List.getElem?_eq_getElem hq⟩
/-! Where fields lie. -/
end Go.Proofs.YtmfbljaemhpokaaGreatDoor
