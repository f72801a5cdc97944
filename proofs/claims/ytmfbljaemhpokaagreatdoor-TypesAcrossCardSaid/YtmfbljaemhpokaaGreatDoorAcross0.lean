/-
  TypesAcross: the functions that it calls, followed, 0. Conditions: none.
-/
import Derived.Test.YtmfbljaemhpokaaGreatDoorAwk
import Derived.Test.YtmfbljaemhpokaaGreatDoorGra
namespace Go.Proofs.YtmfbljaemhpokaaGreatDoor
open Go Go.Ab
set_option linter.unusedVariables false
set_option linter.unusedSimpArgs false
set_option linter.unusedSectionVars false
open Tryz
theorem gx {α : Type} {l : List α} {i : Nat} (h : i < l.length) : ∃ w, l[i]? = some w := ⟨_, List.getElem?_eq_getElem h⟩
theorem so {α : Type} {l : List α} {i : Nat} {P Q : Prop} (h : l = [] ∧ P ∨ Q) (k : i < l.length) : Q := h.elim (fun h => by rw [h.1] at k; simp at k) id
abbrev FA (t i k : Nat) : Prop := ∀ b off, fieldAddrA Tryz.prog t (.pointer (some ⟨b, off, none⟩)) i = some (.pointer (some ⟨b, off + k, none⟩))
abbrev LN (t : Nat) : Prop := ∀ a n c, lenA Tryz.prog t (.slice a n c) = some (.imm (.int .i64 (Int.ofNat n)))
theorem nz : (∀ a b, (ltI a b = true) = (a < b)) ∧ (∀ a b, (ltI a b = false) = (b ≤ a)) ∧ (∀ a b, (eqI a b = true) = (a = b)) ∧ (∀ a b, (eqI a b = false) = (a ≠ b)) ∧ (∀ a b : ByteArray, (eqBytes a.data.toList b.data.toList = true) = (a = b)) ∧ (∀ a b : ByteArray, (eqBytes a.data.toList b.data.toList = false) = (a ≠ b)) ∧ (∀ a : ByteArray, (eqBytes a.data.toList [] = true) = (a.size = 0)) ∧ (∀ a : ByteArray, (eqBytes a.data.toList [] = false) = (a.size ≠ 0)) ∧ (∀ n : Nat, Int.ofNat n = (n : Int)) ∧ (∀ b : Bool, ((!b) = true) = (b = false)) ∧ (∀ b : Bool, ((!b) = false) = (b = true)) ∧ (∀ (p : Prop) [Decidable p], (decide p = true) = p) ∧ (∀ (p : Prop) [Decidable p], (decide p = false) = ¬ p) :=
  ⟨nrm_lt, nrm_nlt, nrm_eq, nrm_neq, nrm_seq, nrm_sneq, nrm_sempty, nrm_snempty, nrm_ofNat, fun b => by cases b <;> simp, fun b => by cases b <;> simp, fun _ _ => decide_eq_true_eq, fun _ _ => propext decide_eq_false_iff_not⟩
theorem nb : (¬ (false = true)) ∧ (∀ p : Prop, (True ↔ p) ↔ p) ∧ (∀ p : Prop, (False ↔ p) ↔ ¬ p) ∧ (∀ p : Prop, (p ↔ True) ↔ p) ∧ (∀ p : Prop, (p ↔ False) ↔ ¬ p) ∧ (∀ p : Prop, ¬ ¬ p ↔ p) :=
  ⟨by decide, fun _ => true_iff _ ▸ Iff.rfl, fun _ => false_iff _ ▸ Iff.rfl, fun _ => iff_true _ ▸ Iff.rfl, fun _ => iff_false _ ▸ Iff.rfl, fun _ => Classical.not_not⟩
theorem nq : (∀ k n, shapeP k n = ((k = 6 ∨ k = 7 ∨ k = 8 ∨ k = 9) ∧ n = 1 ∨ k = 11 ∧ 2 ≤ n ∨ k = 12 ∧ 1 ≤ n ∨ (k ≠ 6 ∧ k ≠ 7 ∧ k ≠ 8 ∧ k ≠ 9 ∧ k ≠ 11 ∧ k ≠ 12) ∧ n = 0)) ∧ (∀ c, letterP c = (97 ≤ c ∧ c ≤ 122 ∨ 65 ≤ c ∧ c ≤ 90 ∨ c = 95)) ∧ (∀ c, charP c = ((97 ≤ c ∧ c ≤ 122 ∨ 65 ≤ c ∧ c ≤ 90 ∨ c = 95) ∨ 48 ≤ c ∧ c ≤ 57)) := ⟨fun _ _ => rfl, fun _ => rfl, fun _ => rfl⟩

theorem ag104 : aggT prog 104 = some false := by kernel_rfl
theorem ag132 : aggT prog 132 = some true := by kernel_rfl
theorem ag155 : aggT prog 155 = some false := by kernel_rfl
theorem ag161 : aggT prog 161 = some false := by kernel_rfl
theorem ag165 : aggT prog 165 = some true := by kernel_rfl
theorem ag22 : aggT prog 22 = some false := by kernel_rfl
theorem ag25 : aggT prog 25 = some false := by kernel_rfl
theorem ag3 : aggT prog 3 = some false := by kernel_rfl
theorem ag32 : aggT prog 32 = some false := by kernel_rfl
theorem ag4 : aggT prog 4 = some false := by kernel_rfl
theorem ag47 : aggT prog 47 = some false := by kernel_rfl
theorem ag48 : aggT prog 48 = some false := by kernel_rfl
theorem ag5 : aggT prog 5 = some false := by kernel_rfl
theorem ag50 : aggT prog 50 = some true := by kernel_rfl
theorem ag55 : aggT prog 55 = some true := by kernel_rfl
theorem ag9 : aggT prog 9 = some false := by kernel_rfl
theorem ag96 : aggT prog 96 = some false := by kernel_rfl
theorem ag99 : aggT prog 99 = some false := by kernel_rfl
theorem ap132 : AppC prog 132 2 = true := by kernel_rfl
theorem ap165 : AppC prog 165 2 = true := by kernel_rfl
theorem ap3 : AppC prog 3 1 = true := by kernel_rfl
theorem ap50 : AppC prog 50 5 = true := by kernel_rfl
theorem ap55 : AppC prog 55 2 = true := by kernel_rfl
theorem ap99 : AppC prog 99 1 = true := by kernel_rfl
theorem bs104_1 : ∀ (x0 x1 : Value), buildSliceA prog 104 1 [(0, .agg ⟨[x0, x1]⟩)] = some (.cells [x0, x1] 165 false .plain none, sliceTo 1 1) := fun _ _ => by kernel_rfl
theorem bs22_0 : buildSliceA prog 22 0 [] = some (.cells [] 50 false .plain none, sliceTo 0 0) := by kernel_rfl
theorem bs22_1 : ∀ (x0 x1 x2 x3 x4 : Value), buildSliceA prog 22 1 [(0, .agg ⟨[x0, x1, x2, x3, x4]⟩)] = some (.cells [x0, x1, x2, x3, x4] 50 false .plain none, sliceTo 1 1) := fun _ _ _ _ _ => by kernel_rfl
theorem bs32_0 : buildSliceA prog 32 0 [] = some (.cells [] 3 false .plain none, sliceTo 0 0) := by kernel_rfl
theorem bs32_1 : ∀ (a : Int), buildSliceA prog 32 1 [(0, .int .i64 a)] = some (.cells [.int .i64 a] 3 false .plain none, sliceTo 1 1) := fun _ => by kernel_rfl
theorem bs47_0 : buildSliceA prog 47 0 [] = some (.cells [] 132 false .plain none, sliceTo 0 0) := by kernel_rfl
theorem bs47_1 : ∀ (x0 x1 : Value), buildSliceA prog 47 1 [(0, .agg ⟨[x0, x1]⟩)] = some (.cells [x0, x1] 132 false .plain none, sliceTo 1 1) := fun _ _ => by kernel_rfl
theorem bs48_1 : ∀ (x0 x1 : Value), buildSliceA prog 48 1 [(0, .agg ⟨[x0, x1]⟩)] = some (.cells [x0, x1] 55 false .plain none, sliceTo 1 1) := fun _ _ => by kernel_rfl
theorem bs97_1 : ∀ b n, buildSliceA prog 97 1 [(0, .slice (some ⟨b, 0, none⟩) n n)] = some (.cells [.slice (some ⟨b, 0, none⟩) n n] 99 false .plain none, sliceTo 1 1) := fun _ _ => by kernel_rfl
theorem fa106_0 : FA 106 0 0 := fun _ _ => by kernel_rfl
theorem fa132_0 : FA 132 0 0 := fun _ _ => by kernel_rfl
theorem fa132_1 : FA 132 1 1 := fun _ _ => by kernel_rfl
theorem fa157_0 : FA 157 0 0 := fun _ _ => by kernel_rfl
theorem fa157_1 : FA 157 1 1 := fun _ _ => by kernel_rfl
theorem fa163_0 : FA 163 0 0 := fun _ _ => by kernel_rfl
theorem fa163_1 : FA 163 1 1 := fun _ _ => by kernel_rfl
theorem fa38_0 : FA 38 0 0 := fun _ _ => by kernel_rfl
theorem fa38_1 : FA 38 1 1 := fun _ _ => by kernel_rfl
theorem fa50_0 : FA 50 0 0 := fun _ _ => by kernel_rfl
theorem fa50_1 : FA 50 1 1 := fun _ _ => by kernel_rfl
theorem fa50_2 : FA 50 2 2 := fun _ _ => by kernel_rfl
theorem fa50_3 : FA 50 3 3 := fun _ _ => by kernel_rfl
theorem fa50_4 : FA 50 4 4 := fun _ _ => by kernel_rfl
theorem fa55_0 : FA 55 0 0 := fun _ _ => by kernel_rfl
theorem fa55_1 : FA 55 1 1 := fun _ _ => by kernel_rfl
theorem ln104 : LN 104 := fun _ _ _ => by kernel_rfl
theorem ln109 : LN 109 := fun _ _ _ => by kernel_rfl
theorem ln22 : LN 22 := fun _ _ _ => by kernel_rfl
theorem ln32 : LN 32 := fun _ _ _ => by kernel_rfl
theorem ln47 : LN 47 := fun _ _ _ => by kernel_rfl
theorem ln48 : LN 48 := fun _ _ _ => by kernel_rfl
theorem ln9 : ∀ s, lenA prog 9 (.string s) = some (.imm (.int .i64 (Int.ofNat s.size))) := fun _ => by kernel_rfl
theorem sz104 : sizeT prog 104 = some 1 := by kernel_rfl
theorem sz132 : sizeT prog 132 = some 2 := by kernel_rfl
theorem sz165 : sizeT prog 165 = some 2 := by kernel_rfl
theorem sz25 : sizeT prog 25 = some 1 := by kernel_rfl
theorem sz3 : sizeT prog 3 = some 1 := by kernel_rfl
theorem sz32 : sizeT prog 32 = some 1 := by kernel_rfl
theorem sz4 : sizeT prog 4 = some 1 := by kernel_rfl
theorem sz48 : sizeT prog 48 = some 1 := by kernel_rfl
theorem sz5 : sizeT prog 5 = some 1 := by kernel_rfl
theorem sz50 : sizeT prog 50 = some 5 := by kernel_rfl
theorem sz55 : sizeT prog 55 = some 2 := by kernel_rfl
theorem sz96 : sizeT prog 96 = some 1 := by kernel_rfl
theorem sz99 : sizeT prog 99 = some 1 := by kernel_rfl
theorem zr132 : zeroT prog 132 = some (.agg ⟨[.string ⟨⟨[]⟩⟩, .int .i64 0]⟩) := by kernel_rfl
theorem zr25 : zeroT prog 25 = some (.int .i64 0) := by kernel_rfl
theorem zr3 : zeroT prog 3 = some (.int .i64 0) := by kernel_rfl
theorem zr32 : zeroT prog 32 = some (.slice none 0 0) := by kernel_rfl
theorem zr4 : zeroT prog 4 = some (.bool false) := by kernel_rfl
theorem zr50 : zeroT prog 50 = some (.agg ⟨[.int .i64 0, .slice none 0 0, .string ⟨⟨[]⟩⟩, .slice none 0 0, .slice none 0 0]⟩) := by kernel_rfl
theorem zr55 : zeroT prog 55 = some (.agg ⟨[.string ⟨⟨[]⟩⟩, .slice none 0 0]⟩) := by kernel_rfl
theorem zr96 : zeroT prog 96 = some (.nilFunc) := by kernel_rfl
theorem short_ok {l : List Fld} {v : Value} {m : AW} (hm : m.lo ≤ m.next) (hl : Sl (Mem m) 2 RFld l v) : Fc prog 50 [v] m fun v m' => v = .bool (shortB l) ∧ Ext m m' := by
 obtain ⟨a, cap, rfl, hn, hl⟩ := hl
 refine Fc.body (c := _) func50 rfl rfl rfl rfl hm ?_
 refine .seq (.region (.P ?_))
 refine .nil (.seq (.seq (.seq (.region (.P ?_)))))
 refine .G (ln47 ..) ?_
 refine .P ?_
 refine .nil (.seq (.cond rfl (fun hc0 => ?_) fun hc0 => ?_))
 ·try simp only [nz] at hc0
  refine .seq (.region (.P ?_))
  refine .nil (.seq (.ret (.seq ?_)))
  exact .end_ rfl rfl (fun m hm => ⟨congrArg Value.bool (by unfold shortB; rw [decide_eq_false (by omega)]; rfl), hm.ext⟩)
 try simp only [nz] at hc0
 refine .skip (.seq (.seq (.seq (.region (.P ?_)))))
 refine .nil (.seq (.block ?_))
 refine .loop (α := Nat) (fun i => [(0, .slice a l.length cap), (3, .int .i64 (Int.ofNat (i)))]) (fun i => []) (fun i => i ≤ l.length ∧ ∀ (j : Nat) (x : Fld), j < i → l[j]? = some x → x.name.size ≤ 50) (fun i => l.length - i) 0 ⟨Nat.zero_le _, fun _ _ h => (by cases h)⟩ ⟨rfl, rfl, trivial⟩ (List.nil_sublist _) (fun i hi => ?_)
 refine .seq (.seq (.region (.P2 ?_)))
 refine .G (ln47 ..) ?_
 refine .P ?_
 refine .nil (.seq (.cond rfl (fun hc1 => ?_) fun hc1 => ?_))
 ·try simp only [nz] at hc1
  have hlt : i < l.length := by omega
  obtain ⟨x, hx⟩ := gx hlt
  obtain ⟨b, off, cs, el, g, md, mate, rfl, ⟨hb, hh⟩, hle, hc⟩ := so hl hlt
  have hr := hc i x hx
  refine .skip (.seq (.seq (.block (.seq (.region (.P2 ?_))))))
  refine .K underlying47 sz132 ?_
  refine .F fa132_0 ?_
  refine .M ag9 (.base hh hb (by simp)) (cell_of_take hr (k := 0) rfl) ?_
  refine .G (ln9 ..) ?_
  refine .P ?_
  refine .nil (.seq (.cond rfl (fun hc2 => ?_) fun hc2 => ?_))
  ·try simp only [nz] at hc2
   refine .seq (.region (.P ?_))
   refine .nil (.seq (.ret (.blk (.seq (.loop (.blk (.seq ?_)))))))
   exact .end_ rfl rfl (fun m hm => ⟨congrArg Value.bool (by unfold shortB; rw [all_not hx (decide_eq_false (by omega)), Bool.and_false]), hm.ext⟩)
  try simp only [nz] at hc2
  refine .skip (.blk (.seq (.region (.P2 ?_))))
  refine .W 12 i ?_
  refine .P ?_
  refine .nil ?_
  exact .loop (i + 1) ⟨hlt, upto_succ hi.2 hx (by omega)⟩ (by omega) ⟨rfl, rfl, trivial⟩ (List.nil_sublist _)
 try simp only [nz] at hc1
 refine .exit (.seq (.loop (.here (.seq (.seq (.region (.P ?_)))))))
 refine .nil (.seq (.ret ?_))
 exact .end_ rfl rfl (fun m hm => ⟨congrArg Value.bool (by unfold shortB; rw [decide_eq_true (by omega), all_of fun j x hj hx => decide_eq_true (hi.2 j x (by omega) hx)]; rfl), hm.ext⟩)
theorem shaped_ok {t : Ty} {cs : List Value} {m : AW} (hm : m.lo ≤ m.next) (ht : RTy (Mem m) t cs) : Fc prog 93 [.agg ⟨cs⟩] m fun v m' => v = .bool (shapedB t) ∧ Ext m m' := by
 obtain ⟨ve, vf, va, rfl, he, hf, ha⟩ := ht
 obtain ⟨ae, ce, rfl, hne, he⟩ := he
 obtain ⟨af, cf, rfl, hnf, hf⟩ := hf
 obtain ⟨aa, ca, rfl, hna, ha⟩ := ha
 refine Fc.body (c := _) func93 rfl rfl rfl rfl hm ?_
 refine .seq (.region ?_)
 refine .box rfl rfl rfl rfl rfl (fun b1 hb1 => ?_)
 refine .P ?_
 refine .nil (.seq (.seq (.region (.F fa50_1 ?_))))
 refine .L ag32 ?_
 refine .G (ln32 ..) ?_
 refine .P ?_
 refine .nil (.seq (.seq (.region (.P3 ?_))))
 refine .nil (.seq ?_)
 refine .joinA (True) [(4, .bool (decide (shapeP t.kind t.elems.length)))] ?_ (fun _ => ?_)
 ·refine .seq (.region (.F fa50_0 ?_))
  refine .L ag3 ?_
  refine .nil (.seq (.block (.seq (.seq (.region (.P2 ?_))))))
  refine .nil (.seq (.cond rfl (fun hc0 => ?_) fun hc0 => ?_))
  ·refine .B 12 hc0 ?_
   (try simp only [nz] at hc0); try simp only [nq] at hc0
   refine .skip (.seq (.cond_true rfl (.region (.P3 ?_))))
   refine .nil (.blk ?_)
   refine .as 4 (.bool (decide (shapeP t.kind t.elems.length))) rfl (congrArg Value.bool (by apply bbx; simp only [nz, nb, reduceCtorEq]; (try simp only [nq]); omega)) ?_
   exact .J (trivial)
  refine .B 12 hc0 ?_
  (try simp only [nz] at hc0); try simp only [nq] at hc0
  refine .seq (.region (.P2 ?_))
  refine .nil (.seq (.cond rfl (fun hc1 => ?_) fun hc1 => ?_))
  ·refine .B 12 hc1 ?_
   (try simp only [nz] at hc1); try simp only [nq] at hc1
   refine .skip (.seq (.cond_true rfl (.region (.P3 ?_))))
   refine .nil (.blk ?_)
   refine .as 4 (.bool (decide (shapeP t.kind t.elems.length))) rfl (congrArg Value.bool (by apply bbx; simp only [nz, nb, reduceCtorEq]; (try simp only [nq]); omega)) ?_
   exact .J (trivial)
  refine .B 12 hc1 ?_
  (try simp only [nz] at hc1); try simp only [nq] at hc1
  refine .seq (.region (.P2 ?_))
  refine .nil (.seq (.cond rfl (fun hc2 => ?_) fun hc2 => ?_))
  ·refine .B 12 hc2 ?_
   (try simp only [nz] at hc2); try simp only [nq] at hc2
   refine .skip (.seq (.cond_true rfl (.region (.P3 ?_))))
   refine .nil (.blk ?_)
   refine .as 4 (.bool (decide (shapeP t.kind t.elems.length))) rfl (congrArg Value.bool (by apply bbx; simp only [nz, nb, reduceCtorEq]; (try simp only [nq]); omega)) ?_
   exact .J (trivial)
  refine .B 12 hc2 ?_
  (try simp only [nz] at hc2); try simp only [nq] at hc2
  refine .region (.P2 ?_)
  refine .nil (.seq (.cond rfl (fun hc3 => ?_) fun hc3 => ?_))
  ·refine .B 12 hc3 ?_
   (try simp only [nz] at hc3); try simp only [nq] at hc3
   refine .region (.P3 ?_)
   refine .nil (.blk ?_)
   refine .as 4 (.bool (decide (shapeP t.kind t.elems.length))) rfl (congrArg Value.bool (by apply bbx; simp only [nz, nb, reduceCtorEq]; (try simp only [nq]); omega)) ?_
   exact .J (trivial)
  refine .B 12 hc3 ?_
  (try simp only [nz] at hc3); try simp only [nq] at hc3
  refine .seq (.region (.P2 ?_))
  refine .nil (.seq (.cond rfl (fun hc4 => ?_) fun hc4 => ?_))
  ·(try simp only [nz] at hc4); try simp only [nq] at hc4
   refine .region (.P3 ?_)
   refine .nil (.blk ?_)
   refine .as 4 (.bool (decide (shapeP t.kind t.elems.length))) rfl (congrArg Value.bool (by apply bbx; simp only [nz, nb, reduceCtorEq]; (try simp only [nq]); omega)) ?_
   exact .J (trivial)
  (try simp only [nz] at hc4); try simp only [nq] at hc4
  refine .seq (.region (.P2 ?_))
  refine .nil (.seq (.cond rfl (fun hc5 => ?_) fun hc5 => ?_))
  ·(try simp only [nz] at hc5); try simp only [nq] at hc5
   refine .region (.P3 ?_)
   refine .nil (.blk ?_)
   refine .as 4 (.bool (decide (shapeP t.kind t.elems.length))) rfl (congrArg Value.bool (by apply bbx; simp only [nz, nb, reduceCtorEq]; (try simp only [nq]); omega)) ?_
   exact .J (trivial)
  (try simp only [nz] at hc5); try simp only [nq] at hc5
  refine .skip (.blk ?_)
  refine .as 4 (.bool (decide (shapeP t.kind t.elems.length))) rfl (congrArg Value.bool (by apply bbx; simp only [nz, nb, reduceCtorEq]; (try simp only [nq]); omega)) ?_
  exact .J (trivial)
 refine .seq (.region (.P2 ?_))
 refine .splitB 28 rfl (fun hs0 => ?_) (fun hs0 => ?_)
 ·(try simp only [nz] at hs0); try simp only [nq] at hs0
  refine .F fa50_3 ?_
  refine .L ag47 ?_
  refine .G (ln47 ..) ?_
  refine .P2 ?_
  refine .splitB 33 rfl (fun hs1 => ?_) (fun hs1 => ?_)
  ·(try simp only [nz] at hs1); try simp only [nq] at hs1
   iterate 3 refine .O ?_
   refine .P2 ?_
   iterate 3 refine .O ?_
   refine .P3 ?_
   refine .F fa50_4 ?_
   refine .L ag48 ?_
   refine .G (ln48 ..) ?_
   refine .P2 ?_
   refine .splitB 49 rfl (fun hs2 => ?_) (fun hs2 => ?_)
   ·(try simp only [nz] at hs2); try simp only [nq] at hs2
    iterate 3 refine .O ?_
    refine .P3 ?_
    refine .nil (.seq (.ret ?_))
    exact .end_ rfl rfl (fun m hm => ⟨congrArg Value.bool (by unfold shapedB; rw [Bool.eq_iff_iff]; simp only [nz, nb, reduceCtorEq]; (try simp only [nq]); omega), hm.ext⟩)
   (try simp only [nz] at hs2); try simp only [nq] at hs2
   refine .F fa50_0 ?_
   refine .L ag3 ?_
   iterate 4 refine .P ?_
   refine .nil (.seq (.ret ?_))
   exact .end_ rfl rfl (fun m hm => ⟨congrArg Value.bool (by unfold shapedB; rw [Bool.eq_iff_iff]; simp only [nz, nb, reduceCtorEq]; (try simp only [nq]); omega), hm.ext⟩)
  (try simp only [nz] at hs1); try simp only [nq] at hs1
  refine .F fa50_0 ?_
  refine .L ag3 ?_
  refine .P3 ?_
  refine .splitB 38 rfl (fun hs3 => ?_) (fun hs3 => ?_)
  ·(try simp only [nz] at hs3); try simp only [nq] at hs3
   iterate 3 refine .O ?_
   refine .P3 ?_
   refine .F fa50_4 ?_
   refine .L ag48 ?_
   refine .G (ln48 ..) ?_
   refine .P2 ?_
   refine .splitB 49 rfl (fun hs4 => ?_) (fun hs4 => ?_)
   ·(try simp only [nz] at hs4); try simp only [nq] at hs4
    iterate 3 refine .O ?_
    refine .P3 ?_
    refine .nil (.seq (.ret ?_))
    exact .end_ rfl rfl (fun m hm => ⟨congrArg Value.bool (by unfold shapedB; rw [Bool.eq_iff_iff]; simp only [nz, nb, reduceCtorEq]; (try simp only [nq]); omega), hm.ext⟩)
   (try simp only [nz] at hs4); try simp only [nq] at hs4
   refine .F fa50_0 ?_
   refine .L ag3 ?_
   iterate 4 refine .P ?_
   refine .nil (.seq (.ret ?_))
   exact .end_ rfl rfl (fun m hm => ⟨congrArg Value.bool (by unfold shapedB; rw [Bool.eq_iff_iff]; simp only [nz, nb, reduceCtorEq]; (try simp only [nq]); omega), hm.ext⟩)
  (try simp only [nz] at hs3); try simp only [nq] at hs3
  refine .F fa50_0 ?_
  refine .L ag3 ?_
  iterate 4 refine .P ?_
  refine .splitB 44 rfl (fun hs5 => ?_) (fun hs5 => ?_)
  ·(try simp only [nz] at hs5); try simp only [nq] at hs5
   refine .F fa50_4 ?_
   refine .L ag48 ?_
   refine .G (ln48 ..) ?_
   refine .P2 ?_
   refine .splitB 49 rfl (fun hs6 => ?_) (fun hs6 => ?_)
   ·(try simp only [nz] at hs6); try simp only [nq] at hs6
    iterate 3 refine .O ?_
    refine .P3 ?_
    refine .nil (.seq (.ret ?_))
    exact .end_ rfl rfl (fun m hm => ⟨congrArg Value.bool (by unfold shapedB; rw [Bool.eq_iff_iff]; simp only [nz, nb, reduceCtorEq]; (try simp only [nq]); omega), hm.ext⟩)
   (try simp only [nz] at hs6); try simp only [nq] at hs6
   refine .F fa50_0 ?_
   refine .L ag3 ?_
   iterate 4 refine .P ?_
   refine .nil (.seq (.ret ?_))
   exact .end_ rfl rfl (fun m hm => ⟨congrArg Value.bool (by unfold shapedB; rw [Bool.eq_iff_iff]; simp only [nz, nb, reduceCtorEq]; (try simp only [nq]); omega), hm.ext⟩)
  (try simp only [nz] at hs5); try simp only [nq] at hs5
  iterate 9 refine .O ?_
  refine .P2 ?_
  refine .nil (.seq (.ret ?_))
  exact .end_ rfl rfl (fun m hm => ⟨congrArg Value.bool (by unfold shapedB; rw [Bool.eq_iff_iff]; simp only [nz, nb, reduceCtorEq]; (try simp only [nq]); omega), hm.ext⟩)
 (try simp only [nz] at hs0); try simp only [nq] at hs0
 iterate 14 refine .O ?_
 refine .P2 ?_
 iterate 9 refine .O ?_
 refine .P2 ?_
 refine .nil (.seq (.ret ?_))
 exact .end_ rfl rfl (fun m hm => ⟨congrArg Value.bool (by unfold shapedB; rw [Bool.eq_iff_iff]; simp only [nz, nb, reduceCtorEq]; (try simp only [nq]); omega), hm.ext⟩)
theorem rshaped_ok {t : Ty} {cs : List Value} {m : AW} (hm : m.lo ≤ m.next) (ht : RTy (Mem m) t cs) : Fc prog 100 [.agg ⟨cs⟩] m fun v m' => v = .bool (shapedB t) ∧ Ext m m' := by
 obtain ⟨ve, vf, va, rfl, he, hf, ha⟩ := ht
 obtain ⟨ae, ce, rfl, hne, he⟩ := he
 obtain ⟨af, cf, rfl, hnf, hf⟩ := hf
 obtain ⟨aa, ca, rfl, hna, ha⟩ := ha
 refine Fc.body (c := _) func100 rfl rfl rfl rfl hm ?_
 refine .seq (.region ?_)
 refine .box rfl rfl rfl rfl rfl (fun b1 hb1 => ?_)
 refine .P ?_
 refine .nil (.seq (.seq (.region (.F fa50_1 ?_))))
 refine .L ag32 ?_
 refine .G (ln32 ..) ?_
 refine .P ?_
 refine .nil (.seq (.seq (.region (.P3 ?_))))
 refine .nil (.seq ?_)
 refine .joinA (True) [(4, .bool (decide (shapeP t.kind t.elems.length)))] ?_ (fun _ => ?_)
 ·refine .seq (.region (.F fa50_0 ?_))
  refine .L ag3 ?_
  refine .nil (.seq (.block (.seq (.seq (.region (.P2 ?_))))))
  refine .nil (.seq (.cond rfl (fun hc0 => ?_) fun hc0 => ?_))
  ·refine .B 12 hc0 ?_
   (try simp only [nz] at hc0); try simp only [nq] at hc0
   refine .skip (.seq (.cond_true rfl (.region (.P3 ?_))))
   refine .nil (.blk ?_)
   refine .as 4 (.bool (decide (shapeP t.kind t.elems.length))) rfl (congrArg Value.bool (by apply bbx; simp only [nz, nb, reduceCtorEq]; (try simp only [nq]); omega)) ?_
   exact .J (trivial)
  refine .B 12 hc0 ?_
  (try simp only [nz] at hc0); try simp only [nq] at hc0
  refine .seq (.region (.P2 ?_))
  refine .nil (.seq (.cond rfl (fun hc1 => ?_) fun hc1 => ?_))
  ·refine .B 12 hc1 ?_
   (try simp only [nz] at hc1); try simp only [nq] at hc1
   refine .skip (.seq (.cond_true rfl (.region (.P3 ?_))))
   refine .nil (.blk ?_)
   refine .as 4 (.bool (decide (shapeP t.kind t.elems.length))) rfl (congrArg Value.bool (by apply bbx; simp only [nz, nb, reduceCtorEq]; (try simp only [nq]); omega)) ?_
   exact .J (trivial)
  refine .B 12 hc1 ?_
  (try simp only [nz] at hc1); try simp only [nq] at hc1
  refine .seq (.region (.P2 ?_))
  refine .nil (.seq (.cond rfl (fun hc2 => ?_) fun hc2 => ?_))
  ·refine .B 12 hc2 ?_
   (try simp only [nz] at hc2); try simp only [nq] at hc2
   refine .skip (.seq (.cond_true rfl (.region (.P3 ?_))))
   refine .nil (.blk ?_)
   refine .as 4 (.bool (decide (shapeP t.kind t.elems.length))) rfl (congrArg Value.bool (by apply bbx; simp only [nz, nb, reduceCtorEq]; (try simp only [nq]); omega)) ?_
   exact .J (trivial)
  refine .B 12 hc2 ?_
  (try simp only [nz] at hc2); try simp only [nq] at hc2
  refine .region (.P2 ?_)
  refine .nil (.seq (.cond rfl (fun hc3 => ?_) fun hc3 => ?_))
  ·refine .B 12 hc3 ?_
   (try simp only [nz] at hc3); try simp only [nq] at hc3
   refine .region (.P3 ?_)
   refine .nil (.blk ?_)
   refine .as 4 (.bool (decide (shapeP t.kind t.elems.length))) rfl (congrArg Value.bool (by apply bbx; simp only [nz, nb, reduceCtorEq]; (try simp only [nq]); omega)) ?_
   exact .J (trivial)
  refine .B 12 hc3 ?_
  (try simp only [nz] at hc3); try simp only [nq] at hc3
  refine .seq (.region (.P2 ?_))
  refine .nil (.seq (.cond rfl (fun hc4 => ?_) fun hc4 => ?_))
  ·(try simp only [nz] at hc4); try simp only [nq] at hc4
   refine .region (.P3 ?_)
   refine .nil (.blk ?_)
   refine .as 4 (.bool (decide (shapeP t.kind t.elems.length))) rfl (congrArg Value.bool (by apply bbx; simp only [nz, nb, reduceCtorEq]; (try simp only [nq]); omega)) ?_
   exact .J (trivial)
  (try simp only [nz] at hc4); try simp only [nq] at hc4
  refine .seq (.region (.P2 ?_))
  refine .nil (.seq (.cond rfl (fun hc5 => ?_) fun hc5 => ?_))
  ·(try simp only [nz] at hc5); try simp only [nq] at hc5
   refine .region (.P3 ?_)
   refine .nil (.blk ?_)
   refine .as 4 (.bool (decide (shapeP t.kind t.elems.length))) rfl (congrArg Value.bool (by apply bbx; simp only [nz, nb, reduceCtorEq]; (try simp only [nq]); omega)) ?_
   exact .J (trivial)
  (try simp only [nz] at hc5); try simp only [nq] at hc5
  refine .skip (.blk ?_)
  refine .as 4 (.bool (decide (shapeP t.kind t.elems.length))) rfl (congrArg Value.bool (by apply bbx; simp only [nz, nb, reduceCtorEq]; (try simp only [nq]); omega)) ?_
  exact .J (trivial)
 refine .seq (.seq (.region (.F fa50_3 ?_)))
 refine .L ag47 ?_
 refine .G (ln47 ..) ?_
 refine .P2 ?_
 refine .splitB 31 rfl (fun hs0 => ?_) (fun hs0 => ?_)
 ·(try simp only [nz] at hs0); try simp only [nq] at hs0
  refine .F fa50_0 ?_
  refine .L ag3 ?_
  refine .P3 ?_
  refine .splitB 36 rfl (fun hs1 => ?_) (fun hs1 => ?_)
  ·(try simp only [nz] at hs1); try simp only [nq] at hs1
   refine .F fa50_0 ?_
   refine .L ag3 ?_
   refine .P2 ?_
   refine .nil (.seq (.cond rfl (fun hc6 => ?_) fun hc6 => ?_))
   ·(try simp only [nz] at hc6); try simp only [nq] at hc6
    refine .seq (.region (.P ?_))
    refine .nil (.seq (.ret (.seq ?_)))
    exact .end_ rfl rfl (fun m hm => ⟨congrArg Value.bool (by unfold shapedB; rw [Bool.eq_iff_iff]; simp only [nz, nb, reduceCtorEq]; (try simp only [nq]); omega), hm.ext⟩)
   (try simp only [nz] at hc6); try simp only [nq] at hc6
   refine .skip (.seq (.seq (.region (.P2 ?_))))
   refine .splitB 42 rfl (fun hs2 => ?_) (fun hs2 => ?_)
   ·(try simp only [nz] at hs2); try simp only [nq] at hs2
    refine .F fa50_4 ?_
    refine .L ag48 ?_
    refine .G (ln48 ..) ?_
    refine .P2 ?_
    refine .splitB 47 rfl (fun hs3 => ?_) (fun hs3 => ?_)
    ·(try simp only [nz] at hs3); try simp only [nq] at hs3
     iterate 3 refine .O ?_
     refine .P3 ?_
     refine .nil (.seq (.ret ?_))
     exact .end_ rfl rfl (fun m hm => ⟨congrArg Value.bool (by unfold shapedB; rw [Bool.eq_iff_iff]; simp only [nz, nb, reduceCtorEq]; (try simp only [nq]); omega), hm.ext⟩)
    (try simp only [nz] at hs3); try simp only [nq] at hs3
    refine .F fa50_0 ?_
    refine .L ag3 ?_
    iterate 4 refine .P ?_
    refine .nil (.seq (.ret ?_))
    exact .end_ rfl rfl (fun m hm => ⟨congrArg Value.bool (by unfold shapedB; rw [Bool.eq_iff_iff]; simp only [nz, nb, reduceCtorEq]; (try simp only [nq]); omega), hm.ext⟩)
   (try simp only [nz] at hs2); try simp only [nq] at hs2
   iterate 9 refine .O ?_
   refine .P2 ?_
   refine .nil (.seq (.ret ?_))
   exact .end_ rfl rfl (fun m hm => ⟨congrArg Value.bool (by unfold shapedB; rw [Bool.eq_iff_iff]; simp only [nz, nb, reduceCtorEq]; (try simp only [nq]); omega), hm.ext⟩)
  (try simp only [nz] at hs1); try simp only [nq] at hs1
  iterate 3 refine .O ?_
  refine .P ?_
  refine .nil (.seq (.cond_false rfl (.skip (.seq (.seq (.region (.P2 ?_)))))))
  refine .splitB 42 rfl (fun hs4 => ?_) (fun hs4 => ?_)
  ·(try simp only [nz] at hs4); try simp only [nq] at hs4
   refine .F fa50_4 ?_
   refine .L ag48 ?_
   refine .G (ln48 ..) ?_
   refine .P2 ?_
   refine .splitB 47 rfl (fun hs5 => ?_) (fun hs5 => ?_)
   ·(try simp only [nz] at hs5); try simp only [nq] at hs5
    iterate 3 refine .O ?_
    refine .P3 ?_
    refine .nil (.seq (.ret ?_))
    exact .end_ rfl rfl (fun m hm => ⟨congrArg Value.bool (by unfold shapedB; rw [Bool.eq_iff_iff]; simp only [nz, nb, reduceCtorEq]; (try simp only [nq]); omega), hm.ext⟩)
   (try simp only [nz] at hs5); try simp only [nq] at hs5
   refine .F fa50_0 ?_
   refine .L ag3 ?_
   iterate 4 refine .P ?_
   refine .nil (.seq (.ret ?_))
   exact .end_ rfl rfl (fun m hm => ⟨congrArg Value.bool (by unfold shapedB; rw [Bool.eq_iff_iff]; simp only [nz, nb, reduceCtorEq]; (try simp only [nq]); omega), hm.ext⟩)
  (try simp only [nz] at hs4); try simp only [nq] at hs4
  iterate 9 refine .O ?_
  refine .P2 ?_
  refine .nil (.seq (.ret ?_))
  exact .end_ rfl rfl (fun m hm => ⟨congrArg Value.bool (by unfold shapedB; rw [Bool.eq_iff_iff]; simp only [nz, nb, reduceCtorEq]; (try simp only [nq]); omega), hm.ext⟩)
 (try simp only [nz] at hs0); try simp only [nq] at hs0
 iterate 3 refine .O ?_
 refine .P2 ?_
 iterate 3 refine .O ?_
 refine .P ?_
 refine .nil (.seq (.cond_false rfl (.skip (.seq (.seq (.region (.P2 ?_)))))))
 refine .splitB 42 rfl (fun hs6 => ?_) (fun hs6 => ?_)
 ·(try simp only [nz] at hs6); try simp only [nq] at hs6
  refine .F fa50_4 ?_
  refine .L ag48 ?_
  refine .G (ln48 ..) ?_
  refine .P2 ?_
  refine .splitB 47 rfl (fun hs7 => ?_) (fun hs7 => ?_)
  ·(try simp only [nz] at hs7); try simp only [nq] at hs7
   iterate 3 refine .O ?_
   refine .P3 ?_
   refine .nil (.seq (.ret ?_))
   exact .end_ rfl rfl (fun m hm => ⟨congrArg Value.bool (by unfold shapedB; rw [Bool.eq_iff_iff]; simp only [nz, nb, reduceCtorEq]; (try simp only [nq]); omega), hm.ext⟩)
  (try simp only [nz] at hs7); try simp only [nq] at hs7
  refine .F fa50_0 ?_
  refine .L ag3 ?_
  iterate 4 refine .P ?_
  refine .nil (.seq (.ret ?_))
  exact .end_ rfl rfl (fun m hm => ⟨congrArg Value.bool (by unfold shapedB; rw [Bool.eq_iff_iff]; simp only [nz, nb, reduceCtorEq]; (try simp only [nq]); omega), hm.ext⟩)
 (try simp only [nz] at hs6); try simp only [nq] at hs6
 iterate 9 refine .O ?_
 refine .P2 ?_
 refine .nil (.seq (.ret ?_))
 exact .end_ rfl rfl (fun m hm => ⟨congrArg Value.bool (by unfold shapedB; rw [Bool.eq_iff_iff]; simp only [nz, nb, reduceCtorEq]; (try simp only [nq]); omega), hm.ext⟩)
theorem crowded_ok {t : Ty} {cs : List Value} {m : AW} (hm : m.lo ≤ m.next) (ht : RTy (Mem m) t cs) (hw : FewT t) : Fc prog 94 [.agg ⟨cs⟩] m fun v m' => v = .bool false ∧ Ext m m' := by
 obtain ⟨ve, vf, va, rfl, he, hf, ha⟩ := ht
 obtain ⟨ae, ce, rfl, hne, he⟩ := he
 obtain ⟨af, cf, rfl, hnf, hf⟩ := hf
 obtain ⟨aa, ca, rfl, hna, ha⟩ := ha
 have k1 := hw.elems
 have k2 := hw.fields
 have k3 := hw.arms
 refine Fc.body (c := _) func94 rfl rfl rfl rfl hm ?_
 refine .seq (.region ?_)
 refine .box rfl rfl rfl rfl rfl (fun b1 hb1 => ?_)
 refine .P ?_
 refine .nil (.seq (.seq ?_))
 refine .joinA (True) [(20, .bool false)] ?_ (fun _ => ?_)
 ·refine .region (.F fa50_1 ?_)
  refine .L ag32 ?_
  refine .G (ln32 ..) ?_
  refine .P2 ?_
  refine .splitB 9 rfl (fun hs0 => ?_) (fun hs0 => ?_)
  ·try simp only [nz] at hs0
   exfalso; omega
  try simp only [nz] at hs0
  refine .F fa50_3 ?_
  refine .L ag47 ?_
  refine .G (ln47 ..) ?_
  refine .P3 ?_
  refine .splitB 15 rfl (fun hs1 => ?_) (fun hs1 => ?_)
  ·try simp only [nz] at hs1
   exfalso; omega
  try simp only [nz] at hs1
  refine .F fa50_4 ?_
  refine .L ag48 ?_
  refine .G (ln48 ..) ?_
  refine .P2 ?_
  refine .nil ?_
  refine .as 20 (.bool false) rfl (congrArg Value.bool (by rw [← Bool.not_eq_true]; simp only [nrm_lt, nrm_nlt, nrm_eq, nrm_neq, nrm_seq, nrm_sneq, nrm_sempty, nrm_snempty, nrm_ofNat, Bool.not_eq_true', Bool.not_eq_false']; omega)) ?_
  exact .J (trivial)
 refine .cond_false (rfl) ?_
 refine .skip (.seq (.seq (.seq (.region (.F fa50_4 ?_)))))
 refine .L ag48 ?_
 refine .G (ln48 ..) ?_
 refine .P ?_
 refine .nil (.seq (.block ?_))
 refine .loop (α := Nat) (fun i => [(22, .slice aa t.arms.length ca), (23, .int .i64 (Int.ofNat (t.arms.length))), (24, .int .i64 (Int.ofNat (i)))]) (fun i => []) (fun i => i ≤ t.arms.length) (fun i => t.arms.length - i) 0 (Nat.zero_le _) ⟨rfl, rfl, rfl, trivial⟩ (List.nil_sublist _) (fun i hi => ?_)
 refine .seq (.region (.P ?_))
 refine .nil (.seq (.seq (.cond rfl (fun hc1 => ?_) fun hc1 => ?_)))
 ·try simp only [nz] at hc1
  have hlt : i < t.arms.length := by omega
  obtain ⟨x, hx⟩ := gx hlt
  obtain ⟨b, off, cs, el, g, md, mate, rfl, ⟨hb, hh⟩, hle, hc⟩ := so ha hlt
  have hr := hc i x hx
  obtain ⟨vx, hra, hfa⟩ := hr
  obtain ⟨ax, cx, rfl, hnx, hfa⟩ := hfa
  have k4 := hw.afields i x hx
  refine .skip (.seq (.seq (.block (.seq (.region (.K underlying48 sz55 ?_))))))
  refine .A ag55 sz55 (.base hh hb (by simp)) hra ?_
  refine .alloc rfl rfl rfl rfl zr55 (fun b4 hb4 => ?_)
  refine .S sz55 ?_
  refine .nil (.seq (.seq (.region (.F fa55_1 ?_))))
  refine .L ag47 ?_
  refine .G (ln47 ..) ?_
  refine .P ?_
  refine .nil (.seq (.cond rfl (fun hc2 => ?_) fun hc2 => ?_))
  ·try simp only [nz] at hc2
   exfalso; omega
  try simp only [nz] at hc2
  refine .skip (.blk (.seq (.region (.P ?_))))
  refine .W 32 i ?_
  refine .P ?_
  refine .nil ?_
  exact .loop (i + 1) hlt (by omega) ⟨rfl, rfl, rfl, trivial⟩ (List.nil_sublist _)
 try simp only [nz] at hc1
 refine .exit (.seq (.loop (.here (.seq (.seq (.region (.P ?_)))))))
 refine .nil (.seq (.ret ?_))
 exact .end_ rfl rfl (fun m hm => ⟨rfl, hm.ext⟩)
theorem rlong_ok {t : Ty} {cs : List Value} {m : AW} (hm : m.lo ≤ m.next) (ht : RTy (Mem m) t cs) (hw : FewT t) : Fc prog 101 [.agg ⟨cs⟩] m fun v m' => v = .bool false ∧ Ext m m' := by
 obtain ⟨ve, vf, va, rfl, he, hf, ha⟩ := ht
 obtain ⟨ae, ce, rfl, hne, he⟩ := he
 obtain ⟨af, cf, rfl, hnf, hf⟩ := hf
 obtain ⟨aa, ca, rfl, hna, ha⟩ := ha
 have k1 := hw.elems
 have k2 := hw.fields
 have k3 := hw.arms
 refine Fc.body (c := _) func101 rfl rfl rfl rfl hm ?_
 refine .seq (.region ?_)
 refine .box rfl rfl rfl rfl rfl (fun b1 hb1 => ?_)
 refine .P ?_
 refine .nil (.seq (.seq ?_))
 refine .joinA (True) [(19, .bool false)] ?_ (fun _ => ?_)
 ·refine .region (.F fa50_1 ?_)
  refine .L ag32 ?_
  refine .G (ln32 ..) ?_
  refine .P2 ?_
  refine .splitB 8 rfl (fun hs0 => ?_) (fun hs0 => ?_)
  ·try simp only [nz] at hs0
   exfalso; omega
  try simp only [nz] at hs0
  refine .F fa50_3 ?_
  refine .L ag47 ?_
  refine .G (ln47 ..) ?_
  refine .P3 ?_
  refine .splitB 14 rfl (fun hs1 => ?_) (fun hs1 => ?_)
  ·try simp only [nz] at hs1
   exfalso; omega
  try simp only [nz] at hs1
  refine .F fa50_4 ?_
  refine .L ag48 ?_
  refine .G (ln48 ..) ?_
  refine .P2 ?_
  refine .nil ?_
  refine .as 19 (.bool false) rfl (congrArg Value.bool (by rw [← Bool.not_eq_true]; simp only [nrm_lt, nrm_nlt, nrm_eq, nrm_neq, nrm_seq, nrm_sneq, nrm_sempty, nrm_snempty, nrm_ofNat, Bool.not_eq_true', Bool.not_eq_false']; omega)) ?_
  exact .J (trivial)
 refine .cond_false (rfl) ?_
 refine .skip (.seq (.seq (.seq (.region (.P ?_)))))
 refine .nil (.seq (.block ?_))
 refine .loop (α := Nat) (fun i => [(1, .pointer (some ⟨b1, 0, none⟩)), (3, .int .i64 (Int.ofNat (i)))]) (fun i => [(b1, .cells (cellsOfV (.agg ⟨[.int .i64 t.kind, .slice ae t.elems.length ce, .string t.name, .slice af t.fields.length cf, .slice aa t.arms.length ca]⟩)) 50 false .plain none)]) (fun i => i ≤ t.arms.length) (fun i => t.arms.length - i) 0 (Nat.zero_le _) ⟨rfl, rfl, trivial⟩ (.refl _) (fun i hi => ?_)
 refine .seq (.seq (.region (.P ?_)))
 refine .F fa50_4 ?_
 refine .L ag48 ?_
 refine .G (ln48 ..) ?_
 refine .P ?_
 refine .nil (.seq (.cond rfl (fun hc1 => ?_) fun hc1 => ?_))
 ·try simp only [nz] at hc1
  have hlt : i < t.arms.length := by omega
  obtain ⟨x, hx⟩ := gx hlt
  obtain ⟨b, off, cs, el, g, md, mate, rfl, ⟨hb, hh⟩, hle, hc⟩ := so ha hlt
  have hr := hc i x hx
  obtain ⟨vx, hra, hfa⟩ := hr
  obtain ⟨ax, cx, rfl, hnx, hfa⟩ := hfa
  have k4 := hw.afields i x hx
  refine .skip (.seq (.seq (.block (.seq (.region (.F fa50_4 ?_))))))
  refine .L ag48 ?_
  refine .P ?_
  refine .K underlying48 sz55 ?_
  refine .F fa55_1 ?_
  refine .M ag47 (.base hh hb (by simp)) (cell_of_take hra (k := 1) rfl) ?_
  refine .G (ln47 ..) ?_
  refine .P ?_
  refine .nil (.seq (.cond rfl (fun hc2 => ?_) fun hc2 => ?_))
  ·try simp only [nz] at hc2
   exfalso; omega
  try simp only [nz] at hc2
  refine .skip (.blk (.seq (.region (.P2 ?_))))
  refine .W 26 i ?_
  refine .P ?_
  refine .nil ?_
  exact .loop (i + 1) hlt (by omega) ⟨rfl, rfl, trivial⟩ (.refl _)
 try simp only [nz] at hc1
 refine .exit (.seq (.loop (.here (.seq (.seq (.region (.P ?_)))))))
 refine .nil (.seq (.ret ?_))
 exact .end_ rfl rfl (fun m hm => ⟨rfl, hm.ext⟩)
theorem rtag_ok {t : Ty} {cs : List Value} {m : AW} (hm : m.lo ≤ m.next) (ht : RTy (Mem m) t cs) : Fc prog 77 [.agg ⟨cs⟩] m fun v m' => v = .int .i64 (if 0 < t.arms.length then 1 else 0) ∧ Ext m m' := by
 obtain ⟨ve, vf, va, rfl, he, hf, ha⟩ := ht
 obtain ⟨ae, ce, rfl, hne, he⟩ := he
 obtain ⟨af, cf, rfl, hnf, hf⟩ := hf
 obtain ⟨aa, ca, rfl, hna, ha⟩ := ha
 refine Fc.body (c := _) func77 rfl rfl rfl rfl hm ?_
 refine .seq (.region ?_)
 refine .box rfl rfl rfl rfl rfl (fun b1 hb1 => ?_)
 refine .P ?_
 refine .nil (.seq (.seq (.seq (.region (.F fa50_4 ?_)))))
 refine .L ag48 ?_
 refine .G (ln48 ..) ?_
 refine .P ?_
 refine .nil (.seq (.cond rfl (fun hc0 => ?_) fun hc0 => ?_))
 ·try simp only [nz] at hc0
  refine .seq (.region (.P ?_))
  refine .nil (.seq (.ret (.seq ?_)))
  exact .end_ rfl rfl (fun m hm => ⟨congrArg (Value.int .i64) (by rw [if_pos (by omega)]), hm.ext⟩)
 try simp only [nz] at hc0
 refine .skip (.seq (.seq (.region (.P ?_))))
 refine .nil (.seq (.ret ?_))
 exact .end_ rfl rfl (fun m hm => ⟨congrArg (Value.int .i64) (by rw [if_neg (by omega)]), hm.ext⟩)
theorem name_ok {s : ByteArray} {m : AW} (hm : m.lo ≤ m.next) : Fc prog 131 [.string s] m fun v m' => v = .bool (nameB s) ∧ Ext m m' := by
 refine Fc.body (c := _) func131 rfl rfl rfl rfl hm ?_
 refine .seq (.region (.P ?_))
 refine .nil (.seq (.seq ?_))
 refine .joinA (True) [(21, .bool (decide (s.size = 0 ∨ 40 < s.size ∨ 48 ≤ (fstC s).toNat ∧ (fstC s).toNat ≤ 57)))] ?_ (fun _ => ?_)
 ·refine .region (.P3 ?_)
  refine .splitB 7 rfl (fun hs0 => ?_) (fun hs0 => ?_)
  ·(try simp only [nz] at hs0); try simp only [nq] at hs0
   iterate 3 refine .O ?_
   refine .P2 ?_
   iterate 8 refine .O ?_
   refine .P ?_
   refine .nil ?_
   refine .as 21 (.bool (decide (s.size = 0 ∨ 40 < s.size ∨ 48 ≤ (fstC s).toNat ∧ (fstC s).toNat ≤ 57))) rfl (congrArg Value.bool (by apply bbx; simp only [nz, nb, reduceCtorEq]; (try simp only [nq]); omega)) ?_
   exact .J (trivial)
  (try simp only [nz] at hs0); try simp only [nq] at hs0
  refine .P ?_
  refine .G (ln9 ..) ?_
  refine .P3 ?_
  refine .splitB 12 rfl (fun hs1 => ?_) (fun hs1 => ?_)
  ·(try simp only [nz] at hs1); try simp only [nq] at hs1
   iterate 8 refine .O ?_
   refine .P ?_
   refine .nil ?_
   refine .as 21 (.bool (decide (s.size = 0 ∨ 40 < s.size ∨ 48 ≤ (fstC s).toNat ∧ (fstC s).toNat ≤ 57))) rfl (congrArg Value.bool (by apply bbx; simp only [nz, nb, reduceCtorEq]; (try simp only [nq]); omega)) ?_
   exact .J (trivial)
  (try simp only [nz] at hs1); try simp only [nq] at hs1
  refine .P ?_
  refine .indexStr rfl rfl rfl rfl underlying9 rfl rfl (fst_get (by omega)) ?_
  refine .P2 ?_
  refine .splitB 16 rfl (fun hs2 => ?_) (fun hs2 => ?_)
  ·(try simp only [nz] at hs2); try simp only [nq] at hs2
   refine .P ?_
   refine .indexStr rfl rfl rfl rfl underlying9 rfl rfl (fst_get (by omega)) ?_
   refine .P3 ?_
   refine .nil ?_
   refine .as 21 (.bool (decide (s.size = 0 ∨ 40 < s.size ∨ 48 ≤ (fstC s).toNat ∧ (fstC s).toNat ≤ 57))) rfl (congrArg Value.bool (by apply bbx; simp only [nz, nb, reduceCtorEq]; (try simp only [nq]); omega)) ?_
   exact .J (trivial)
  (try simp only [nz] at hs2); try simp only [nq] at hs2
  iterate 3 refine .O ?_
  refine .P2 ?_
  refine .nil ?_
  refine .as 21 (.bool (decide (s.size = 0 ∨ 40 < s.size ∨ 48 ≤ (fstC s).toNat ∧ (fstC s).toNat ≤ 57))) rfl (congrArg Value.bool (by apply bbx; simp only [nz, nb, reduceCtorEq]; (try simp only [nq]); omega)) ?_
  exact .J (trivial)
 refine .cond rfl (fun hc0 => ?_) (fun hc0 => ?_)
 ·(try simp only [nz] at hc0); try simp only [nq] at hc0
  refine .seq (.region (.P ?_))
  refine .nil (.seq (.ret (.seq ?_)))
  exact .end_ rfl rfl (fun m hm => ⟨congrArg Value.bool (by unfold nameB; rw [decide_eq_false (by omega)]; rfl), hm.ext⟩)
 (try simp only [nz] at hc0); try simp only [nq] at hc0
 refine .skip (.seq (.seq (.seq (.region (.P ?_)))))
 refine .toBytes (by omega) rfl rfl rfl rfl (by kernel_rfl) underlying9 underlying109 underlying5 sz5 rfl (fun b23 hb23 => ?_)
 refine .G (ln109 ..) ?_
 refine .P ?_
 refine .nil (.seq (.block ?_))
 refine .loop (α := Nat) (fun i => [(23, .slice (some ⟨b23, 0, none⟩) s.size top), (24, .int .i64 (Int.ofNat (s.size))), (25, .int .i64 (Int.ofNat (i)))]) (fun i => [(b23, .cells (s.data.toList.map fun b => .int .u8 (Int.ofNat b.toNat)) 5 true .strish none)]) (fun i => i ≤ s.size ∧ ∀ (j : Nat) (x : UInt8), j < i → s.data.toList[j]? = some x → charP x.toNat) (fun i => s.size - i) 0 ⟨Nat.zero_le _, fun _ _ h => (by cases h)⟩ ⟨rfl, rfl, rfl, trivial⟩ (.refl _) (fun i hi => ?_)
 refine .seq (.region (.P ?_))
 refine .nil (.seq (.seq (.cond rfl (fun hc1 => ?_) fun hc1 => ?_)))
 ·(try simp only [nz] at hc1); try simp only [nq] at hc1
  have hlt : i < s.size := by omega
  obtain ⟨x, hx⟩ := byte_at hlt
  refine .skip (.seq (.seq (.block (.seq (.region (.K underlying109 sz5 ?_))))))
  refine .load rfl rfl rfl rfl rfl ag5 (by repeat first | exact .head | exact .app .head | exact .base ‹_› ‹_› (by simp) | refine .tail ?_ | refine .app ?_) (map_cell hx) ?_
  refine .P ?_
  refine .nil (.seq ?_)
  refine .joinA (True) [(55, .bool (decide (¬ charP x.toNat)))] ?_ (fun _ => ?_)
  ·refine .region (.P3 ?_)
   refine .splitB 31 rfl (fun hs3 => ?_) (fun hs3 => ?_)
   ·(try simp only [nz] at hs3); try simp only [nq] at hs3
    iterate 4 refine .P ?_
    refine .splitB 35 rfl (fun hs4 => ?_) (fun hs4 => ?_)
    ·(try simp only [nz] at hs4); try simp only [nq] at hs4
     iterate 6 refine .O ?_
     refine .P2 ?_
     iterate 6 refine .O ?_
     refine .P2 ?_
     iterate 2 refine .O ?_
     refine .P2 ?_
     refine .nil ?_
     refine .as 55 (.bool (decide (¬ charP x.toNat))) rfl (congrArg Value.bool (by apply bbx; simp only [nz, nb, reduceCtorEq]; (try simp only [nq]); omega)) ?_
     exact .J (trivial)
    (try simp only [nz] at hs4); try simp only [nq] at hs4
    refine .P3 ?_
    refine .splitB 38 rfl (fun hs5 => ?_) (fun hs5 => ?_)
    ·(try simp only [nz] at hs5); try simp only [nq] at hs5
     iterate 5 refine .P ?_
     refine .splitB 43 rfl (fun hs6 => ?_) (fun hs6 => ?_)
     ·(try simp only [nz] at hs6); try simp only [nq] at hs6
      iterate 6 refine .O ?_
      refine .P2 ?_
      iterate 2 refine .O ?_
      refine .P2 ?_
      refine .nil ?_
      refine .as 55 (.bool (decide (¬ charP x.toNat))) rfl (congrArg Value.bool (by apply bbx; simp only [nz, nb, reduceCtorEq]; (try simp only [nq]); omega)) ?_
      exact .J (trivial)
     (try simp only [nz] at hs6); try simp only [nq] at hs6
     refine .P3 ?_
     refine .splitB 46 rfl (fun hs7 => ?_) (fun hs7 => ?_)
     ·(try simp only [nz] at hs7); try simp only [nq] at hs7
      iterate 5 refine .P ?_
      refine .splitB 51 rfl (fun hs8 => ?_) (fun hs8 => ?_)
      ·(try simp only [nz] at hs8); try simp only [nq] at hs8
       iterate 2 refine .O ?_
       refine .P2 ?_
       refine .nil ?_
       refine .as 55 (.bool (decide (¬ charP x.toNat))) rfl (congrArg Value.bool (by apply bbx; simp only [nz, nb, reduceCtorEq]; (try simp only [nq]); omega)) ?_
       exact .J (trivial)
      (try simp only [nz] at hs8); try simp only [nq] at hs8
      iterate 4 refine .P ?_
      refine .nil ?_
      refine .as 55 (.bool (decide (¬ charP x.toNat))) rfl (congrArg Value.bool (by apply bbx; simp only [nz, nb, reduceCtorEq]; (try simp only [nq]); omega)) ?_
      exact .J (trivial)
     (try simp only [nz] at hs7); try simp only [nq] at hs7
     iterate 2 refine .O ?_
     iterate 7 refine .P ?_
     refine .nil ?_
     refine .as 55 (.bool (decide (¬ charP x.toNat))) rfl (congrArg Value.bool (by apply bbx; simp only [nz, nb, reduceCtorEq]; (try simp only [nq]); omega)) ?_
     exact .J (trivial)
    (try simp only [nz] at hs5); try simp only [nq] at hs5
    iterate 2 refine .O ?_
    iterate 6 refine .P ?_
    refine .splitB 46 rfl (fun hs9 => ?_) (fun hs9 => ?_)
    ·(try simp only [nz] at hs9); try simp only [nq] at hs9
     iterate 5 refine .P ?_
     refine .splitB 51 rfl (fun hs10 => ?_) (fun hs10 => ?_)
     ·(try simp only [nz] at hs10); try simp only [nq] at hs10
      iterate 2 refine .O ?_
      refine .P2 ?_
      refine .nil ?_
      refine .as 55 (.bool (decide (¬ charP x.toNat))) rfl (congrArg Value.bool (by apply bbx; simp only [nz, nb, reduceCtorEq]; (try simp only [nq]); omega)) ?_
      exact .J (trivial)
     (try simp only [nz] at hs10); try simp only [nq] at hs10
     iterate 4 refine .P ?_
     refine .nil ?_
     refine .as 55 (.bool (decide (¬ charP x.toNat))) rfl (congrArg Value.bool (by apply bbx; simp only [nz, nb, reduceCtorEq]; (try simp only [nq]); omega)) ?_
     exact .J (trivial)
    (try simp only [nz] at hs9); try simp only [nq] at hs9
    iterate 2 refine .O ?_
    iterate 7 refine .P ?_
    refine .nil ?_
    refine .as 55 (.bool (decide (¬ charP x.toNat))) rfl (congrArg Value.bool (by apply bbx; simp only [nz, nb, reduceCtorEq]; (try simp only [nq]); omega)) ?_
    exact .J (trivial)
   (try simp only [nz] at hs3); try simp only [nq] at hs3
   iterate 2 refine .O ?_
   iterate 5 refine .P ?_
   refine .splitB 38 rfl (fun hs11 => ?_) (fun hs11 => ?_)
   ·(try simp only [nz] at hs11); try simp only [nq] at hs11
    iterate 5 refine .P ?_
    refine .splitB 43 rfl (fun hs12 => ?_) (fun hs12 => ?_)
    ·(try simp only [nz] at hs12); try simp only [nq] at hs12
     iterate 6 refine .O ?_
     refine .P2 ?_
     iterate 2 refine .O ?_
     refine .P2 ?_
     refine .nil ?_
     refine .as 55 (.bool (decide (¬ charP x.toNat))) rfl (congrArg Value.bool (by apply bbx; simp only [nz, nb, reduceCtorEq]; (try simp only [nq]); omega)) ?_
     exact .J (trivial)
    (try simp only [nz] at hs12); try simp only [nq] at hs12
    refine .P3 ?_
    refine .splitB 46 rfl (fun hs13 => ?_) (fun hs13 => ?_)
    ·(try simp only [nz] at hs13); try simp only [nq] at hs13
     iterate 5 refine .P ?_
     refine .splitB 51 rfl (fun hs14 => ?_) (fun hs14 => ?_)
     ·(try simp only [nz] at hs14); try simp only [nq] at hs14
      iterate 2 refine .O ?_
      refine .P2 ?_
      refine .nil ?_
      refine .as 55 (.bool (decide (¬ charP x.toNat))) rfl (congrArg Value.bool (by apply bbx; simp only [nz, nb, reduceCtorEq]; (try simp only [nq]); omega)) ?_
      exact .J (trivial)
     (try simp only [nz] at hs14); try simp only [nq] at hs14
     iterate 4 refine .P ?_
     refine .nil ?_
     refine .as 55 (.bool (decide (¬ charP x.toNat))) rfl (congrArg Value.bool (by apply bbx; simp only [nz, nb, reduceCtorEq]; (try simp only [nq]); omega)) ?_
     exact .J (trivial)
    (try simp only [nz] at hs13); try simp only [nq] at hs13
    iterate 2 refine .O ?_
    iterate 7 refine .P ?_
    refine .nil ?_
    refine .as 55 (.bool (decide (¬ charP x.toNat))) rfl (congrArg Value.bool (by apply bbx; simp only [nz, nb, reduceCtorEq]; (try simp only [nq]); omega)) ?_
    exact .J (trivial)
   (try simp only [nz] at hs11); try simp only [nq] at hs11
   iterate 2 refine .O ?_
   iterate 6 refine .P ?_
   refine .splitB 46 rfl (fun hs15 => ?_) (fun hs15 => ?_)
   ·(try simp only [nz] at hs15); try simp only [nq] at hs15
    iterate 5 refine .P ?_
    refine .splitB 51 rfl (fun hs16 => ?_) (fun hs16 => ?_)
    ·(try simp only [nz] at hs16); try simp only [nq] at hs16
     iterate 2 refine .O ?_
     refine .P2 ?_
     refine .nil ?_
     refine .as 55 (.bool (decide (¬ charP x.toNat))) rfl (congrArg Value.bool (by apply bbx; simp only [nz, nb, reduceCtorEq]; (try simp only [nq]); omega)) ?_
     exact .J (trivial)
    (try simp only [nz] at hs16); try simp only [nq] at hs16
    iterate 4 refine .P ?_
    refine .nil ?_
    refine .as 55 (.bool (decide (¬ charP x.toNat))) rfl (congrArg Value.bool (by apply bbx; simp only [nz, nb, reduceCtorEq]; (try simp only [nq]); omega)) ?_
    exact .J (trivial)
   (try simp only [nz] at hs15); try simp only [nq] at hs15
   iterate 2 refine .O ?_
   iterate 7 refine .P ?_
   refine .nil ?_
   refine .as 55 (.bool (decide (¬ charP x.toNat))) rfl (congrArg Value.bool (by apply bbx; simp only [nz, nb, reduceCtorEq]; (try simp only [nq]); omega)) ?_
   exact .J (trivial)
  refine .cond rfl (fun hc2 => ?_) (fun hc2 => ?_)
  ·(try simp only [nz] at hc2); try simp only [nq] at hc2
   refine .seq (.region (.P ?_))
   refine .nil (.seq (.ret (.blk (.seq (.loop (.blk (.seq ?_)))))))
   exact .end_ rfl rfl (fun m hm => ⟨congrArg Value.bool (by unfold nameB; rw [all_not hx (decide_eq_false (by unfold charP letterP; omega)), Bool.and_false]), hm.ext⟩)
  (try simp only [nz] at hc2); try simp only [nq] at hc2
  refine .skip (.blk (.seq (.region (.P ?_))))
  refine .as 56 (.int .i64 (Int.ofNat (i + 1))) rfl (congrArg (Value.int .i64) (wr_succ (by have := hc0; omega))) ?_
  refine .P ?_
  refine .nil ?_
  exact .loop (i + 1) ⟨hlt, upto_succ hi.2 hx (by unfold charP letterP; omega)⟩ (by omega) ⟨rfl, rfl, rfl, trivial⟩ (.refl _)
 (try simp only [nz] at hc1); try simp only [nq] at hc1
 refine .exit (.seq (.loop (.here (.seq (.seq (.region (.P ?_)))))))
 refine .nil (.seq (.ret ?_))
 exact .end_ rfl rfl (fun m hm => ⟨congrArg Value.bool (by unfold nameB; rw [decide_eq_true (by omega), all_of fun j x hj hx => decide_eq_true (hi.2 j x (by rw [size_eq] at hj; omega) hx)]; rfl), hm.ext⟩)
theorem rname_ok {s : ByteArray} {m : AW} (hm : m.lo ≤ m.next) : Fc prog 132 [.string s] m fun v m' => v = .bool (nameB s) ∧ Ext m m' := by
 refine Fc.body (c := _) func132 rfl rfl rfl rfl hm ?_
 refine .seq (.region (.P ?_))
 refine .nil (.seq (.seq ?_))
 refine .joinA (True) [(13, .bool (decide (s.size = 0 ∨ 40 < s.size)))] ?_ (fun _ => ?_)
 ·refine .region (.P ?_)
  refine .G (ln9 ..) ?_
  refine .P2 ?_
  refine .splitB 9 rfl (fun hs0 => ?_) (fun hs0 => ?_)
  ·(try simp only [nz] at hs0); try simp only [nq] at hs0
   iterate 3 refine .O ?_
   refine .P ?_
   refine .nil ?_
   refine .as 13 (.bool (decide (s.size = 0 ∨ 40 < s.size))) rfl (congrArg Value.bool (by apply bbx; simp only [nz, nb, reduceCtorEq]; (try simp only [nq]); omega)) ?_
   exact .J (trivial)
  (try simp only [nz] at hs0); try simp only [nq] at hs0
  refine .P ?_
  refine .G (ln9 ..) ?_
  refine .P2 ?_
  refine .nil ?_
  refine .as 13 (.bool (decide (s.size = 0 ∨ 40 < s.size))) rfl (congrArg Value.bool (by apply bbx; simp only [nz, nb, reduceCtorEq]; (try simp only [nq]); omega)) ?_
  exact .J (trivial)
 refine .cond rfl (fun hc0 => ?_) (fun hc0 => ?_)
 ·(try simp only [nz] at hc0); try simp only [nq] at hc0
  refine .seq (.region (.P ?_))
  refine .nil (.seq (.ret (.seq ?_)))
  exact .end_ rfl rfl (fun m hm => ⟨congrArg Value.bool (by unfold nameB; rw [decide_eq_false (by omega)]; rfl), hm.ext⟩)
 (try simp only [nz] at hc0); try simp only [nq] at hc0
 refine .skip (.seq (.seq (.seq (.region (.P ?_)))))
 refine .nil (.seq (.block ?_))
 refine .loop (α := Nat) (fun i => [(0, .string s), (3, .int .i64 (Int.ofNat (i)))]) (fun i => []) (fun i => i ≤ s.size ∧ ∀ (j : Nat) (x : UInt8), j < i → s.data.toList[j]? = some x → letterP x.toNat ∨ (j ≠ 0 ∧ 48 ≤ x.toNat ∧ x.toNat ≤ 57)) (fun i => s.size - i) 0 ⟨Nat.zero_le _, fun _ _ h => (by cases h)⟩ ⟨rfl, rfl, trivial⟩ (List.nil_sublist _) (fun i hi => ?_)
 refine .seq (.seq (.region (.P2 ?_)))
 refine .G (ln9 ..) ?_
 refine .P ?_
 refine .nil (.seq (.cond rfl (fun hc1 => ?_) fun hc1 => ?_))
 ·(try simp only [nz] at hc1); try simp only [nq] at hc1
  have hlt : i < s.size := by omega
  obtain ⟨x, hx⟩ := byte_at hlt
  refine .skip (.seq (.seq (.block (.seq (.region (.P2 ?_))))))
  refine .indexStr rfl rfl rfl rfl underlying9 rfl rfl (hx) ?_
  refine .P ?_
  refine .nil (.seq ?_)
  refine .joinA (True) [(5, .bool (decide (letterP x.toNat)))] ?_ (fun _ => ?_)
  ·refine .region (.P3 ?_)
   refine .splitB 25 rfl (fun hs1 => ?_) (fun hs1 => ?_)
   ·(try simp only [nz] at hs1); try simp only [nq] at hs1
    iterate 4 refine .P ?_
    refine .splitB 29 rfl (fun hs2 => ?_) (fun hs2 => ?_)
    ·(try simp only [nz] at hs2); try simp only [nq] at hs2
     iterate 6 refine .O ?_
     refine .P2 ?_
     iterate 2 refine .O ?_
     refine .P2 ?_
     refine .nil ?_
     refine .as 5 (.bool (decide (letterP x.toNat))) rfl (congrArg Value.bool (by apply bbx; simp only [nz, nb, reduceCtorEq]; (try simp only [nq]); omega)) ?_
     exact .J (trivial)
    (try simp only [nz] at hs2); try simp only [nq] at hs2
    refine .P3 ?_
    refine .splitB 32 rfl (fun hs3 => ?_) (fun hs3 => ?_)
    ·(try simp only [nz] at hs3); try simp only [nq] at hs3
     iterate 5 refine .P ?_
     refine .splitB 37 rfl (fun hs4 => ?_) (fun hs4 => ?_)
     ·(try simp only [nz] at hs4); try simp only [nq] at hs4
      iterate 2 refine .O ?_
      refine .P2 ?_
      refine .nil ?_
      refine .as 5 (.bool (decide (letterP x.toNat))) rfl (congrArg Value.bool (by apply bbx; simp only [nz, nb, reduceCtorEq]; (try simp only [nq]); omega)) ?_
      exact .J (trivial)
     (try simp only [nz] at hs4); try simp only [nq] at hs4
     iterate 4 refine .P ?_
     refine .nil ?_
     refine .as 5 (.bool (decide (letterP x.toNat))) rfl (congrArg Value.bool (by apply bbx; simp only [nz, nb, reduceCtorEq]; (try simp only [nq]); omega)) ?_
     exact .J (trivial)
    (try simp only [nz] at hs3); try simp only [nq] at hs3
    iterate 2 refine .O ?_
    iterate 7 refine .P ?_
    refine .nil ?_
    refine .as 5 (.bool (decide (letterP x.toNat))) rfl (congrArg Value.bool (by apply bbx; simp only [nz, nb, reduceCtorEq]; (try simp only [nq]); omega)) ?_
    exact .J (trivial)
   (try simp only [nz] at hs1); try simp only [nq] at hs1
   iterate 2 refine .O ?_
   iterate 5 refine .P ?_
   refine .splitB 32 rfl (fun hs5 => ?_) (fun hs5 => ?_)
   ·(try simp only [nz] at hs5); try simp only [nq] at hs5
    iterate 5 refine .P ?_
    refine .splitB 37 rfl (fun hs6 => ?_) (fun hs6 => ?_)
    ·(try simp only [nz] at hs6); try simp only [nq] at hs6
     iterate 2 refine .O ?_
     refine .P2 ?_
     refine .nil ?_
     refine .as 5 (.bool (decide (letterP x.toNat))) rfl (congrArg Value.bool (by apply bbx; simp only [nz, nb, reduceCtorEq]; (try simp only [nq]); omega)) ?_
     exact .J (trivial)
    (try simp only [nz] at hs6); try simp only [nq] at hs6
    iterate 4 refine .P ?_
    refine .nil ?_
    refine .as 5 (.bool (decide (letterP x.toNat))) rfl (congrArg Value.bool (by apply bbx; simp only [nz, nb, reduceCtorEq]; (try simp only [nq]); omega)) ?_
    exact .J (trivial)
   (try simp only [nz] at hs5); try simp only [nq] at hs5
   iterate 2 refine .O ?_
   iterate 7 refine .P ?_
   refine .nil ?_
   refine .as 5 (.bool (decide (letterP x.toNat))) rfl (congrArg Value.bool (by apply bbx; simp only [nz, nb, reduceCtorEq]; (try simp only [nq]); omega)) ?_
   exact .J (trivial)
  refine .joinA (True) [(54, .bool (decide (¬ letterP x.toNat ∧ (i = 0 ∨ x.toNat < 48 ∨ 57 < x.toNat))))] ?_ (fun _ => ?_)
  ·refine .region (.P3 ?_)
   refine .splitB 43 rfl (fun hs7 => ?_) (fun hs7 => ?_)
   ·(try simp only [nz] at hs7); try simp only [nq] at hs7
    refine .P3 ?_
    refine .splitB 46 rfl (fun hs8 => ?_) (fun hs8 => ?_)
    ·(try simp only [nz] at hs8); try simp only [nq] at hs8
     iterate 2 refine .O ?_
     refine .P2 ?_
     iterate 2 refine .O ?_
     refine .P2 ?_
     refine .nil ?_
     refine .as 54 (.bool (decide (¬ letterP x.toNat ∧ (i = 0 ∨ x.toNat < 48 ∨ 57 < x.toNat)))) rfl (congrArg Value.bool (by apply bbx; simp only [nz, nb, reduceCtorEq]; (try simp only [nq]); omega)) ?_
     exact .J (trivial)
    (try simp only [nz] at hs8); try simp only [nq] at hs8
    iterate 4 refine .P ?_
    refine .splitB 50 rfl (fun hs9 => ?_) (fun hs9 => ?_)
    ·(try simp only [nz] at hs9); try simp only [nq] at hs9
     iterate 2 refine .O ?_
     refine .P2 ?_
     refine .nil ?_
     refine .as 54 (.bool (decide (¬ letterP x.toNat ∧ (i = 0 ∨ x.toNat < 48 ∨ 57 < x.toNat)))) rfl (congrArg Value.bool (by apply bbx; simp only [nz, nb, reduceCtorEq]; (try simp only [nq]); omega)) ?_
     exact .J (trivial)
    (try simp only [nz] at hs9); try simp only [nq] at hs9
    iterate 4 refine .P ?_
    refine .nil ?_
    refine .as 54 (.bool (decide (¬ letterP x.toNat ∧ (i = 0 ∨ x.toNat < 48 ∨ 57 < x.toNat)))) rfl (congrArg Value.bool (by apply bbx; simp only [nz, nb, reduceCtorEq]; (try simp only [nq]); omega)) ?_
    exact .J (trivial)
   (try simp only [nz] at hs7); try simp only [nq] at hs7
   iterate 10 refine .O ?_
   refine .P ?_
   refine .nil ?_
   refine .as 54 (.bool (decide (¬ letterP x.toNat ∧ (i = 0 ∨ x.toNat < 48 ∨ 57 < x.toNat)))) rfl (congrArg Value.bool (by apply bbx; simp only [nz, nb, reduceCtorEq]; (try simp only [nq]); omega)) ?_
   exact .J (trivial)
  refine .cond rfl (fun hc2 => ?_) (fun hc2 => ?_)
  ·(try simp only [nz] at hc2); try simp only [nq] at hc2
   refine .seq (.region (.P ?_))
   refine .nil (.seq (.ret (.blk (.seq (.loop (.blk (.seq ?_)))))))
   exact .end_ rfl rfl (fun m hm => ⟨congrArg Value.bool ((name_bad hx (by unfold letterP; omega)).symm), hm.ext⟩)
  (try simp only [nz] at hc2); try simp only [nq] at hc2
  refine .skip (.blk (.seq (.region (.P2 ?_))))
  refine .as 19 (.int .i64 (Int.ofNat (i + 1))) rfl (congrArg (Value.int .i64) (wr_succ (by have := hc0; omega))) ?_
  refine .P ?_
  refine .nil ?_
  exact .loop (i + 1) ⟨hlt, upto_succ2 (P := fun j x => letterP x.toNat ∨ (j ≠ 0 ∧ 48 ≤ x.toNat ∧ x.toNat ≤ 57)) hi.2 hx (by unfold letterP; omega)⟩ (by omega) ⟨rfl, rfl, trivial⟩ (List.nil_sublist _)
 (try simp only [nz] at hc1); try simp only [nq] at hc1
 refine .exit (.seq (.loop (.here (.seq (.seq (.region (.P ?_)))))))
 refine .nil (.seq (.ret ?_))
 exact .end_ rfl rfl (fun m hm => ⟨congrArg Value.bool ((name_good (by omega) (by omega) fun j x hj hx => hi.2 j x (by omega) hx).symm), hm.ext⟩)
theorem named_ok {t : Ty} {cs : List Value} {m : AW} (hm : m.lo ≤ m.next) (ht : RTy (Mem m) t cs) : Fc prog 96 [.agg ⟨cs⟩] m fun v m' => v = .bool (namedB t) ∧ Ext m m' := by
 obtain ⟨ve, vf, va, rfl, he, hf, ha⟩ := ht
 obtain ⟨ae, ce, rfl, hne, he⟩ := he
 obtain ⟨af, cf, rfl, hnf, hf⟩ := hf
 obtain ⟨aa, ca, rfl, hna, ha⟩ := ha
 refine Fc.body (c := _) func96 rfl rfl rfl rfl hm ?_
 refine .seq (.region ?_)
 refine .box rfl rfl rfl rfl rfl (fun b1 hb1 => ?_)
 refine .P ?_
 refine .nil (.seq ?_)
 refine .joinA (headB t = true) [] ?_ (fun hhd => ?_)
 ·refine .seq (.region (.F fa50_0 ?_))
  refine .L ag3 ?_
  refine .nil (.seq (.block (.seq (.seq (.region (.P2 ?_))))))
  refine .nil (.seq (.cond rfl (fun hc0 => ?_) fun hc0 => ?_))
  ·refine .B 14 hc0 ?_
   try simp only [nz] at hc0
   refine .skip (.seq (.cond_true rfl (.seq (.region (.F fa50_2 ?_)))))
   refine .L ag9 ?_
   refine .call _ rfl rfl rfl rfl rfl rfl (fun m hm => name_ok hm.lole) ?_
   refine .P ?_
   refine .nil (.seq (.cond rfl (fun hc1 => ?_) fun hc1 => ?_))
   ·try simp only [nz] at hc1
    refine .seq (.region (.P ?_))
    refine .nil (.seq (.ret (.blk (.jn ?_))))
    exact .end_ rfl rfl (fun m hm => ⟨congrArg Value.bool ((named_head (by unfold headB; grind)).symm), hm.ext⟩)
   try simp only [nz] at hc1
   refine .skip (.blk ?_)
   exact .J (by unfold headB; grind)
  refine .B 14 hc0 ?_
  try simp only [nz] at hc0
  refine .region (.P2 ?_)
  refine .nil (.seq (.cond rfl (fun hc2 => ?_) fun hc2 => ?_))
  ·refine .B 14 hc2 ?_
   try simp only [nz] at hc2
   refine .seq (.region (.F fa50_2 ?_))
   refine .L ag9 ?_
   refine .call _ rfl rfl rfl rfl rfl rfl (fun m hm => name_ok hm.lole) ?_
   refine .P ?_
   refine .nil (.seq (.cond rfl (fun hc3 => ?_) fun hc3 => ?_))
   ·try simp only [nz] at hc3
    refine .seq (.region (.P ?_))
    refine .nil (.seq (.ret (.blk (.jn ?_))))
    exact .end_ rfl rfl (fun m hm => ⟨congrArg Value.bool ((named_head (by unfold headB; grind)).symm), hm.ext⟩)
   try simp only [nz] at hc3
   refine .skip (.blk ?_)
   exact .J (by unfold headB; grind)
  refine .B 14 hc2 ?_
  try simp only [nz] at hc2
  refine .seq (.region (.P2 ?_))
  refine .nil (.seq (.cond rfl (fun hc4 => ?_) fun hc4 => ?_))
  ·try simp only [nz] at hc4
   refine .seq (.region (.F fa50_2 ?_))
   refine .L ag9 ?_
   refine .P2 ?_
   refine .splitB 26 rfl (fun hs0 => ?_) (fun hs0 => ?_)
   ·try simp only [nz] at hs0
    refine .F fa50_2 ?_
    refine .L ag9 ?_
    refine .call _ rfl rfl rfl rfl rfl rfl (fun m hm => name_ok hm.lole) ?_
    refine .P2 ?_
    refine .nil (.seq (.cond rfl (fun hc5 => ?_) fun hc5 => ?_))
    ·try simp only [nz] at hc5
     refine .seq (.region (.P ?_))
     refine .nil (.seq (.ret (.blk (.jn ?_))))
     exact .end_ rfl rfl (fun m hm => ⟨congrArg Value.bool ((named_head (by unfold headB; grind)).symm), hm.ext⟩)
    try simp only [nz] at hc5
    refine .skip (.blk ?_)
    exact .J (by unfold headB; grind)
   try simp only [nz] at hs0
   iterate 4 refine .O ?_
   refine .P ?_
   refine .nil (.seq (.cond_false rfl (.skip (.blk ?_))))
   exact .J (by unfold headB; grind)
  try simp only [nz] at hc4
  refine .seq (.region (.F fa50_2 ?_))
  refine .L ag9 ?_
  refine .P ?_
  refine .nil (.seq (.cond rfl (fun hc6 => ?_) fun hc6 => ?_))
  ·try simp only [nz] at hc6
   refine .seq (.region (.P ?_))
   refine .nil (.seq (.ret (.blk (.jn ?_))))
   exact .end_ rfl rfl (fun m hm => ⟨congrArg Value.bool ((named_head (by unfold headB; grind)).symm), hm.ext⟩)
  try simp only [nz] at hc6
  refine .skip (.blk ?_)
  exact .J (by unfold headB; grind)
 refine .seq (.seq (.region (.F fa50_3 ?_)))
 refine .L ag47 ?_
 refine .G (ln47 ..) ?_
 refine .P ?_
 refine .nil (.seq (.block ?_))
 refine .loop (α := Nat) (fun i => [(1, .pointer (some ⟨b1, 0, none⟩)), (33, .slice af t.fields.length cf), (34, .int .i64 (Int.ofNat (t.fields.length))), (35, .int .i64 (Int.ofNat (i)))]) (fun i => [(b1, .cells (cellsOfV (.agg ⟨[.int .i64 t.kind, .slice ae t.elems.length ce, .string t.name, .slice af t.fields.length cf, .slice aa t.arms.length ca]⟩)) 50 false .plain none)]) (fun i => i ≤ t.fields.length ∧ ∀ (j : Nat) (x : Fld), j < i → t.fields[j]? = some x → nameB x.name = true) (fun i => t.fields.length - i) 0 ⟨Nat.zero_le _, fun _ _ h => (by cases h)⟩ ⟨rfl, rfl, rfl, rfl, trivial⟩ (.refl _) (fun i hi => ?_)
 refine .seq (.region (.P ?_))
 refine .nil (.seq (.seq (.cond rfl (fun ht36 => ?_) fun ht36 => ?_)))
 ·try simp only [nz] at ht36
  have hlt : i < t.fields.length := by omega
  obtain ⟨x, hx⟩ := gx hlt
  obtain ⟨b, off, cs, el, g, md, mate, rfl, ⟨hb, hh⟩, hle, hc⟩ := so hf hlt
  have hr := hc i x hx
  refine .skip (.seq (.seq (.block (.seq (.region (.K underlying47 sz132 ?_))))))
  refine .A ag132 sz132 (.base hh hb (by simp)) hr ?_
  refine .alloc rfl rfl rfl rfl zr132 (fun b4 hb4 => ?_)
  refine .S sz132 ?_
  refine .nil (.seq (.seq (.region (.F fa132_0 ?_))))
  refine .L ag9 ?_
  refine .call _ rfl rfl rfl rfl rfl rfl (fun m hm => name_ok hm.lole) ?_
  refine .P ?_
  refine .nil (.seq (.cond rfl (fun hc8 => ?_) fun hc8 => ?_))
  ·try simp only [nz] at hc8
   refine .seq (.region (.P ?_))
   refine .nil (.seq (.ret (.blk (.seq (.loop (.blk (.seq ?_)))))))
   exact .end_ rfl rfl (fun m hm => ⟨congrArg Value.bool ((named_field hx (by assumption)).symm), hm.ext⟩)
  try simp only [nz] at hc8
  refine .skip (.blk (.seq (.region (.P ?_))))
  refine .W 43 i ?_
  refine .P ?_
  refine .nil ?_
  exact .loop (i + 1) ⟨hlt, upto_succ hi.2 hx (by assumption)⟩ (by omega) ⟨rfl, rfl, rfl, rfl, trivial⟩ (.cons _ (.refl _))
 try simp only [nz] at ht36
 refine .exit (.seq (.loop (.here (.seq (.seq (.seq (.region (.F fa50_4 ?_))))))))
 refine .L ag48 ?_
 refine .G (ln48 ..) ?_
 refine .P ?_
 refine .nil (.seq (.block ?_))
 refine .loop (α := Nat) (fun i => [(1, .pointer (some ⟨b1, 0, none⟩)), (45, .slice aa t.arms.length ca), (46, .int .i64 (Int.ofNat (t.arms.length))), (47, .int .i64 (Int.ofNat (i)))]) (fun i => [(b1, .cells (cellsOfV (.agg ⟨[.int .i64 t.kind, .slice ae t.elems.length ce, .string t.name, .slice af t.fields.length cf, .slice aa t.arms.length ca]⟩)) 50 false .plain none)]) (fun i => i ≤ t.arms.length ∧ ∀ (j : Nat) (x : Arm), j < i → t.arms[j]? = some x → armB x = true) (fun i => t.arms.length - i) 0 ⟨Nat.zero_le _, fun _ _ h => (by cases h)⟩ ⟨rfl, rfl, rfl, rfl, trivial⟩ (.refl _) (fun i hq => ?_)
 refine .seq (.region (.P ?_))
 refine .nil (.seq (.seq (.cond rfl (fun ht48 => ?_) fun ht48 => ?_)))
 ·try simp only [nz] at ht48
  have hlt : i < t.arms.length := by omega
  obtain ⟨x, hx⟩ := gx hlt
  obtain ⟨b, off, cs, el, g, md, mate, rfl, ⟨hb, hh⟩, hle, hc⟩ := so ha hlt
  have hr := hc i x hx
  obtain ⟨vx, hra, hfa⟩ := hr
  obtain ⟨ax, cx, rfl, hnx, hfa⟩ := hfa
  refine .skip (.seq (.seq (.block (.seq (.region (.K underlying48 sz55 ?_))))))
  refine .A ag55 sz55 (.base hh hb (by simp)) hra ?_
  refine .alloc rfl rfl rfl rfl zr55 (fun b6 hb6 => ?_)
  refine .S sz55 ?_
  refine .nil (.seq (.seq (.seq (.region (.F fa55_0 ?_)))))
  refine .L ag9 ?_
  refine .call _ rfl rfl rfl rfl rfl rfl (fun m hm => name_ok hm.lole) ?_
  refine .P ?_
  refine .nil (.seq (.cond rfl (fun hc10 => ?_) fun hc10 => ?_))
  ·try simp only [nz] at hc10
   refine .seq (.region (.P ?_))
   refine .nil (.seq (.ret (.seq (.blk (.seq (.loop (.blk (.seq ?_))))))))
   exact .end_ rfl rfl (fun m hm => ⟨congrArg Value.bool ((named_arm hx (by assumption)).symm), hm.ext⟩)
  try simp only [nz] at hc10
  refine .skip (.seq (.seq (.region (.F fa55_1 ?_))))
  refine .L ag47 ?_
  refine .G (ln47 ..) ?_
  refine .P ?_
  refine .nil (.seq (.block ?_))
  refine .loop (α := Nat) (fun k => [(1, .pointer (some ⟨b1, 0, none⟩)), (45, .slice (some ⟨b, off, none⟩) t.arms.length ca), (46, .int .i64 (Int.ofNat (t.arms.length))), (47, .int .i64 (Int.ofNat (i))), (56, .slice ax x.fields.length cx), (57, .int .i64 (Int.ofNat (x.fields.length))), (58, .int .i64 (Int.ofNat (k)))]) (fun k => [(b1, .cells (cellsOfV (.agg ⟨[.int .i64 t.kind, .slice ae t.elems.length ce, .string t.name, .slice af t.fields.length cf, .slice (some ⟨b, off, none⟩) t.arms.length ca]⟩)) 50 false .plain none)]) (fun k => k ≤ x.fields.length ∧ ∀ (j : Nat) (y : Fld), j < k → x.fields[j]? = some y → nameB y.name = true) (fun k => x.fields.length - k) 0 ⟨Nat.zero_le _, fun _ _ h => (by cases h)⟩ ⟨rfl, rfl, rfl, rfl, rfl, rfl, rfl, trivial⟩ (.cons _ (.refl _)) (fun k hj => ?_)
  refine .seq (.region (.P ?_))
  refine .nil (.seq (.seq (.cond rfl (fun ht59 => ?_) fun ht59 => ?_)))
  ·try simp only [nz] at ht59
   have hlt2 : k < x.fields.length := by omega
   obtain ⟨y, hy⟩ := gx hlt2
   obtain ⟨b2, off2, cs2, el2, g2, md2, mate2, rfl, ⟨hb2, hh2⟩, hle2, hc2⟩ := so hfa hlt2
   have hry := hc2 k y hy
   refine .skip (.seq (.seq (.block (.seq (.region (.K underlying47 sz132 ?_))))))
   refine .A ag132 sz132 (.base hh2 hb2 (by simp)) hry ?_
   refine .alloc rfl rfl rfl rfl zr132 (fun b8 hb8 => ?_)
   refine .S sz132 ?_
   refine .nil (.seq (.seq (.region (.F fa132_0 ?_))))
   refine .L ag9 ?_
   refine .call _ rfl rfl rfl rfl rfl rfl (fun m hm => name_ok hm.lole) ?_
   refine .P ?_
   refine .nil (.seq (.cond rfl (fun hc12 => ?_) fun hc12 => ?_))
   ·try simp only [nz] at hc12
    refine .seq (.region (.P ?_))
    refine .nil (.seq (.ret (.blk (.seq (.loop (.blk (.blk (.seq (.loop (.blk (.seq ?_)))))))))))
    exact .end_ rfl rfl (fun m hm => ⟨congrArg Value.bool ((named_afield hx hy (by assumption)).symm), hm.ext⟩)
   try simp only [nz] at hc12
   refine .skip (.blk (.seq (.region (.P ?_))))
   refine .W 66 k ?_
   refine .P ?_
   refine .nil ?_
   exact .loop (k + 1) ⟨hlt2, upto_succ hj.2 hy (by assumption)⟩ (by omega) ⟨rfl, rfl, rfl, rfl, rfl, rfl, rfl, trivial⟩ (.cons _ (.refl _))
  try simp only [nz] at ht59
  refine .exit (.seq (.loop (.here (.blk (.seq (.region (.P ?_)))))))
  refine .W 67 i ?_
  refine .P ?_
  refine .nil ?_
  exact .loop (i + 1) ⟨hlt, upto_succ hq.2 hx (armB_of (by assumption) fun j y hjy hy => hj.2 j y (by omega) hy)⟩ (by omega) ⟨rfl, rfl, rfl, rfl, trivial⟩ (.refl _)
 try simp only [nz] at ht48
 refine .exit (.seq (.loop (.here (.seq (.seq (.region (.P ?_)))))))
 refine .nil (.seq (.ret ?_))
 exact .end_ rfl rfl (fun m hm => ⟨congrArg Value.bool ((namedB_of hhd (fun j x hj hx => hi.2 j x (by omega) hx) fun j x hj hx => hq.2 j x (by omega) hx).symm), hm.ext⟩)
theorem rnamed_ok {t : Ty} {cs : List Value} {m : AW} (hm : m.lo ≤ m.next) (ht : RTy (Mem m) t cs) : Fc prog 103 [.agg ⟨cs⟩] m fun v m' => v = .bool (namedB t) ∧ Ext m m' := by
 obtain ⟨ve, vf, va, rfl, he, hf, ha⟩ := ht
 obtain ⟨ae, ce, rfl, hne, he⟩ := he
 obtain ⟨af, cf, rfl, hnf, hf⟩ := hf
 obtain ⟨aa, ca, rfl, hna, ha⟩ := ha
 refine Fc.body (c := _) func103 rfl rfl rfl rfl hm ?_
 refine .seq (.region ?_)
 refine .box rfl rfl rfl rfl rfl (fun b1 hb1 => ?_)
 refine .P ?_
 refine .nil (.seq ?_)
 refine .joinA (headB t = true) [] ?_ (fun hhd => ?_)
 ·refine .seq (.region (.F fa50_0 ?_))
  refine .L ag3 ?_
  refine .nil (.seq (.block (.seq (.seq (.region (.P2 ?_))))))
  refine .nil (.seq (.cond rfl (fun hc0 => ?_) fun hc0 => ?_))
  ·refine .B 11 hc0 ?_
   try simp only [nz] at hc0
   refine .skip (.seq (.cond_true rfl (.seq (.region (.F fa50_2 ?_)))))
   refine .L ag9 ?_
   refine .call _ rfl rfl rfl rfl rfl rfl (fun m hm => rname_ok hm.lole) ?_
   refine .P ?_
   refine .nil (.seq (.cond rfl (fun hc1 => ?_) fun hc1 => ?_))
   ·try simp only [nz] at hc1
    refine .seq (.region (.P ?_))
    refine .nil (.seq (.ret (.blk (.jn ?_))))
    exact .end_ rfl rfl (fun m hm => ⟨congrArg Value.bool ((named_head (by unfold headB; grind)).symm), hm.ext⟩)
   try simp only [nz] at hc1
   refine .skip (.blk ?_)
   exact .J (by unfold headB; grind)
  refine .B 11 hc0 ?_
  try simp only [nz] at hc0
  refine .region (.P2 ?_)
  refine .nil (.seq (.cond rfl (fun hc2 => ?_) fun hc2 => ?_))
  ·refine .B 11 hc2 ?_
   try simp only [nz] at hc2
   refine .seq (.region (.F fa50_2 ?_))
   refine .L ag9 ?_
   refine .call _ rfl rfl rfl rfl rfl rfl (fun m hm => rname_ok hm.lole) ?_
   refine .P ?_
   refine .nil (.seq (.cond rfl (fun hc3 => ?_) fun hc3 => ?_))
   ·try simp only [nz] at hc3
    refine .seq (.region (.P ?_))
    refine .nil (.seq (.ret (.blk (.jn ?_))))
    exact .end_ rfl rfl (fun m hm => ⟨congrArg Value.bool ((named_head (by unfold headB; grind)).symm), hm.ext⟩)
   try simp only [nz] at hc3
   refine .skip (.blk ?_)
   exact .J (by unfold headB; grind)
  refine .B 11 hc2 ?_
  try simp only [nz] at hc2
  refine .seq (.region (.P2 ?_))
  refine .nil (.seq (.cond rfl (fun hc4 => ?_) fun hc4 => ?_))
  ·try simp only [nz] at hc4
   refine .seq (.region (.F fa50_2 ?_))
   refine .L ag9 ?_
   refine .P2 ?_
   refine .splitB 23 rfl (fun hs0 => ?_) (fun hs0 => ?_)
   ·try simp only [nz] at hs0
    refine .F fa50_2 ?_
    refine .L ag9 ?_
    refine .call _ rfl rfl rfl rfl rfl rfl (fun m hm => rname_ok hm.lole) ?_
    refine .P2 ?_
    refine .nil (.seq (.cond rfl (fun hc5 => ?_) fun hc5 => ?_))
    ·try simp only [nz] at hc5
     refine .seq (.region (.P ?_))
     refine .nil (.seq (.ret (.blk (.jn ?_))))
     exact .end_ rfl rfl (fun m hm => ⟨congrArg Value.bool ((named_head (by unfold headB; grind)).symm), hm.ext⟩)
    try simp only [nz] at hc5
    refine .skip (.blk ?_)
    exact .J (by unfold headB; grind)
   try simp only [nz] at hs0
   iterate 4 refine .O ?_
   refine .P ?_
   refine .nil (.seq (.cond_false rfl (.skip (.blk ?_))))
   exact .J (by unfold headB; grind)
  try simp only [nz] at hc4
  refine .seq (.region (.F fa50_2 ?_))
  refine .L ag9 ?_
  refine .P ?_
  refine .nil (.seq (.cond rfl (fun hc6 => ?_) fun hc6 => ?_))
  ·try simp only [nz] at hc6
   refine .seq (.region (.P ?_))
   refine .nil (.seq (.ret (.blk (.jn ?_))))
   exact .end_ rfl rfl (fun m hm => ⟨congrArg Value.bool ((named_head (by unfold headB; grind)).symm), hm.ext⟩)
  try simp only [nz] at hc6
  refine .skip (.blk ?_)
  exact .J (by unfold headB; grind)
 refine .seq (.seq (.region (.P ?_)))
 refine .nil (.seq (.block ?_))
 refine .loop (α := Nat) (fun i => [(1, .pointer (some ⟨b1, 0, none⟩)), (3, .int .i64 (Int.ofNat (i)))]) (fun i => [(b1, .cells (cellsOfV (.agg ⟨[.int .i64 t.kind, .slice ae t.elems.length ce, .string t.name, .slice af t.fields.length cf, .slice aa t.arms.length ca]⟩)) 50 false .plain none)]) (fun i => i ≤ t.fields.length ∧ ∀ (j : Nat) (x : Fld), j < i → t.fields[j]? = some x → nameB x.name = true) (fun i => t.fields.length - i) 0 ⟨Nat.zero_le _, fun _ _ h => (by cases h)⟩ ⟨rfl, rfl, trivial⟩ (.refl _) (fun i hi => ?_)
 refine .seq (.seq (.region (.P ?_)))
 refine .F fa50_3 ?_
 refine .L ag47 ?_
 refine .G (ln47 ..) ?_
 refine .P ?_
 refine .nil (.seq (.cond rfl (fun ht33 => ?_) fun ht33 => ?_))
 ·try simp only [nz] at ht33
  have hlt : i < t.fields.length := by omega
  obtain ⟨x, hx⟩ := gx hlt
  obtain ⟨b, off, cs, el, g, md, mate, rfl, ⟨hb, hh⟩, hle, hc⟩ := so hf hlt
  have hr := hc i x hx
  refine .skip (.seq (.seq (.block (.seq (.region (.F fa50_3 ?_))))))
  refine .L ag47 ?_
  refine .P ?_
  refine .K underlying47 sz132 ?_
  refine .F fa132_0 ?_
  refine .M ag9 (.base hh hb (by simp)) (cell_of_take hr (k := 0) rfl) ?_
  refine .call _ rfl rfl rfl rfl rfl rfl (fun m hm => rname_ok hm.lole) ?_
  refine .P ?_
  refine .nil (.seq (.cond rfl (fun hc8 => ?_) fun hc8 => ?_))
  ·try simp only [nz] at hc8
   refine .seq (.region (.P ?_))
   refine .nil (.seq (.ret (.blk (.seq (.loop (.blk (.seq ?_)))))))
   exact .end_ rfl rfl (fun m hm => ⟨congrArg Value.bool ((named_field hx (by assumption)).symm), hm.ext⟩)
  try simp only [nz] at hc8
  refine .skip (.blk (.seq (.region (.P2 ?_))))
  refine .W 35 i ?_
  refine .P ?_
  refine .nil ?_
  exact .loop (i + 1) ⟨hlt, upto_succ hi.2 hx (by assumption)⟩ (by omega) ⟨rfl, rfl, trivial⟩ (.refl _)
 try simp only [nz] at ht33
 refine .exit (.seq (.loop (.here (.seq (.seq (.seq (.region (.P ?_))))))))
 refine .nil (.seq (.block ?_))
 refine .loop (α := Nat) (fun i => [(1, .pointer (some ⟨b1, 0, none⟩)), (4, .int .i64 (Int.ofNat (i)))]) (fun i => [(b1, .cells (cellsOfV (.agg ⟨[.int .i64 t.kind, .slice ae t.elems.length ce, .string t.name, .slice af t.fields.length cf, .slice aa t.arms.length ca]⟩)) 50 false .plain none)]) (fun i => i ≤ t.arms.length ∧ ∀ (j : Nat) (x : Arm), j < i → t.arms[j]? = some x → armB x = true) (fun i => t.arms.length - i) 0 ⟨Nat.zero_le _, fun _ _ h => (by cases h)⟩ ⟨rfl, rfl, trivial⟩ (.refl _) (fun i hq => ?_)
 refine .seq (.seq (.region (.P ?_)))
 refine .F fa50_4 ?_
 refine .L ag48 ?_
 refine .G (ln48 ..) ?_
 refine .P ?_
 refine .nil (.seq (.cond rfl (fun ht48 => ?_) fun ht48 => ?_))
 ·try simp only [nz] at ht48
  have hlt : i < t.arms.length := by omega
  obtain ⟨x, hx⟩ := gx hlt
  obtain ⟨b, off, cs, el, g, md, mate, rfl, ⟨hb, hh⟩, hle, hc⟩ := so ha hlt
  have hr := hc i x hx
  obtain ⟨vx, hra, hfa⟩ := hr
  obtain ⟨ax, cx, rfl, hnx, hfa⟩ := hfa
  refine .skip (.seq (.seq (.block (.seq (.seq (.region (.F fa50_4 ?_)))))))
  refine .L ag48 ?_
  refine .P ?_
  refine .K underlying48 sz55 ?_
  refine .F fa55_0 ?_
  refine .M ag9 (.base hh hb (by simp)) (cell_of_take hra (k := 0) rfl) ?_
  refine .call _ rfl rfl rfl rfl rfl rfl (fun m hm => rname_ok hm.lole) ?_
  refine .P ?_
  refine .nil (.seq (.cond rfl (fun hc10 => ?_) fun hc10 => ?_))
  ·try simp only [nz] at hc10
   refine .seq (.region (.P ?_))
   refine .nil (.seq (.ret (.seq (.blk (.seq (.loop (.blk (.seq ?_))))))))
   exact .end_ rfl rfl (fun m hm => ⟨congrArg Value.bool ((named_arm hx (by assumption)).symm), hm.ext⟩)
  try simp only [nz] at hc10
  refine .skip (.seq (.seq (.region (.P ?_))))
  refine .nil (.seq (.block ?_))
  refine .loop (α := Nat) (fun k => [(1, .pointer (some ⟨b1, 0, none⟩)), (4, .int .i64 (Int.ofNat (i))), (5, .int .i64 (Int.ofNat (k)))]) (fun k => [(b1, .cells (cellsOfV (.agg ⟨[.int .i64 t.kind, .slice ae t.elems.length ce, .string t.name, .slice af t.fields.length cf, .slice (some ⟨b, off, none⟩) t.arms.length ca]⟩)) 50 false .plain none)]) (fun k => k ≤ x.fields.length ∧ ∀ (j : Nat) (y : Fld), j < k → x.fields[j]? = some y → nameB y.name = true) (fun k => x.fields.length - k) 0 ⟨Nat.zero_le _, fun _ _ h => (by cases h)⟩ ⟨rfl, rfl, rfl, trivial⟩ (.refl _) (fun k hj => ?_)
  refine .seq (.seq (.region (.P ?_)))
  refine .F fa50_4 ?_
  refine .L ag48 ?_
  refine .P ?_
  refine .K underlying48 sz55 ?_
  refine .F fa55_1 ?_
  refine .M ag47 (.base hh hb (by simp)) (cell_of_take hra (k := 1) rfl) ?_
  refine .G (ln47 ..) ?_
  refine .P ?_
  refine .nil (.seq (.cond rfl (fun ht67 => ?_) fun ht67 => ?_))
  ·try simp only [nz] at ht67
   have hlt2 : k < x.fields.length := by omega
   obtain ⟨y, hy⟩ := gx hlt2
   obtain ⟨b2, off2, cs2, el2, g2, md2, mate2, rfl, ⟨hb2, hh2⟩, hle2, hc2⟩ := so hfa hlt2
   have hry := hc2 k y hy
   refine .skip (.seq (.seq (.block (.seq (.region (.F fa50_4 ?_))))))
   refine .L ag48 ?_
   refine .P ?_
   refine .K underlying48 sz55 ?_
   refine .F fa55_1 ?_
   refine .M ag47 (.base hh hb (by simp)) (cell_of_take hra (k := 1) rfl) ?_
   refine .P ?_
   refine .K underlying47 sz132 ?_
   refine .F fa132_0 ?_
   refine .M ag9 (.base hh2 hb2 (by simp)) (cell_of_take hry (k := 0) rfl) ?_
   refine .call _ rfl rfl rfl rfl rfl rfl (fun m hm => rname_ok hm.lole) ?_
   refine .P ?_
   refine .nil (.seq (.cond rfl (fun hc12 => ?_) fun hc12 => ?_))
   ·try simp only [nz] at hc12
    refine .seq (.region (.P ?_))
    refine .nil (.seq (.ret (.blk (.seq (.loop (.blk (.blk (.seq (.loop (.blk (.seq ?_)))))))))))
    exact .end_ rfl rfl (fun m hm => ⟨congrArg Value.bool ((named_afield hx hy (by assumption)).symm), hm.ext⟩)
   try simp only [nz] at hc12
   refine .skip (.blk (.seq (.region (.P2 ?_))))
   refine .W 69 k ?_
   refine .P ?_
   refine .nil ?_
   exact .loop (k + 1) ⟨hlt2, upto_succ hj.2 hy (by assumption)⟩ (by omega) ⟨rfl, rfl, rfl, trivial⟩ (.refl _)
  try simp only [nz] at ht67
  refine .exit (.seq (.loop (.here (.blk (.seq (.region (.P2 ?_)))))))
  refine .W 50 i ?_
  refine .P ?_
  refine .nil ?_
  exact .loop (i + 1) ⟨hlt, upto_succ hq.2 hx (armB_of (by assumption) fun j y hjy hy => hj.2 j y (by omega) hy)⟩ (by omega) ⟨rfl, rfl, trivial⟩ (.refl _)
 try simp only [nz] at ht48
 refine .exit (.seq (.loop (.here (.seq (.seq (.region (.P ?_)))))))
 refine .nil (.seq (.ret ?_))
 exact .end_ rfl rfl (fun m hm => ⟨congrArg Value.bool ((namedB_of hhd (fun j x hj hx => hi.2 j x (by omega) hx) fun j x hj hx => hq.2 j x (by omega) hx).symm), hm.ext⟩)
theorem rtwice_ok {l : List Fld} {v : Value} {m : AW} (hm : m.lo ≤ m.next) (hl : Sl (Mem m) 2 RFld l v) : Fc prog 133 [v] m fun v m' => v = .bool (dupB (fnames l)) ∧ Ext m m' := by
 obtain ⟨a, cap, rfl, hn, hl⟩ := hl
 refine Fc.body (c := _) func133 rfl rfl rfl rfl hm ?_
 refine .seq (.region (.P ?_))
 refine .nil (.seq (.seq (.seq (.region (.P ?_)))))
 refine .nil (.seq (.block ?_))
 refine .loop (α := Nat) (fun i => [(0, .slice a l.length cap), (3, .int .i64 (Int.ofNat (i)))]) (fun i => []) (fun i => i ≤ l.length ∧ ∀ (a_ : Nat) (x : Fld), a_ < i → l[a_]? = some x → ∀ (b_ : Nat) (y : Fld), b_ < a_ → l[b_]? = some y → y.name ≠ x.name) (fun i => l.length - i) 0 ⟨Nat.zero_le _, fun _ _ h => (by cases h)⟩ ⟨rfl, rfl, trivial⟩ (List.nil_sublist _) (fun i hi => ?_)
 refine .seq (.seq (.region (.P2 ?_)))
 refine .G (ln47 ..) ?_
 refine .P ?_
 refine .nil (.seq (.cond rfl (fun ht8 => ?_) fun ht8 => ?_))
 ·try simp only [nz] at ht8
  have hlt : i < l.length := by omega
  obtain ⟨x, hx⟩ := gx hlt
  obtain ⟨b, off, cs, el, g, md, mate, rfl, ⟨hb, hh⟩, hle, hc⟩ := so hl hlt
  have hr := hc i x hx
  refine .skip (.seq (.seq (.block (.seq (.region (.P ?_))))))
  refine .nil (.seq (.block ?_))
  refine .loop (α := Nat) (fun k => [(0, .slice (some ⟨b, off, none⟩) l.length cap), (3, .int .i64 (Int.ofNat (i))), (4, .int .i64 (Int.ofNat (k)))]) (fun k => []) (fun k => k ≤ i ∧ ∀ (b_ : Nat) (y : Fld), b_ < k → l[b_]? = some y → y.name ≠ x.name) (fun k => i - k) 0 ⟨Nat.zero_le _, fun _ _ h => (by cases h)⟩ ⟨rfl, rfl, rfl, trivial⟩ (List.nil_sublist _) (fun k hj => ?_)
  refine .seq (.seq (.region (.P3 ?_)))
  refine .nil (.seq (.cond rfl (fun ht13 => ?_) fun ht13 => ?_))
  ·try simp only [nz] at ht13
   have hlt2 : k < l.length := by omega
   obtain ⟨y, hy⟩ := gx hlt2
   have hry := hc k y hy
   refine .skip (.seq (.seq (.block (.seq ?_))))
   refine .D [(15, 0), (15, 0), (15, 3), (15, 7), (3, 15), (15, 0), (15, 0), (15, 96), (15, 224), (3, 480), (15, 1023)] (by kernel_rfl) (by kernel_rfl) (fun base hbase hB => ?_)
   iterate 2 refine .P ?_
   refine .K underlying47 sz132 ?_
   refine .F fa132_0 ?_
   refine .M ag9 (.base hh hb (by simp)) (cell_of_take hr (k := 0) rfl) ?_
   iterate 2 refine .P ?_
   refine .K underlying47 sz132 ?_
   refine .F fa132_0 ?_
   refine .M ag9 (.base hh hb (by simp)) (cell_of_take hry (k := 0) rfl) ?_
   refine .P ?_
   refine .nil (.seq (.cond rfl (fun hc2 => ?_) fun hc2 => ?_))
   ·try simp only [nz] at hc2
    refine .seq (.region (.P ?_))
    refine .nil (.seq (.ret (.blk (.seq (.loop (.blk (.blk (.seq (.loop (.blk (.seq ?_)))))))))))
    exact .end_ rfl rfl (fun m hm => ⟨congrArg Value.bool ((dup_yes (j := k) (by omega) (fnames_get hx) (by rw [fnames_get hy]; congr 1; symm; assumption)).symm), hm.ext⟩)
   try simp only [nz] at hc2
   refine .skip (.blk (.seq (.region (.P2 ?_))))
   refine .W 15 k ?_
   refine .P ?_
   refine .nil ?_
   exact .loop (k + 1) ⟨by omega, upto_succ hj.2 hy fun e_ => (by assumption : x.name ≠ y.name) e_.symm⟩ (by omega) ⟨rfl, rfl, rfl, trivial⟩ (List.nil_sublist _)
  try simp only [nz] at ht13
  refine .exit (.seq (.loop (.here (.blk (.seq (.region (.P2 ?_)))))))
  refine .W 10 i ?_
  refine .P ?_
  refine .nil ?_
  exact .loop (i + 1) ⟨hlt, upto_succ2 (P := fun a_ x => ∀ (b_ : Nat) (y : Fld), b_ < a_ → l[b_]? = some y → y.name ≠ x.name) hi.2 hx fun b_ y hb_ hy => hj.2 b_ y (by omega) hy⟩ (by omega) ⟨rfl, rfl, trivial⟩ (List.nil_sublist _)
 try simp only [nz] at ht8
 refine .exit (.seq (.loop (.here (.seq (.seq (.region (.P ?_)))))))
 refine .nil (.seq (.ret ?_))
 exact .end_ rfl rfl (fun m hm => ⟨congrArg Value.bool ((fdup_no fun a_ x ha_ hx => hi.2 a_ x (by omega) hx).symm), hm.ext⟩)
theorem rwith_ok {t : Ty} {s : ByteArray} {cs : List Value} {m : AW} (hm : m.lo ≤ m.next) (ht : RTy (Mem m) t cs) (hw : FewT t) : Fc prog 76 [.agg ⟨cs⟩, .string s] m fun v m' => ∃ x, WithA t s x ∧ v = WithV t s x ∧ Ext m m' ∧ News m m' x.1 := by
 obtain ⟨ve, vf, va, rfl, he, hf, ha⟩ := ht
 have heS := he
 have hfS := hf
 have haS := ha
 obtain ⟨ae, ce, rfl, hne, he⟩ := he
 obtain ⟨af, cf, rfl, hnf, hf⟩ := hf
 obtain ⟨aa, ca, rfl, hna, ha⟩ := ha
 have k1 := hw.elems
 have k2 := hw.fields
 have k3 := hw.arms
 refine Fc.body (c := _) func76 rfl rfl rfl rfl hm ?_
 refine .seq (.region ?_)
 refine .box rfl rfl rfl rfl rfl (fun b2 hb2 => ?_)
 refine .P2 ?_
 refine .nil (.seq (.seq (.region ?_)))
 refine .buildSlice rfl rfl rfl rfl rfl (bs47_0) (fun b8 hb8 => ?_)
 refine .F fa50_3 ?_
 refine .L ag47 ?_
 refine .appendSl (R := RFld) (l0 := []) (l := t.fields) (L := t.fields) (g := .emp b8) (cs := []) rfl .one Flat.nil rfl (hfS) ((Mem.sees rfl rfl)) RFld.flats (by simp; omega) rfl rfl rfl rfl underlying47 underlying47 ap132 rfl rfl (fun g1 cs1 hF1 hO1 => ?_)
 refine .P ?_
 refine .nil (.seq (.seq (.seq (.region (.P2 ?_)))))
 refine .nil (.seq (.cond rfl (fun hc0 => ?_) fun hc0 => ?_))
 ·try simp only [nz] at hc0
  refine .seq (.region (.P3 ?_))
  refine .nil (.seq (.ret (.seq ?_)))
  exact .end_ rfl rfl (fun m hm => ⟨(g1.H 132 cs1, g1.V t.fields.length), WithA.of (with_empty (by assumption)) (Gro.sl hF1 hO1 (by omega)) (Tight.gro hO1), WithV.some (x := (g1.H 132 cs1, g1.V t.fields.length)) (with_empty (by assumption)), hm.ext, hm.news (List.sublist_append_left _ _)⟩)
 try simp only [nz] at hc0
 refine .skip (.seq (.seq (.seq (.region (.P ?_)))))
 refine .nil (.seq (.block ?_))
 refine .loop (α := Nat) (fun i => [(1, .string s), (2, .pointer (some ⟨b2, 0, none⟩)), (6, g1.V t.fields.length), (7, .int .i64 (Int.ofNat (i)))]) (fun i => g1.H 132 cs1 ++ [(b2, .cells (cellsOfV (.agg ⟨[.int .i64 t.kind, .slice ae t.elems.length ce, .string t.name, .slice af t.fields.length cf, .slice aa t.arms.length ca]⟩)) 50 false .plain none)]) (fun i => i ≤ t.arms.length ∧ ∀ (j : Nat) (y : Arm), j < i → t.arms[j]? = some y → y.name ≠ s) (fun i => t.arms.length - i) 0 ⟨Nat.zero_le _, fun _ _ h => (by cases h)⟩ ⟨rfl, rfl, rfl, rfl, trivial⟩ (.refl _) (fun i hi => ?_)
 refine .seq (.seq (.region (.P ?_)))
 refine .F fa50_4 ?_
 refine .M ag48 (InH.sees (l := [(b2, .cells (cellsOfV (.agg ⟨[.int .i64 t.kind, .slice ae t.elems.length ce, .string t.name, .slice af t.fields.length cf, .slice aa t.arms.length ca]⟩)) 50 false .plain none)]) (by simp) _ _ (.head _)) rfl ?_
 refine .G (ln48 ..) ?_
 refine .P ?_
 refine .nil (.seq (.cond rfl (fun ht19 => ?_) fun ht19 => ?_))
 ·try simp only [nz] at ht19
  have hlt : i < t.arms.length := by omega
  obtain ⟨x, hx⟩ := gx hlt
  obtain ⟨b, off, cs, el, g, md, mate, rfl, ⟨hb, hh⟩, hle, hc⟩ := so ha hlt
  have hr := hc i x hx
  obtain ⟨vx, hra, hfa⟩ := hr
  have hxS := hfa
  obtain ⟨ax, cx, rfl, hnx, hfa⟩ := hfa
  have k4 := hw.afields i x hx
  refine .skip (.seq (.seq (.block (.seq (.region (.F fa50_4 ?_))))))
  refine .M ag48 (InH.sees (l := [(b2, .cells (cellsOfV (.agg ⟨[.int .i64 t.kind, .slice ae t.elems.length ce, .string t.name, .slice af t.fields.length cf, .slice (some ⟨b, off, none⟩) t.arms.length ca]⟩)) 50 false .plain none)]) (by simp) _ _ (.head _)) rfl ?_
  refine .P ?_
  refine .K underlying48 sz55 ?_
  refine .F fa55_0 ?_
  refine .M ag9 (.base hh hb (by simp)) (cell_of_take hra (k := 0) rfl) ?_
  refine .P2 ?_
  refine .nil (.seq (.cond rfl (fun hc2 => ?_) fun hc2 => ?_))
  ·try simp only [nz] at hc2
   refine .seq (.region (.P ?_))
   refine .F fa50_4 ?_
   refine .M ag48 (InH.sees (l := [(b2, .cells (cellsOfV (.agg ⟨[.int .i64 t.kind, .slice ae t.elems.length ce, .string t.name, .slice af t.fields.length cf, .slice (some ⟨b, off, none⟩) t.arms.length ca]⟩)) 50 false .plain none)]) (by simp) _ _ (.head _)) rfl ?_
   refine .P ?_
   refine .K underlying48 sz55 ?_
   refine .F fa55_1 ?_
   refine .M ag47 (.base hh hb (by simp)) (cell_of_take hra (k := 1) rfl) ?_
   refine .appendSl (R := RFld) (l0 := t.fields) (l := x.fields) (L := (t.fields ++ x.fields)) (g := g1) (cs := cs1) rfl .here hF1 hO1 (hxS) ((Mem.sees rfl rfl)) RFld.flats (by omega) rfl rfl rfl rfl underlying47 underlying47 ap132 rfl rfl (fun g2 cs2 hF2 hO2 => ?_)
   refine .P2 ?_
   refine .nil (.seq (.ret (.blk (.seq (.loop (.blk (.seq ?_)))))))
   exact .end_ rfl rfl (fun m hm => ⟨(g2.H 132 cs2, g2.V (t.fields ++ x.fields).length), WithA.of (with_arm (by assumption) hx hi.2 (by assumption)) (Gro.sl hF2 hO2 (by rw [List.length_append]; omega)) (Tight.gro hO2), WithV.some (x := (g2.H 132 cs2, g2.V (t.fields ++ x.fields).length)) (with_arm (by assumption) hx hi.2 (by assumption)), hm.ext, hm.news (List.sublist_append_left _ _)⟩)
  try simp only [nz] at hc2
  refine .skip (.blk (.seq (.region (.P2 ?_))))
  refine .W 21 i ?_
  refine .P ?_
  refine .nil ?_
  exact .loop (i + 1) ⟨hlt, upto_succ hi.2 hx (by assumption)⟩ (by omega) ⟨rfl, rfl, rfl, rfl, trivial⟩ (.refl _)
 try simp only [nz] at ht19
 refine .exit (.seq (.loop (.here (.seq (.seq (.region (.P2 ?_)))))))
 refine .nil (.seq (.ret ?_))
 exact .end_ rfl rfl (fun m hm => ⟨([], .slice none 0 0), with_none_A (with_none (by assumption) fun j y hj hy => hi.2 j y (by omega) hy), WithV.none (x := ([], .slice none 0 0)) (with_none (by assumption) fun j y hj hy => hi.2 j y (by omega) hy), hm.ext, News.nil _ _⟩)
theorem ragain_ok {t : Ty} {cs : List Value} {m : AW} (hm : m.lo ≤ m.next) (ht : RTy (Mem m) t cs) (hw : FewT t) (hnm : namedB t = true) : Fc prog 104 [.agg ⟨cs⟩] m fun v m' => v = .bool (twiceB t) ∧ Ext m m' := by
 have htS := ht
 obtain ⟨ve, vf, va, rfl, he, hf, ha⟩ := ht
 have heS := he
 have hfS := hf
 have haS := ha
 obtain ⟨ae, ce, rfl, hne, he⟩ := he
 obtain ⟨af, cf, rfl, hnf, hf⟩ := hf
 obtain ⟨aa, ca, rfl, hna, ha⟩ := ha
 have k1 := hw.elems
 have k2 := hw.fields
 have k3 := hw.arms
 refine Fc.body (c := _) func104 rfl rfl rfl rfl hm ?_
 refine .seq (.region ?_)
 refine .box rfl rfl rfl rfl rfl (fun b1 hb1 => ?_)
 refine .P ?_
 refine .nil (.seq (.seq (.seq (.region (.F fa50_3 ?_)))))
 refine .L ag47 ?_
 refine .call _ rfl rfl rfl rfl rfl rfl (fun m hm => rtwice_ok hm.lole (hfS.mono (Mem.kr hm) fun _ _ h => h)) ?_
 refine .nil (.seq (.cond rfl (fun hc0 => ?_) fun hc0 => ?_))
 ·try simp only [nz] at hc0
  refine .seq (.region (.P ?_))
  refine .nil (.seq (.ret (.seq ?_)))
  exact .end_ rfl rfl (fun m hm => ⟨congrArg Value.bool ((twice_fields (by assumption)).symm), hm.ext⟩)
 try simp only [nz] at hc0
 refine .skip (.seq (.seq (.seq (.region (.P ?_)))))
 refine .nil (.seq (.block ?_))
 refine .loop (α := Nat) (fun i => [(1, .pointer (some ⟨b1, 0, none⟩)), (3, .int .i64 (Int.ofNat (i)))]) (fun i => [(b1, .cells (cellsOfV (.agg ⟨[.int .i64 t.kind, .slice ae t.elems.length ce, .string t.name, .slice af t.fields.length cf, .slice aa t.arms.length ca]⟩)) 50 false .plain none)]) (fun i => i ≤ t.arms.length ∧ ∀ (a_ : Nat) (x : Arm), a_ < i → t.arms[a_]? = some x → ∀ (b_ : Nat) (y : Arm), b_ < a_ → t.arms[b_]? = some y → y.name ≠ x.name) (fun i => t.arms.length - i) 0 ⟨Nat.zero_le _, fun _ _ h => (by cases h)⟩ ⟨rfl, rfl, trivial⟩ (.refl _) (fun i hq => ?_)
 refine .seq (.seq (.region (.P ?_)))
 refine .F fa50_4 ?_
 refine .L ag48 ?_
 refine .G (ln48 ..) ?_
 refine .P ?_
 refine .nil (.seq (.cond rfl (fun ht15 => ?_) fun ht15 => ?_))
 ·try simp only [nz] at ht15
  have hlt : i < t.arms.length := by omega
  obtain ⟨x, hx⟩ := gx hlt
  obtain ⟨b, off, cs, el, g, md, mate, rfl, ⟨hb, hh⟩, hle, hc⟩ := so ha hlt
  have hr := hc i x hx
  obtain ⟨vx, hra, hfa⟩ := hr
  have hxS := hfa
  obtain ⟨ax, cx, rfl, hnx, hfa⟩ := hfa
  have k4 := hw.afields i x hx
  refine .skip (.seq (.seq (.block (.seq (.region (.P ?_))))))
  refine .nil (.seq (.block ?_))
  refine .loop (α := Nat) (fun k => [(1, .pointer (some ⟨b1, 0, none⟩)), (3, .int .i64 (Int.ofNat (i))), (4, .int .i64 (Int.ofNat (k)))]) (fun k => [(b1, .cells (cellsOfV (.agg ⟨[.int .i64 t.kind, .slice ae t.elems.length ce, .string t.name, .slice af t.fields.length cf, .slice (some ⟨b, off, none⟩) t.arms.length ca]⟩)) 50 false .plain none)]) (fun k => k ≤ i ∧ ∀ (b_ : Nat) (y : Arm), b_ < k → t.arms[b_]? = some y → y.name ≠ x.name) (fun k => i - k) 0 ⟨Nat.zero_le _, fun _ _ h => (by cases h)⟩ ⟨rfl, rfl, rfl, trivial⟩ (.refl _) (fun k hj => ?_)
  refine .seq (.seq (.region (.P3 ?_)))
  refine .nil (.seq (.cond rfl (fun ht20 => ?_) fun ht20 => ?_))
  ·try simp only [nz] at ht20
   have hlt2 : k < t.arms.length := by omega
   obtain ⟨y, hy⟩ := gx hlt2
   have hry := hc k y hy
   obtain ⟨vy, hry, -⟩ := hry
   refine .skip (.seq (.seq (.block (.seq ?_))))
   refine .D [(15, 0), (3, 1), (15, 0), (15, 7), (15, 15), (3, 31), (15, 0), (3, 64), (15, 0), (15, 448), (15, 960), (3, 1984), (15, 4095)] (by kernel_rfl) (by kernel_rfl) (fun base hbase hB => ?_)
   refine .F fa50_4 ?_
   refine .J ag48 ?_
   refine .P ?_
   refine .K underlying48 sz55 ?_
   refine .F fa55_0 ?_
   refine .M ag9 (.base hh hb (by simp)) (cell_of_take hra (k := 0) rfl) ?_
   refine .F fa50_4 ?_
   refine .J ag48 ?_
   refine .P ?_
   refine .K underlying48 sz55 ?_
   refine .F fa55_0 ?_
   refine .M ag9 (.base hh hb (by simp)) (cell_of_take hry (k := 0) rfl) ?_
   refine .P ?_
   refine .nil (.seq (.cond rfl (fun hc3 => ?_) fun hc3 => ?_))
   ·try simp only [nz] at hc3
    refine .seq (.region (.P ?_))
    refine .nil (.seq (.ret (.blk (.seq (.loop (.blk (.blk (.seq (.loop (.blk (.seq ?_)))))))))))
    exact .end_ rfl rfl (fun m hm => ⟨congrArg Value.bool ((twice_arms (dup_yes (j := k) (by omega) (anames_get hx) (by rw [anames_get hy]; congr 1; symm; assumption))).symm), hm.ext⟩)
   try simp only [nz] at hc3
   refine .skip (.blk (.seq (.region (.P2 ?_))))
   refine .W 22 k ?_
   refine .P ?_
   refine .nil ?_
   exact .loop (k + 1) ⟨by omega, upto_succ hj.2 hy fun e_ => (by assumption : x.name ≠ y.name) e_.symm⟩ (by omega) ⟨rfl, rfl, rfl, trivial⟩ (.refl _)
  try simp only [nz] at ht20
  refine .exit (.seq (.loop (.here (.blk (.seq (.region (.P2 ?_)))))))
  refine .W 17 i ?_
  refine .P ?_
  refine .nil ?_
  exact .loop (i + 1) ⟨hlt, upto_succ2 (P := fun a_ x => ∀ (b_ : Nat) (y : Arm), b_ < a_ → t.arms[b_]? = some y → y.name ≠ x.name) hq.2 hx fun b_ y hb_ hy => hj.2 b_ y (by omega) hy⟩ (by omega) ⟨rfl, rfl, trivial⟩ (.refl _)
 try simp only [nz] at ht15
 refine .exit (.seq (.loop (.here (.seq (.seq (.seq (.region (.P ?_))))))))
 refine .nil (.seq (.block ?_))
 refine .loop (α := Nat) (fun i => [(1, .pointer (some ⟨b1, 0, none⟩)), (5, .int .i64 (Int.ofNat (i)))]) (fun i => [(b1, .cells (cellsOfV (.agg ⟨[.int .i64 t.kind, .slice ae t.elems.length ce, .string t.name, .slice af t.fields.length cf, .slice aa t.arms.length ca]⟩)) 50 false .plain none)]) (fun i => i ≤ t.arms.length ∧ ∀ (j : Nat) (x : Arm), j < i → t.arms[j]? = some x → dupB (fnames (t.fields ++ x.fields)) = false) (fun i => t.arms.length - i) 0 ⟨Nat.zero_le _, fun _ _ h => (by cases h)⟩ ⟨rfl, rfl, trivial⟩ (.refl _) (fun i hi => ?_)
 refine .seq (.seq (.region (.P ?_)))
 refine .F fa50_4 ?_
 refine .L ag48 ?_
 refine .G (ln48 ..) ?_
 refine .P ?_
 refine .nil (.seq (.cond rfl (fun ht40 => ?_) fun ht40 => ?_))
 ·try simp only [nz] at ht40
  have hlt : i < t.arms.length := by omega
  obtain ⟨x, hx⟩ := gx hlt
  obtain ⟨b, off, cs, el, g, md, mate, rfl, ⟨hb, hh⟩, hle, hc⟩ := so ha hlt
  have hr := hc i x hx
  obtain ⟨vx, hra, hfa⟩ := hr
  have hxS := hfa
  obtain ⟨ax, cx, rfl, hnx, hfa⟩ := hfa
  have k4 := hw.afields i x hx
  have hW : withL t x.name = some (t.fields ++ x.fields) := with_arm (name_size (named_arm_name hnm hx)) hx (fun j y hj hy => hq.2 i x (by omega) hx j y hj hy) rfl
  refine .skip (.seq (.seq (.block (.seq ?_))))
  refine .D [(3, 0), (15, 0), (3, 2), (15, 0), (15, 14), (15, 30), (3, 62), (7, 127), (15, 255), (15, 511), (15, 511), (15, 1023), (15, 4095)] (by kernel_rfl) (by kernel_rfl) (fun base hbase hB => ?_)
  refine .E ag50 sz50 ?_
  refine .F fa50_4 ?_
  refine .J ag48 ?_
  refine .P ?_
  refine .K underlying48 sz55 ?_
  refine .F fa55_0 ?_
  refine .M ag9 (.base hh hb (by simp)) (cell_of_take hra (k := 0) rfl) ?_
  refine .calln _ _ _ rfl rfl rfl rfl rfl rfl rfl rfl rfl (fun m hm => rwith_ok hm.lole (RTy.mono (Mem.kr hm) _ _ htS) hw) (fun z hz => ?_)
  refine .as 51 (.tuple ⟨[z.2, .bool true]⟩) rfl (WithV.some (x := z) hW).symm ?_
  iterate 5 refine .P ?_
  refine .nil (.seq (.seq (.region (.P ?_))))
  refine .call _ rfl rfl rfl rfl rfl rfl (fun m hm => rtwice_ok hm.lole ((hz.1 _ hW).1.mono (InH.kr hm fun p hp => List.mem_append_left _ hp) fun _ _ h => h)) ?_
  refine .nil (.seq (.cond rfl (fun hc5 => ?_) fun hc5 => ?_))
  ·try simp only [nz] at hc5
   refine .seq (.region (.P ?_))
   refine .nil (.seq (.ret (.blk (.seq (.loop (.blk (.seq ?_)))))))
   exact .end_ rfl rfl (fun m hm => ⟨congrArg Value.bool ((twice_arm hx (by assumption)).symm), hm.ext⟩)
  try simp only [nz] at hc5
  refine .skip (.blk (.seq (.region (.P2 ?_))))
  refine .W 42 i ?_
  refine .P ?_
  refine .nil ?_
  exact .loop (i + 1) ⟨hlt, upto_succ hi.2 hx (by assumption)⟩ (by omega) ⟨rfl, rfl, trivial⟩ (List.sublist_append_right _ _)
 try simp only [nz] at ht40
 refine .exit (.seq (.loop (.here (.seq (.seq (.region (.P ?_)))))))
 refine .nil (.seq (.ret ?_))
 exact .end_ rfl rfl (fun m hm => ⟨congrArg Value.bool ((twice_not (by assumption) (adup_no fun a_ x ha_ hx => hq.2 a_ x (by omega) hx) fun j x hj hx => hi.2 j x (by omega) hx).symm), hm.ext⟩)
theorem arm_ok {t : Ty} {s : ByteArray} {K0 : Kn} {cs : List Value} {m : AW} (hm : m.lo ≤ m.next) (hK0 : ∀ b o, K0 b o → Mem m b o) (ht : RTy K0 t cs) (hw : FewT t) : Fc prog 72 [.agg ⟨cs⟩, .string s] m fun v m' => ∃ x, ArmA K0 t s cs x ∧ v = WithV t s x ∧ Ext m m' ∧ News m m' x.1 := by
 obtain ⟨ve, vf, va, rfl, he0, hf0, ha0⟩ := ht
 have ht := RTy.mono hK0 t _ ⟨ve, vf, va, rfl, he0, hf0, ha0⟩
 obtain ⟨ae, ce, rfl, hne, he⟩ := he0.mono hK0 fun _ _ h => h
 have hfS0 := hf0
 have hfS := hf0.mono hK0 fun _ _ h => h
 obtain ⟨af, cf, rfl, hnf, hf⟩ := hf0
 obtain ⟨aa, ca, rfl, hna, ha⟩ := ha0.mono hK0 (RArm.mono hK0)
 have k1 := hw.elems
 have k2 := hw.fields
 have k3 := hw.arms
 refine Fc.body (c := _) func72 rfl rfl rfl rfl hm ?_
 refine .seq (.region ?_)
 refine .box rfl rfl rfl rfl rfl (fun b2 hb2 => ?_)
 refine .P2 ?_
 refine .nil (.seq (.seq (.seq (.region (.P2 ?_)))))
 refine .nil (.seq (.cond rfl (fun hc0 => ?_) fun hc0 => ?_))
 ·try simp only [nz] at hc0
  refine .seq (.region (.F fa50_3 ?_))
  refine .L ag47 ?_
  refine .P2 ?_
  refine .nil (.seq (.ret (.seq ?_)))
  exact .end_ rfl rfl (fun m hm => ⟨([], .slice af t.fields.length cf), ArmA.of (with_empty (by assumption)) (hfS0.mono (fun _ _ h => .inr h) fun _ _ h => h) (fun vf h ht => by cases h; exact ht.mono fun _ _ h => .inr h), WithV.some (x := ([], .slice af t.fields.length cf)) (with_empty (by assumption)), hm.ext, News.nil _ _⟩)
 try simp only [nz] at hc0
 refine .skip (.seq (.seq (.seq (.region (.F fa50_4 ?_)))))
 refine .L ag48 ?_
 refine .G (ln48 ..) ?_
 refine .P ?_
 refine .nil (.seq (.block ?_))
 refine .loop (α := Nat) (fun i => [(1, .string s), (2, .pointer (some ⟨b2, 0, none⟩)), (13, .slice aa t.arms.length ca), (14, .int .i64 (Int.ofNat (t.arms.length))), (15, .int .i64 (Int.ofNat (i)))]) (fun i => [(b2, .cells (cellsOfV (.agg ⟨[.int .i64 t.kind, .slice ae t.elems.length ce, .string t.name, .slice af t.fields.length cf, .slice aa t.arms.length ca]⟩)) 50 false .plain none)]) (fun i => i ≤ t.arms.length ∧ ∀ (j : Nat) (y : Arm), j < i → t.arms[j]? = some y → y.name ≠ s) (fun i => t.arms.length - i) 0 ⟨Nat.zero_le _, fun _ _ h => (by cases h)⟩ ⟨rfl, rfl, rfl, rfl, rfl, trivial⟩ (.refl _) (fun i hi => ?_)
 refine .seq (.region (.P ?_))
 refine .nil (.seq (.seq (.cond rfl (fun ht16 => ?_) fun ht16 => ?_)))
 ·try simp only [nz] at ht16
  have hlt : i < t.arms.length := by omega
  obtain ⟨x, hx⟩ := gx hlt
  obtain ⟨b, off, cs, el, g, md, mate, rfl, ⟨hb, hh⟩, hle, hc⟩ := so ha hlt
  have hr := hc i x hx
  obtain ⟨vx, hra, hfa⟩ := hr
  have hxS := hfa
  obtain ⟨ax, cx, rfl, hnx, hfa⟩ := hfa
  have k4 := hw.afields i x hx
  refine .skip (.seq (.seq (.block (.seq (.region (.K underlying48 sz55 ?_))))))
  refine .A ag55 sz55 (.base hh hb (by simp)) hra ?_
  refine .alloc rfl rfl rfl rfl zr55 (fun b7 hb7 => ?_)
  refine .S sz55 ?_
  refine .nil (.seq (.seq (.region (.F fa55_0 ?_))))
  refine .L ag9 ?_
  refine .P2 ?_
  refine .nil (.seq (.cond rfl (fun hc2 => ?_) fun hc2 => ?_))
  ·try simp only [nz] at hc2
   refine .seq ?_
   refine .D [(11, 0), (15, 0), (3, 2), (7, 7), (12, 0), (0, 16), (7, 63), (15, 127), (15, 255)] (by kernel_rfl) (by kernel_rfl) (fun base hbase hB => ?_)
   refine .buildSlice rfl rfl rfl rfl rfl rfl (bs47_0) (fun b23 hn23 hb23 => ?_)
   refine .F fa50_3 ?_
   refine .R ag47 hB ?_
   refine .appendNewSl (.inr ⟨_, rfl⟩) (R := RFld) (l0 := []) (l := t.fields) (L := t.fields) (g := .emp b23) (cs := []) rfl .one Flat.nil rfl (hfS) ((Mem.sees rfl rfl)) RFld.flats (by simp; omega) rfl rfl (by kernel_rfl) rfl rfl rfl rfl underlying47 underlying47 ap132 rfl rfl (fun g1 cs1 hF1 hO1 => ?_)
   refine .F fa55_1 ?_
   refine .R ag47 hB ?_
   refine .appendSl (R := RFld) (l0 := t.fields) (l := x.fields) (L := (t.fields ++ x.fields)) (g := g1) (cs := cs1) rfl .here hF1 hO1 (hxS) ((Mem.sees rfl rfl)) RFld.flats (by omega) rfl rfl (by kernel_rfl) (by kernel_rfl) rfl rfl rfl rfl underlying47 underlying47 ap132 rfl rfl (fun g2 cs2 hF2 hO2 => ?_)
   iterate 2 refine .P ?_
   refine .nil (.seq (.ret (.blk (.seq (.loop (.blk (.seq ?_)))))))
   exact .end_ rfl rfl (fun m hm => ⟨(g2.H 132 cs2, g2.V (t.fields ++ x.fields).length), ArmA.of (with_arm (by assumption) hx hi.2 (by assumption)) ((Gro.sl hF2 hO2 (by rw [List.length_append]; omega)).mono (fun _ _ h => .inl h) fun _ _ h => h) (fun _ _ _ => (Tight.gro hO2).mono fun _ _ h => .inl h), WithV.some (x := (g2.H 132 cs2, g2.V (t.fields ++ x.fields).length)) (with_arm (by assumption) hx hi.2 (by assumption)), hm.ext, hm.news (List.sublist_append_left _ _)⟩)
  try simp only [nz] at hc2
  refine .skip (.blk (.seq (.region (.P ?_))))
  refine .W 30 i ?_
  refine .P ?_
  refine .nil ?_
  exact .loop (i + 1) ⟨hlt, upto_succ hi.2 hx (by assumption)⟩ (by omega) ⟨rfl, rfl, rfl, rfl, rfl, trivial⟩ (.cons _ (.refl _))
 try simp only [nz] at ht16
 refine .exit (.seq (.loop (.here (.seq (.seq (.region (.P2 ?_)))))))
 refine .nil (.seq (.ret ?_))
 exact .end_ rfl rfl (fun m hm => ⟨([], .slice none 0 0), arm_none_A (with_none (by assumption) fun j y hj hy => hi.2 j y (by omega) hy), WithV.none (x := ([], .slice none 0 0)) (with_none (by assumption) fun j y hj hy => hi.2 j y (by omega) hy), hm.ext, News.nil _ _⟩)
theorem value_ok {l : List Ty} {v : Value} {j : Nat} {t : Ty} {m : AW} (hm : m.lo ≤ m.next) (hl : Sl (Mem m) 5 (RTy (Mem m)) l v) (ht : l[j]? = some t) : Fc prog 62 [v, .int .i64 (Int.ofNat (j))] m fun v m' => v = .bool (valueB t) ∧ Ext m m' := by
 obtain ⟨a, cap, rfl, hn, hl⟩ := hl
 have hlt : j < l.length := (List.getElem?_eq_some_iff.1 ht).1
 obtain ⟨b, off, cs, el, g, md, mate, rfl, ⟨hb, hh⟩, hle, hc⟩ := so hl hlt
 have hr := hc j t ht
 obtain ⟨ve, vf, va, hr, he, hf, ha⟩ := hr
 obtain ⟨aa, ca, rfl, hna, ha⟩ := ha
 refine Fc.body (c := _) func62 rfl rfl rfl rfl hm ?_
 refine .seq (.region (.P ?_))
 refine .nil (.seq (.seq (.seq (.region (.P2 ?_)))))
 refine .K underlying22 sz50 ?_
 refine .F fa50_0 ?_
 refine .M ag3 (.base hh hb (by simp)) (cell_of_take hr (k := 0) rfl) ?_
 refine .nil (.seq (.block (.seq (.seq (.region (.P2 ?_))))))
 refine .nil (.seq (.cond rfl (fun hc0 => ?_) fun hc0 => ?_))
 ·refine .B 10 hc0 ?_
  try simp only [nz] at hc0
  refine .skip (.seq (.cond_true rfl (.seq (.region (.P ?_)))))
  refine .nil (.seq (.ret (.blk (.seq ?_))))
  exact .end_ rfl rfl (fun m hm => ⟨congrArg Value.bool (by unfold valueB; rw [Bool.eq_iff_iff]; simp only [nz, nb, reduceCtorEq]; (try simp only [nq]); omega), hm.ext⟩)
 refine .B 10 hc0 ?_
 try simp only [nz] at hc0
 refine .seq (.region (.P2 ?_))
 refine .nil (.seq (.cond rfl (fun hc1 => ?_) fun hc1 => ?_))
 ·refine .B 10 hc1 ?_
  try simp only [nz] at hc1
  refine .skip (.seq (.cond_true rfl (.seq (.region (.P ?_)))))
  refine .nil (.seq (.ret (.blk (.seq ?_))))
  exact .end_ rfl rfl (fun m hm => ⟨congrArg Value.bool (by unfold valueB; rw [Bool.eq_iff_iff]; simp only [nz, nb, reduceCtorEq]; (try simp only [nq]); omega), hm.ext⟩)
 refine .B 10 hc1 ?_
 try simp only [nz] at hc1
 refine .region (.P2 ?_)
 refine .nil (.seq (.cond rfl (fun hc2 => ?_) fun hc2 => ?_))
 ·refine .B 10 hc2 ?_
  try simp only [nz] at hc2
  refine .seq (.region (.P ?_))
  refine .nil (.seq (.ret (.blk (.seq ?_))))
  exact .end_ rfl rfl (fun m hm => ⟨congrArg Value.bool (by unfold valueB; rw [Bool.eq_iff_iff]; simp only [nz, nb, reduceCtorEq]; (try simp only [nq]); omega), hm.ext⟩)
 refine .B 10 hc2 ?_
 try simp only [nz] at hc2
 refine .seq (.region (.P2 ?_))
 refine .nil (.seq (.cond rfl (fun hc3 => ?_) fun hc3 => ?_))
 ·try simp only [nz] at hc3
  refine .seq (.region (.P2 ?_))
  refine .K underlying22 sz50 ?_
  refine .F fa50_4 ?_
  refine .M ag48 (.base hh hb (by simp)) (cell_of_take hr (k := 4) rfl) ?_
  refine .G (ln48 ..) ?_
  refine .P2 ?_
  refine .nil (.seq (.ret (.blk (.seq ?_))))
  exact .end_ rfl rfl (fun m hm => ⟨congrArg Value.bool (by unfold valueB; rw [Bool.eq_iff_iff]; simp only [nz, nb, reduceCtorEq]; (try simp only [nq]); omega), hm.ext⟩)
 try simp only [nz] at hc3
 refine .skip (.blk (.seq (.seq (.region (.P ?_)))))
 refine .nil (.seq (.ret ?_))
 exact .end_ rfl rfl (fun m hm => ⟨congrArg Value.bool (by unfold valueB; rw [Bool.eq_iff_iff]; simp only [nz, nb, reduceCtorEq]; (try simp only [nq]); omega), hm.ext⟩)
theorem rvalue_ok {l : List Ty} {v : Value} {j : Nat} {t : Ty} {m : AW} (hm : m.lo ≤ m.next) (hl : Sl (Mem m) 5 (RTy (Mem m)) l v) (ht : l[j]? = some t) : Fc prog 63 [v, .int .i64 (Int.ofNat (j))] m fun v m' => v = .bool (valueB t) ∧ Ext m m' := by
 obtain ⟨a, cap, rfl, hn, hl⟩ := hl
 have hlt : j < l.length := (List.getElem?_eq_some_iff.1 ht).1
 obtain ⟨b, off, cs, el, g, md, mate, rfl, ⟨hb, hh⟩, hle, hc⟩ := so hl hlt
 have hr := hc j t ht
 obtain ⟨ve, vf, va, hr, he, hf, ha⟩ := hr
 obtain ⟨aa, ca, rfl, hna, ha⟩ := ha
 refine Fc.body (c := _) func63 rfl rfl rfl rfl hm ?_
 refine .seq (.region (.P ?_))
 refine .nil (.seq (.seq (.seq (.region (.P2 ?_)))))
 refine .K underlying22 sz50 ?_
 refine .F fa50_0 ?_
 refine .M ag3 (.base hh hb (by simp)) (cell_of_take hr (k := 0) rfl) ?_
 refine .nil (.seq (.block (.seq (.seq (.region (.P2 ?_))))))
 refine .nil (.seq (.cond rfl (fun hc0 => ?_) fun hc0 => ?_))
 ·refine .B 10 hc0 ?_
  try simp only [nz] at hc0
  refine .skip (.seq (.cond_true rfl (.seq (.region (.P ?_)))))
  refine .nil (.seq (.ret (.blk (.seq ?_))))
  exact .end_ rfl rfl (fun m hm => ⟨congrArg Value.bool (by unfold valueB; rw [Bool.eq_iff_iff]; simp only [nz, nb, reduceCtorEq]; (try simp only [nq]); omega), hm.ext⟩)
 refine .B 10 hc0 ?_
 try simp only [nz] at hc0
 refine .seq (.region (.P2 ?_))
 refine .nil (.seq (.cond rfl (fun hc1 => ?_) fun hc1 => ?_))
 ·refine .B 10 hc1 ?_
  try simp only [nz] at hc1
  refine .skip (.seq (.cond_true rfl (.seq (.region (.P ?_)))))
  refine .nil (.seq (.ret (.blk (.seq ?_))))
  exact .end_ rfl rfl (fun m hm => ⟨congrArg Value.bool (by unfold valueB; rw [Bool.eq_iff_iff]; simp only [nz, nb, reduceCtorEq]; (try simp only [nq]); omega), hm.ext⟩)
 refine .B 10 hc1 ?_
 try simp only [nz] at hc1
 refine .region (.P2 ?_)
 refine .nil (.seq (.cond rfl (fun hc2 => ?_) fun hc2 => ?_))
 ·refine .B 10 hc2 ?_
  try simp only [nz] at hc2
  refine .seq (.region (.P ?_))
  refine .nil (.seq (.ret (.blk (.seq ?_))))
  exact .end_ rfl rfl (fun m hm => ⟨congrArg Value.bool (by unfold valueB; rw [Bool.eq_iff_iff]; simp only [nz, nb, reduceCtorEq]; (try simp only [nq]); omega), hm.ext⟩)
 refine .B 10 hc2 ?_
 try simp only [nz] at hc2
 refine .seq (.region (.P2 ?_))
 refine .nil (.seq (.cond rfl (fun hc3 => ?_) fun hc3 => ?_))
 ·try simp only [nz] at hc3
  refine .seq (.region (.P2 ?_))
  refine .K underlying22 sz50 ?_
  refine .F fa50_4 ?_
  refine .M ag48 (.base hh hb (by simp)) (cell_of_take hr (k := 4) rfl) ?_
  refine .G (ln48 ..) ?_
  refine .P2 ?_
  refine .nil (.seq (.ret (.blk (.seq ?_))))
  exact .end_ rfl rfl (fun m hm => ⟨congrArg Value.bool (by unfold valueB; rw [Bool.eq_iff_iff]; simp only [nz, nb, reduceCtorEq]; (try simp only [nq]); omega), hm.ext⟩)
 try simp only [nz] at hc3
 refine .skip (.blk (.seq (.seq (.region (.P ?_)))))
 refine .nil (.seq (.ret ?_))
 exact .end_ rfl rfl (fun m hm => ⟨congrArg Value.bool (by unfold valueB; rw [Bool.eq_iff_iff]; simp only [nz, nb, reduceCtorEq]; (try simp only [nq]); omega), hm.ext⟩)
theorem twice_ok {t : Ty} {cs : List Value} {m : AW} (hm : m.lo ≤ m.next) (ht : RTy (Mem m) t cs) : Fc prog 97 [.agg ⟨cs⟩] m fun v m' => v = .bool (twiceB t) ∧ Ext m m' := by
 obtain ⟨ve, vf, va, rfl, he, hf, ha⟩ := ht
 have heS := he
 have hfS := hf
 have haS := ha
 obtain ⟨ae, ce, rfl, hne, he⟩ := he
 obtain ⟨af, cf, rfl, hnf, hf⟩ := hf
 obtain ⟨aa, ca, rfl, hna, ha⟩ := ha
 refine Fc.body (c := _) func97 rfl rfl rfl rfl hm ?_
 refine .seq (.region ?_)
 refine .box rfl rfl rfl rfl rfl (fun b1 hb1 => ?_)
 refine .P ?_
 refine .nil (.seq (.seq (.region ?_)))
 refine .makeMap rfl rfl rfl rfl (fun b12 hb12 => ?_)
 refine .P ?_
 refine .nil (.seq (.seq (.seq (.region (.F fa50_3 ?_)))))
 refine .L ag47 ?_
 refine .G (ln47 ..) ?_
 refine .P ?_
 refine .nil (.seq (.block ?_))
 refine .loop (α := Nat × List MapEntry × Nat × List (ByteArray × Value)) (fun q => [(1, .pointer (some ⟨b1, 0, none⟩)), (3, .map (some b12)), (14, .slice af t.fields.length cf), (15, .int .i64 (Int.ofNat (t.fields.length))), (16, .int .i64 (Int.ofNat (q.1)))]) (fun q => [(b12, .map q.2.1 q.2.2.1), (b1, .cells (cellsOfV (.agg ⟨[.int .i64 t.kind, .slice ae t.elems.length ce, .string t.name, .slice af t.fields.length cf, .slice aa t.arms.length ca]⟩)) 50 false .plain none)]) (fun q => q.1 ≤ t.fields.length ∧ PairsK Value.string q.2.1 q.2.2.2 ∧ SetIs q.2.2.2 ((fnames t.fields).take q.1) ∧ ((fnames t.fields).take q.1).Nodup) (fun q => t.fields.length - q.1) (0, [], 0, []) ⟨Nat.zero_le _, trivial, SetIs.nil, List.nodup_nil⟩ ⟨rfl, rfl, rfl, rfl, rfl, trivial⟩ (.refl _) (fun q hq0 => ?_)
 obtain ⟨i, es, c, lC⟩ := q
 obtain ⟨hi, hP, hS, hN⟩ := hq0
 simp only at hi hP hS hN
 refine .seq (.region (.P ?_))
 refine .nil (.seq (.seq (.cond rfl (fun ht17 => ?_) fun ht17 => ?_)))
 ·try simp only [nz] at ht17
  have hlt : i < t.fields.length := by omega
  obtain ⟨x, hx⟩ := gx hlt
  obtain ⟨b, off, cs, el, g, md, mate, rfl, ⟨hb, hh⟩, hle, hc⟩ := so hf hlt
  have hr := hc i x hx
  refine .skip (.seq (.seq (.block (.seq (.region (.K underlying47 sz132 ?_))))))
  refine .A ag132 sz132 (.base hh hb (by simp)) hr ?_
  refine .alloc rfl rfl rfl rfl zr132 (fun b5 hb5 => ?_)
  refine .S sz132 ?_
  refine .nil (.seq (.seq (.seq (.region (.P ?_)))))
  refine .F fa132_0 ?_
  refine .L ag9 ?_
  refine .lookup (K := Value.string) (.tail .one) hP (KeyOk.string underlying9) rfl rfl rfl rfl underlying195 zr4 rfl rfl (hS.look _) ?_
  refine .nil (.seq (.cond rfl (fun hc1 => ?_) fun hc1 => ?_))
  ·try simp only [nz] at hc1
   refine .seq (.region (.P ?_))
   refine .nil (.seq (.ret (.seq (.blk (.seq (.loop (.blk (.seq ?_))))))))
   exact .end_ rfl rfl (fun m hm => ⟨congrArg Value.bool ((twice_fields (dup_mem (fnames_get hx) (by assumption))).symm), hm.ext⟩)
  try simp only [nz] at hc1
  refine .skip (.seq (.region (.P ?_)))
  refine .F fa132_0 ?_
  refine .L ag9 ?_
  refine .mapUpdate (K := Value.string) (.tail .one) hP (KeyOk.string underlying9) rfl rfl rfl underlying195 rfl rfl rfl (fun es1 c1 hP1 => ?_)
  refine .nil (.blk (.seq (.region (.P ?_))))
  refine .W 27 i ?_
  refine .P ?_
  refine .nil ?_
  exact .loop (i + 1, es1, c1, putP x.name (.bool true) lC) ⟨hlt, hP1, hS.put_take (fnames_get hx), nodup_take hN (fnames_get hx) (by assumption)⟩ (by show t.fields.length - (i + 1) < t.fields.length - i; omega) ⟨rfl, rfl, rfl, rfl, rfl, trivial⟩ (.cons_cons _ (.cons _ (.refl _)))
 try simp only [nz] at ht17
 refine .exit (.seq (.loop (.here (.seq (.seq (.region ?_))))))
 refine .makeMap rfl rfl rfl rfl (fun b28 hb28 => ?_)
 refine .P ?_
 refine .nil (.seq (.seq (.seq (.region (.F fa50_4 ?_)))))
 refine .L ag48 ?_
 refine .G (ln48 ..) ?_
 refine .P ?_
 refine .nil (.seq (.block ?_))
 refine .loop (α := Nat × List MapEntry × Nat × List (ByteArray × Value)) (fun q => [(1, .pointer (some ⟨b1, 0, none⟩)), (3, .map (some b12)), (6, .map (some b28)), (30, .slice aa t.arms.length ca), (31, .int .i64 (Int.ofNat (t.arms.length))), (32, .int .i64 (Int.ofNat (q.1)))]) (fun q => [(b28, .map q.2.1 q.2.2.1), (b12, .map es c), (b1, .cells (cellsOfV (.agg ⟨[.int .i64 t.kind, .slice ae t.elems.length ce, .string t.name, .slice af t.fields.length cf, .slice aa t.arms.length ca]⟩)) 50 false .plain none)]) (fun q => q.1 ≤ t.arms.length ∧ PairsK Value.string q.2.1 q.2.2.2 ∧ SetIs q.2.2.2 ((anames t.arms).take q.1) ∧ ((anames t.arms).take q.1).Nodup ∧ ∀ (j : Nat) (x : Arm), j < q.1 → t.arms[j]? = some x → dupB (fnames (t.fields ++ x.fields)) = false) (fun q => t.arms.length - q.1) (0, [], 0, []) ⟨Nat.zero_le _, trivial, SetIs.nil, List.nodup_nil, fun _ _ h => (by cases h)⟩ ⟨rfl, rfl, rfl, rfl, rfl, rfl, trivial⟩ (.refl _) (fun q hq0 => ?_)
 obtain ⟨i2, es2, c2, lA⟩ := q
 obtain ⟨hi2, hP2, hS2, hN2, hD2⟩ := hq0
 simp only at hi2 hP2 hS2 hN2 hD2
 refine .seq (.region (.P ?_))
 refine .nil (.seq (.seq (.cond rfl (fun ht33 => ?_) fun ht33 => ?_)))
 ·try simp only [nz] at ht33
  have hlt : i2 < t.arms.length := by omega
  obtain ⟨x, hx⟩ := gx hlt
  obtain ⟨b, off, cs, el, g, md, mate, rfl, ⟨hb, hh⟩, hle, hc⟩ := so ha hlt
  have hr := hc i2 x hx
  obtain ⟨vx, hra, hfa⟩ := hr
  obtain ⟨ax, cx, rfl, hnx, hfa⟩ := hfa
  have hSF : SetIs lC (fnames t.fields) := by rw [List.take_of_length_le (by rw [fnames_len]; omega)] at hS; exact hS
  have hN5 : (fnames t.fields).Nodup := by rw [List.take_of_length_le (by rw [fnames_len]; omega)] at hN; exact hN
  refine .skip (.seq (.seq (.block (.seq (.region (.K underlying48 sz55 ?_))))))
  refine .A ag55 sz55 (.base hh hb (by simp)) hra ?_
  refine .alloc rfl rfl rfl rfl zr55 (fun b8 hb8 => ?_)
  refine .S sz55 ?_
  refine .nil (.seq (.seq (.seq (.region (.P ?_)))))
  refine .F fa55_0 ?_
  refine .L ag9 ?_
  refine .lookup (K := Value.string) (.tail .one) hP2 (KeyOk.string underlying9) rfl rfl rfl rfl underlying195 zr4 rfl rfl (hS2.look _) ?_
  refine .nil (.seq (.cond rfl (fun hc3 => ?_) fun hc3 => ?_))
  ·try simp only [nz] at hc3
   refine .seq (.region (.P ?_))
   refine .nil (.seq (.ret (.seq (.blk (.seq (.loop (.blk (.seq ?_))))))))
   exact .end_ rfl rfl (fun m hm => ⟨congrArg Value.bool ((twice_arms (dup_mem (anames_get hx) (by assumption))).symm), hm.ext⟩)
  try simp only [nz] at hc3
  refine .skip (.seq (.seq (.region (.P ?_))))
  refine .F fa55_0 ?_
  refine .L ag9 ?_
  refine .mapUpdate (K := Value.string) (.tail .one) hP2 (KeyOk.string underlying9) rfl rfl rfl underlying195 rfl rfl rfl (fun es3 c3 hP3 => ?_)
  refine .nil (.seq (.seq (.region ?_)))
  refine .makeMap rfl rfl rfl rfl (fun b43 hb43 => ?_)
  refine .P ?_
  refine .nil (.seq (.seq (.region (.F fa55_1 ?_))))
  refine .L ag47 ?_
  refine .G (ln47 ..) ?_
  refine .P ?_
  refine .nil (.seq (.block ?_))
  refine .loop (α := Nat × List MapEntry × Nat × List (ByteArray × Value)) (fun q => [(1, .pointer (some ⟨b1, 0, none⟩)), (3, .map (some b12)), (6, .map (some b28)), (9, .map (some b43)), (30, .slice (some ⟨b, off, none⟩) t.arms.length ca), (31, .int .i64 (Int.ofNat (t.arms.length))), (32, .int .i64 (Int.ofNat (i2))), (45, .slice ax x.fields.length cx), (46, .int .i64 (Int.ofNat (x.fields.length))), (47, .int .i64 (Int.ofNat (q.1)))]) (fun q => [(b43, .map q.2.1 q.2.2.1), (b28, .map es3 c3), (b12, .map es c), (b1, .cells (cellsOfV (.agg ⟨[.int .i64 t.kind, .slice ae t.elems.length ce, .string t.name, .slice af t.fields.length cf, .slice (some ⟨b, off, none⟩) t.arms.length ca]⟩)) 50 false .plain none)]) (fun q => q.1 ≤ x.fields.length ∧ PairsK Value.string q.2.1 q.2.2.2 ∧ SetIs q.2.2.2 ((fnames x.fields).take q.1) ∧ (fnames t.fields ++ (fnames x.fields).take q.1).Nodup) (fun q => x.fields.length - q.1) (0, [], 0, []) ⟨Nat.zero_le _, trivial, SetIs.nil, (by rw [List.take_zero, List.append_nil]; exact hN5)⟩ ⟨rfl, rfl, rfl, rfl, rfl, rfl, rfl, rfl, rfl, rfl, trivial⟩ (.cons_cons _ (.cons_cons _ (.cons _ (.refl _)))) (fun q hq0 => ?_)
  obtain ⟨k, es4, c4, lO⟩ := q
  obtain ⟨hi4, hP4, hS4, hN4⟩ := hq0
  simp only at hi4 hP4 hS4 hN4
  refine .seq (.region (.P ?_))
  refine .nil (.seq (.seq (.cond rfl (fun ht48 => ?_) fun ht48 => ?_)))
  ·try simp only [nz] at ht48
   have hlt2 : k < x.fields.length := by omega
   obtain ⟨y, hy⟩ := gx hlt2
   obtain ⟨b2, off2, cs2, el2, g2, md2, mate2, rfl, ⟨hb2, hh2⟩, hle2, hc2⟩ := so hfa hlt2
   have hry := hc2 k y hy
   refine .skip (.seq (.seq (.block (.seq (.region (.K underlying47 sz132 ?_))))))
   refine .A ag132 sz132 (.base hh2 hb2 (by simp)) hry ?_
   refine .alloc rfl rfl rfl rfl zr132 (fun b11 hb11 => ?_)
   refine .S sz132 ?_
   refine .nil (.seq (.seq (.seq (.region (.P ?_)))))
   refine .F fa132_0 ?_
   refine .L ag9 ?_
   refine .lookup (K := Value.string) (.tail (.tail (.tail .one))) hP (KeyOk.string underlying9) rfl rfl rfl rfl underlying195 zr4 rfl rfl (hSF.look _) ?_
   refine .P ?_
   refine .splitB 55 rfl (fun hs_55 => ?_) (fun hs_55 => ?_)
   ·try simp only [nz] at hs_55
    iterate 4 refine .O ?_
    refine .P ?_
    refine .nil (.seq (.cond_true rfl (.seq (.region (.P ?_)))))
    refine .nil (.seq (.ret (.seq (.blk (.seq (.loop (.blk (.blk (.seq (.loop (.blk ?_)))))))))))
    refine .seq ?_
    exact .end_ rfl rfl (fun m hm => ⟨congrArg Value.bool ((twice_arm hx (by rw [fnames_append]; exact dup_app (fnames_get hy) (.inl (by assumption)))).symm), hm.ext⟩)
   try simp only [nz] at hs_55
   refine .P ?_
   refine .F fa132_0 ?_
   refine .L ag9 ?_
   refine .lookup (K := Value.string) (.tail .one) hP4 (KeyOk.string underlying9) rfl rfl rfl rfl underlying195 zr4 rfl rfl (hS4.look _) ?_
   refine .P ?_
   refine .nil (.seq (.cond rfl (fun hc5 => ?_) fun hc5 => ?_))
   ·try simp only [nz] at hc5
    refine .seq (.region (.P ?_))
    refine .nil (.seq (.ret (.seq (.blk (.seq (.loop (.blk (.blk (.seq (.loop (.blk ?_)))))))))))
    refine .seq ?_
    exact .end_ rfl rfl (fun m hm => ⟨congrArg Value.bool ((twice_arm hx (by rw [fnames_append]; exact dup_app (fnames_get hy) (.inr (by assumption)))).symm), hm.ext⟩)
   try simp only [nz] at hc5
   refine .skip (.seq (.region (.P ?_)))
   refine .F fa132_0 ?_
   refine .L ag9 ?_
   refine .mapUpdate (K := Value.string) (.tail .one) hP4 (KeyOk.string underlying9) rfl rfl rfl underlying195 rfl rfl rfl (fun es5 c5 hP5 => ?_)
   refine .nil (.blk (.seq (.region (.P ?_))))
   refine .W 64 k ?_
   refine .P ?_
   refine .nil ?_
   exact .loop (k + 1, es5, c5, putP y.name (.bool true) lO) ⟨hlt2, hP5, hS4.put_take (fnames_get hy), nodup_app hN4 (fnames_get hy) (by assumption) (by assumption)⟩ (by show x.fields.length - (k + 1) < x.fields.length - k; omega) ⟨rfl, rfl, rfl, rfl, rfl, rfl, rfl, rfl, rfl, rfl, trivial⟩ (.cons_cons _ (.cons _ (.refl _)))
  try simp only [nz] at ht48
  refine .exit (.seq (.loop (.here (.blk (.seq (.region (.P ?_)))))))
  refine .W 65 i2 ?_
  refine .P ?_
  refine .nil ?_
  exact .loop (i2 + 1, es3, c3, putP x.name (.bool true) lA) ⟨hlt, hP3, hS2.put_take (anames_get hx), nodup_take hN2 (anames_get hx) (by assumption), upto_succ hD2 hx (by rw [fnames_append]; exact dup_app_no hN4 (by rw [fnames_len]; omega))⟩ (by show t.arms.length - (i2 + 1) < t.arms.length - i2; omega) ⟨rfl, rfl, rfl, rfl, rfl, rfl, trivial⟩ (.cons _ (.refl _))
 try simp only [nz] at ht33
 refine .exit (.seq (.loop (.here (.seq (.seq (.region (.P ?_)))))))
 refine .nil (.seq (.ret ?_))
 exact .end_ rfl rfl (fun m hm => ⟨congrArg Value.bool ((twice_not (dup_nodup hN (by rw [fnames_len]; omega)) (dup_nodup hN2 (by rw [anames_len]; omega)) fun j x hj hx => hD2 j x (by omega) hx).symm), hm.ext⟩)
theorem parts1_ok {α : Type} {y : Nat} {C : List Nat} {A : Nat → α → Prop} {B : α → Prop} {H : α → Hp} {x0 : α} {D : Nat → Prop} {t : Ty} {bt : Nat} {ve vf va : Value} {m : AW} (hm : m.lo ≤ m.next) (hbt : MemD D m bt (.cells [.int .i64 t.kind, ve, .string t.name, vf, va] 50 false .plain none)) (he : Sl (MemD D m) 1 RInt t.elems ve) (hf : Sl (MemD D m) 2 RFld t.fields vf) (ha : Sl (MemD D m) 2 (RArm (MemD D m)) t.arms va) (hK : ∀ x, (H x).map Prod.fst = C) (hDC : ∀ b, D b → b ∉ C) (h0 : A 0 x0) (hk : Knows C m m (H x0)) (hst : ∀ i x v, (pvs t)[i]? = some v → A i x → ∀ m', Knows C m m' (H x) → Yc prog y v m' fun r m'' => ∃ x', Knows C m' m'' (H x') ∧ (r = .bool true ∧ A (i + 1) x' ∨ r = .bool false ∧ B x')) : Fc prog 130 [.func (.yield y) ⟨[]⟩ ⟨[]⟩, .pointer (some ⟨bt, 0, none⟩)] m fun v m' => ∃ x', Knows C m m' (H x') ∧ (A (pvs t).length x' ∨ B x') := by
 obtain ⟨ae, ce, rfl, hne, he⟩ := he
 obtain ⟨af, cf, rfl, hnf, hf⟩ := hf
 obtain ⟨aa, ca, rfl, hna, ha⟩ := ha
 refine Fc.bodyS (c := _) func130 rfl rfl rfl rfl hk ?_
 refine .seq (.seq (.region (.F fa50_1 ?_)))
 refine .M ag32 (.base hbt.2.2 hbt.2.1 (hDC _ hbt.1)) rfl ?_
 refine .G (ln32 ..) ?_
 refine .P ?_
 refine .nil (.seq (.block ?_))
 refine .loop (α := Nat × α) (fun q => [(0, .func (.yield y) ⟨[]⟩ ⟨[]⟩), (1, .pointer (some ⟨bt, 0, none⟩)), (12, .slice ae t.elems.length ce), (13, .int .i64 (Int.ofNat (t.elems.length))), (14, .int .i64 (Int.ofNat (q.1)))]) (fun q => H q.2) (fun q => q.1 ≤ t.elems.length ∧ A q.1 q.2) (fun q => t.elems.length - q.1) (0, x0) ⟨Nat.zero_le _, h0⟩ ⟨rfl, rfl, rfl, rfl, rfl, trivial⟩ (.refl _) (fun q hq0 => ?_)
 obtain ⟨i, x⟩ := q
 obtain ⟨hi, hA⟩ := hq0
 simp only at hi hA
 refine .seq (.region (.P ?_))
 refine .nil (.seq (.seq (.cond rfl (fun ht15 => ?_) fun ht15 => ?_)))
 ·try simp only [nz] at ht15
  have hlt : i < t.elems.length := by omega
  obtain ⟨x_, hx⟩ := gx hlt
  obtain ⟨b, off, cs, el, g, md, mate, rfl, ⟨hd, hb, hh⟩, hle, hc⟩ := so he hlt
  have hr := hc i x_ hx
  refine .skip (.seq (.seq (.block (.seq (.region (.K underlying32 sz3 ?_))))))
  refine .M ag3 (.base hh hb (hDC _ hd)) (cell_of_take hr (k := 0) rfl) ?_
  refine .P ?_
  refine .nil (.seq (.seq (.region (.P2 ?_))))
  refine .yieldI hst rfl rfl hK (pvs_get (parts_elem hx)) hA .all rfl rfl rfl rfl rfl rfl (fun x1 hA1 => ?_) (fun x1 hB1 => ?_)
  ·refine .P ?_
   refine .nil (.seq (.cond_false rfl (.skip (.blk (.seq (.region (.P ?_)))))))
   refine .W 22 i ?_
   refine .P ?_
   refine .nil ?_
   exact .loop (i + 1, x1) ⟨hlt, hA1⟩ (by show t.elems.length - (i + 1) < t.elems.length - i; omega) ⟨rfl, rfl, rfl, rfl, rfl, trivial⟩ (List.sublist_append_left _ _)
  refine .P ?_
  refine .nil (.seq (.cond_true rfl (.ret (.blk (.seq (.loop (.blk (.seq ?_))))))))
  exact .end_ rfl rfl (fun m hm => ⟨x1, hm.sub (List.sublist_append_left _ _), .inr hB1⟩)
 try simp only [nz] at ht15
 refine .exit (.seq (.loop (.here (.seq (.seq (.seq (.region (.F fa50_3 ?_))))))))
 refine .M ag47 (.base hbt.2.2 hbt.2.1 (hDC _ hbt.1)) rfl ?_
 refine .G (ln47 ..) ?_
 refine .P ?_
 refine .nil (.seq (.block ?_))
 refine .loop (α := Nat × α) (fun q => [(0, .func (.yield y) ⟨[]⟩ ⟨[]⟩), (1, .pointer (some ⟨bt, 0, none⟩)), (24, .slice af t.fields.length cf), (25, .int .i64 (Int.ofNat (t.fields.length))), (26, .int .i64 (Int.ofNat (q.1)))]) (fun q => H q.2) (fun q => q.1 ≤ t.fields.length ∧ A (t.elems.length + q.1) q.2) (fun q => t.fields.length - q.1) (0, x) ⟨Nat.zero_le _, by rw [show t.elems.length + 0 = i by omega]; exact hA⟩ ⟨rfl, rfl, rfl, rfl, rfl, trivial⟩ (.refl _) (fun q hq0 => ?_)
 obtain ⟨i, x⟩ := q
 obtain ⟨hi2, hA2⟩ := hq0
 simp only at hi2 hA2
 refine .seq (.region (.P ?_))
 refine .nil (.seq (.seq (.cond rfl (fun ht27 => ?_) fun ht27 => ?_)))
 ·try simp only [nz] at ht27
  have hlt : i < t.fields.length := by omega
  obtain ⟨x_, hx⟩ := gx hlt
  obtain ⟨b, off, cs, el, g, md, mate, rfl, ⟨hd, hb, hh⟩, hle, hc⟩ := so hf hlt
  have hr := hc i x_ hx
  refine .skip (.seq (.seq (.block (.seq (.region (.K underlying47 sz132 ?_))))))
  refine .A ag132 sz132 (.base hh hb (hDC _ hd)) hr ?_
  refine .alloc rfl rfl rfl rfl zr132 (fun b6 hb6 => ?_)
  refine .S sz132 ?_
  refine .nil (.seq (.seq (.region (.P ?_))))
  refine .F fa132_1 ?_
  refine .L ag3 ?_
  refine .yieldI hst rfl rfl hK (pvs_get (parts_field hx)) hA2 (.tail .all) rfl rfl rfl rfl rfl rfl (fun x1 hA1 => ?_) (fun x1 hB1 => ?_)
  ·refine .P ?_
   refine .nil (.seq (.cond_false rfl (.skip (.blk (.seq (.region (.P ?_)))))))
   refine .W 35 i ?_
   refine .P ?_
   refine .nil ?_
   exact .loop (i + 1, x1) ⟨hlt, hA1⟩ (by show t.fields.length - (i + 1) < t.fields.length - i; omega) ⟨rfl, rfl, rfl, rfl, rfl, trivial⟩ (List.sublist_append_left _ _)
  refine .P ?_
  refine .nil (.seq (.cond_true rfl (.ret (.blk (.seq (.loop (.blk (.seq ?_))))))))
  exact .end_ rfl rfl (fun m hm => ⟨x1, hm.sub (List.sublist_append_left _ _), .inr hB1⟩)
 try simp only [nz] at ht27
 refine .exit (.seq (.loop (.here (.seq (.seq (.region (.F fa50_4 ?_)))))))
 refine .M ag48 (.base hbt.2.2 hbt.2.1 (hDC _ hbt.1)) rfl ?_
 refine .G (ln48 ..) ?_
 refine .P ?_
 refine .nil (.seq (.block ?_))
 refine .loop (α := Nat × α) (fun q => [(0, .func (.yield y) ⟨[]⟩ ⟨[]⟩), (1, .pointer (some ⟨bt, 0, none⟩)), (37, .slice aa t.arms.length ca), (38, .int .i64 (Int.ofNat (t.arms.length))), (39, .int .i64 (Int.ofNat (q.1)))]) (fun q => H q.2) (fun q => q.1 ≤ t.arms.length ∧ A (posA t q.1) q.2) (fun q => t.arms.length - q.1) (0, x) ⟨Nat.zero_le _, by rw [posA_zero, show t.fields.length = i by omega]; exact hA2⟩ ⟨rfl, rfl, rfl, rfl, rfl, trivial⟩ (.refl _) (fun q hq0 => ?_)
 obtain ⟨i, x⟩ := q
 obtain ⟨hi3, hA3⟩ := hq0
 simp only at hi3 hA3
 refine .seq (.region (.P ?_))
 refine .nil (.seq (.seq (.cond rfl (fun ht40 => ?_) fun ht40 => ?_)))
 ·try simp only [nz] at ht40
  have hlt : i < t.arms.length := by omega
  obtain ⟨x_, hx⟩ := gx hlt
  obtain ⟨b, off, cs, el, g, md, mate, rfl, ⟨hd, hb, hh⟩, hle, hc⟩ := so ha hlt
  have hr := hc i x_ hx
  obtain ⟨vx, hra, hfa⟩ := hr
  obtain ⟨ax, cx, rfl, hnx, hfa⟩ := hfa
  refine .skip (.seq (.seq (.block (.seq (.region (.K underlying48 sz55 ?_))))))
  refine .A ag55 sz55 (.base hh hb (hDC _ hd)) hra ?_
  refine .alloc rfl rfl rfl rfl zr55 (fun b8 hb8 => ?_)
  refine .S sz55 ?_
  refine .nil (.seq (.seq (.region (.F fa55_1 ?_))))
  refine .L ag47 ?_
  refine .G (ln47 ..) ?_
  refine .P ?_
  refine .nil (.seq (.block ?_))
  refine .loop (α := Nat × α) (fun q => [(0, .func (.yield y) ⟨[]⟩ ⟨[]⟩), (1, .pointer (some ⟨bt, 0, none⟩)), (37, .slice (some ⟨b, off, none⟩) t.arms.length ca), (38, .int .i64 (Int.ofNat (t.arms.length))), (39, .int .i64 (Int.ofNat (i))), (44, .slice ax x_.fields.length cx), (45, .int .i64 (Int.ofNat (x_.fields.length))), (46, .int .i64 (Int.ofNat (q.1)))]) (fun q => H q.2) (fun q => q.1 ≤ x_.fields.length ∧ A (posA t i + q.1) q.2) (fun q => x_.fields.length - q.1) (0, x) ⟨Nat.zero_le _, hA3⟩ ⟨rfl, rfl, rfl, rfl, rfl, rfl, rfl, rfl, trivial⟩ (.cons _ (.refl _)) (fun q hq0 => ?_)
  obtain ⟨k, x⟩ := q
  obtain ⟨hi4, hA4⟩ := hq0
  simp only at hi4 hA4
  refine .seq (.region (.P ?_))
  refine .nil (.seq (.seq (.cond rfl (fun ht47 => ?_) fun ht47 => ?_)))
  ·try simp only [nz] at ht47
   have hlt2 : k < x_.fields.length := by omega
   obtain ⟨y_, hy⟩ := gx hlt2
   obtain ⟨b2, off2, cs2, el2, g2, md2, mate2, rfl, ⟨hd2, hb2, hh2⟩, hle2, hc2⟩ := so hfa hlt2
   have hry := hc2 k y_ hy
   refine .skip (.seq (.seq (.block (.seq (.region (.K underlying47 sz132 ?_))))))
   refine .A ag132 sz132 (.base hh2 hb2 (hDC _ hd2)) hry ?_
   refine .alloc rfl rfl rfl rfl zr132 (fun b10 hb10 => ?_)
   refine .S sz132 ?_
   refine .nil (.seq (.seq (.region (.P ?_))))
   refine .F fa132_1 ?_
   refine .L ag3 ?_
   refine .yieldI hst rfl rfl hK (pvs_get (parts_arm hx hy)) hA4 (.tail .all) rfl rfl rfl rfl rfl rfl (fun x1 hA1 => ?_) (fun x1 hB1 => ?_)
   ·refine .P ?_
    refine .nil (.seq (.cond_false rfl (.skip (.blk (.seq (.region (.P ?_)))))))
    refine .W 55 k ?_
    refine .P ?_
    refine .nil ?_
    exact .loop (k + 1, x1) ⟨hlt2, hA1⟩ (by show x_.fields.length - (k + 1) < x_.fields.length - k; omega) ⟨rfl, rfl, rfl, rfl, rfl, rfl, rfl, rfl, trivial⟩ (List.sublist_append_left _ _)
   refine .P ?_
   refine .nil (.seq (.cond_true rfl (.ret (.blk (.seq (.loop (.blk (.blk (.seq (.loop (.blk ?_)))))))))))
   exact .end_ rfl rfl (fun m hm => ⟨x1, hm.sub (List.sublist_append_left _ _), .inr hB1⟩)
  try simp only [nz] at ht47
  refine .exit (.seq (.loop (.here (.blk (.seq (.region (.P ?_)))))))
  refine .W 56 i ?_
  refine .P ?_
  refine .nil ?_
  exact .loop (i + 1, x) ⟨hlt, by rw [posA_succ hx, show x_.fields.length = k by omega]; exact hA4⟩ (by show t.arms.length - (i + 1) < t.arms.length - i; omega) ⟨rfl, rfl, rfl, rfl, rfl, trivial⟩ (.refl _)
 try simp only [nz] at ht40
 refine .exit (.seq (.loop (.here ?_)))
 exact .end_ rfl rfl (fun m hm => ⟨x, hm, .inl (by rw [pvs_len, ← posA_end, show t.arms.length = i by omega]; exact hA3)⟩)
theorem parts_iter {D : Nat → Prop} {t : Ty} {bt : Nat} {ve vf va : Value} {m : AW} (hbt : MemD D m bt (.cells [.int .i64 t.kind, ve, .string t.name, vf, va] 50 false .plain none)) (he : Sl (MemD D m) 1 RInt t.elems ve) (hf : Sl (MemD D m) 2 RFld t.fields vf) (ha : Sl (MemD D m) 2 (RArm (MemD D m)) t.arms va) : Iterates prog 130 [] [.pointer (some ⟨bt, 0, none⟩)] (pvs t) D m :=
 fun _ _ _ _ _ _ _ hK hDC h0 hk hst => parts1_ok hk.lole' hbt he hf ha hK hDC h0 hk hst
theorem parts_ok {t : Ty} {cs : List Value} {m : AW} (hm : m.lo ≤ m.next) (ht : RTy (Mem m) t cs) : Fc prog 95 [.agg ⟨cs⟩] m fun v m' => ∃ b : Nat, True ∧ v = .func (.func 130) ⟨[]⟩ ⟨[.pointer (some ⟨b, 0, none⟩)]⟩ ∧ Ext m m' ∧ News m m' [(b, .cells cs 50 false .plain none)] := by
 obtain ⟨ve, vf, va, rfl, he, hf, ha⟩ := ht
 obtain ⟨ae, ce, rfl, hne, he⟩ := he
 obtain ⟨af, cf, rfl, hnf, hf⟩ := hf
 obtain ⟨aa, ca, rfl, hna, ha⟩ := ha
 refine Fc.body (c := _) func95 rfl rfl rfl rfl hm ?_
 refine .seq (.region ?_)
 refine .box rfl rfl rfl rfl rfl (fun b1 hb1 => ?_)
 refine .P ?_
 refine .nil (.seq (.seq (.region ?_)))
 refine .p (v := .func (.func 130) ⟨[]⟩ ⟨[.pointer (some ⟨b1, 0, none⟩)]⟩) rfl rfl rfl rfl ?_
 refine .P ?_
 refine .nil (.seq (.ret ?_))
 exact .end_ rfl rfl (fun m hm => ⟨b1, trivial, rfl, hm.ext, hm.news (.refl _)⟩)
theorem single_ok {n : Nat} {al : Option Addr} {cl : Nat} {t : Ty} {cs : List Value} {m : AW} (hm : m.lo ≤ m.next) (ht : RTy (Mem m) t cs) (hw : FewT t) : Fc prog 51 [.slice al n cl, .agg ⟨cs⟩] m fun v m' => v = .int .i64 (singleE n t) ∧ Ext m m' := by
 have htS := ht
 obtain ⟨ve, vf, va, rfl, he, hf, ha⟩ := ht
 have heS := he
 have hfS := hf
 have haS := ha
 obtain ⟨ae, ce, rfl, hne, he⟩ := he
 obtain ⟨af, cf, rfl, hnf, hf⟩ := hf
 obtain ⟨aa, ca, rfl, hna, ha⟩ := ha
 refine Fc.body (c := _) func51 rfl rfl rfl rfl hm ?_
 refine .seq (.region ?_)
 refine .box rfl rfl rfl rfl rfl (fun b2 hb2 => ?_)
 refine .box rfl rfl rfl rfl rfl (fun b3 hb3 => ?_)
 refine .alloc rfl rfl rfl rfl zr25 (fun b4 hb4 => ?_)
 refine .nil (.seq (.seq (.block ?_)))
 refine .joinA (True) [(6, .bool (decide (t.kind < 0 ∨ 14 < t.kind)))] ?_ (fun _ => ?_)
 ·refine .region (.F fa50_0 ?_)
  refine .L ag3 ?_
  refine .P2 ?_
  refine .splitB 10 rfl (fun hs0 => ?_) (fun hs0 => ?_)
  ·try simp only [nz] at hs0
   iterate 3 refine .O ?_
   refine .P2 ?_
   refine .nil ?_
   refine .as 6 (.bool (decide (t.kind < 0 ∨ 14 < t.kind))) rfl (congrArg Value.bool (by apply bbx; simp only [nz, nb, reduceCtorEq]; (try simp only [nq]); omega)) ?_
   exact .J (trivial)
  try simp only [nz] at hs0
  refine .F fa50_0 ?_
  refine .L ag3 ?_
  refine .P3 ?_
  refine .nil ?_
  refine .as 6 (.bool (decide (t.kind < 0 ∨ 14 < t.kind))) rfl (congrArg Value.bool (by apply bbx; simp only [nz, nb, reduceCtorEq]; (try simp only [nq]); omega)) ?_
  exact .J (trivial)
 refine .cond rfl (fun hc0 => ?_) (fun hc0 => ?_)
 ·try simp only [nz] at hc0
  refine .seq (.region (.S sz25 ?_))
  refine .nil (.seq (.ret (.blk (.seq ?_))))
  refine .endH rfl (.cell rfl ag25 (by repeat first | exact .head | exact .app .head | exact .base ‹_› ‹_› (by simp) | refine .tail ?_ | refine .app ?_) rfl .nil) ?_
  exact fun m hm => ⟨congrArg (Value.int .i64) (by unfold singleE; grind), hm.ext⟩
 try simp only [nz] at hc0
 refine .seq (.region (.E ag50 sz50 ?_))
 refine .call _ rfl rfl rfl rfl rfl rfl (fun m hm => shaped_ok hm.lole (RTy.mono (Mem.kr hm) _ _ htS)) ?_
 refine .P2 ?_
 refine .nil (.seq (.cond rfl (fun hc1 => ?_) fun hc1 => ?_))
 ·try simp only [nz] at hc1
  refine .seq (.region (.S sz25 ?_))
  refine .nil (.seq (.ret (.blk (.seq ?_))))
  refine .endH rfl (.cell rfl ag25 (by repeat first | exact .head | exact .app .head | exact .base ‹_› ‹_› (by simp) | refine .tail ?_ | refine .app ?_) rfl .nil) ?_
  exact fun m hm => ⟨congrArg (Value.int .i64) (by unfold singleE; grind), hm.ext⟩
 try simp only [nz] at hc1
 refine .seq (.region (.E ag50 sz50 ?_))
 refine .call _ rfl rfl rfl rfl rfl rfl (fun m hm => crowded_ok hm.lole (RTy.mono (Mem.kr hm) _ _ htS) hw) ?_
 refine .P ?_
 refine .nil (.seq (.cond rfl (fun hc2 => ?_) fun hc2 => ?_))
 ·try simp only [nz] at hc2
  refine .seq (.region (.S sz25 ?_))
  refine .nil (.seq (.ret (.blk (.seq ?_))))
  refine .endH rfl (.cell rfl ag25 (by repeat first | exact .head | exact .app .head | exact .base ‹_› ‹_› (by simp) | refine .tail ?_ | refine .app ?_) rfl .nil) ?_
  exact fun m hm => ⟨congrArg (Value.int .i64) (by unfold singleE; grind), hm.ext⟩
 try simp only [nz] at hc2
 refine .skip (.blk (.seq (.seq (.seq (.region (.E ag50 sz50 ?_))))))
 refine .calln _ _ _ rfl rfl rfl rfl rfl rfl (fun m hm => parts_ok hm.lole (RTy.mono (Mem.kr hm) _ _ htS)) (fun bt _ => ?_)
 refine .nil (.seq (.block ?_))
 refine .rangeFunc (α := Int) (vs := pvs t) (K := [b4, b3, b2]) (fun i z => z = 0 ∧ ∀ (j : Nat) (p : Int), j < i → (partsL t)[j]? = some p → ¬ (p < 0 ∨ (n : Int) ≤ p)) (fun z => z = 11 ∧ badB n t = true) (fun z => [(b4, .cells [.int .i64 z] 25 false .plain none), (b3, .cells (cellsOfV (.agg ⟨[.int .i64 t.kind, .slice ae t.elems.length ce, .string t.name, .slice af t.fields.length cf, .slice aa t.arms.length ca]⟩)) 50 false .plain none), (b2, .cells [.slice al n cl] 22 false .plain none)]) 0 rfl rfl (fun _ => rfl) ⟨rfl, fun _ _ h => by cases h⟩ (.cons _ (.refl _)) (fun v hv => by obtain ⟨p, rfl⟩ := pvs_mem hv; exact ⟨rfl, rfl⟩) (fun b => b = bt ∨ b < m.next) (fun m1 hm1 => ⟨parts_iter (rf_new hm1) (heS.mono (rf_mem hm1) fun _ _ h => h) (hfS.mono (rf_mem hm1) fun _ _ h => h) (haS.mono (rf_mem hm1) (RArm.mono (rf_mem hm1))), rf_base hm1 (by simp)⟩) (fun i z v hv hA ll m1 ready busy hll hm1 => ?_) (fun z hA => ?_) (fun z hR => ?_)
 ·obtain ⟨p, hp, rfl⟩ := pvs_inv hv
  obtain ⟨rfl, hA⟩ := hA
  refine .region (.P ?_)
  refine .nil (.asg rfl (.block ?_))
  refine .joinA (True) [(32, .bool (decide (p < 0 ∨ (n : Int) ≤ p)))] ?_ (fun _ => ?_)
  ·refine .region (.P3 ?_)
   refine .splitB 27 rfl (fun hs1 => ?_) (fun hs1 => ?_)
   ·try simp only [nz] at hs1
    iterate 4 refine .O ?_
    refine .P ?_
    refine .nil ?_
    refine .as 32 (.bool (decide (p < 0 ∨ (n : Int) ≤ p))) rfl (congrArg Value.bool (by apply bbx; simp only [nz, nb, reduceCtorEq]; (try simp only [nq]); omega)) ?_
    exact .J (trivial)
   try simp only [nz] at hs1
   refine .P ?_
   refine .L ag22 ?_
   refine .G (ln22 ..) ?_
   refine .P2 ?_
   refine .nil ?_
   refine .as 32 (.bool (decide (p < 0 ∨ (n : Int) ≤ p))) rfl (congrArg Value.bool (by apply bbx; simp only [nz, nb, reduceCtorEq]; (try simp only [nq]); omega)) ?_
   exact .J (trivial)
  refine .cond rfl (fun hc3 => ?_) (fun hc3 => ?_)
  ·try simp only [nz] at hc3
   refine .seq (.region (.S sz25 ?_))
   refine .nil (.seq (.ret (.blk ?_)))
   exact .rnd 11 ⟨rfl, bad_yes hp (by omega)⟩ (.refl _)
  try simp only [nz] at hc3
  refine .skip (.blk ?_)
  exact .rnd 0 ⟨rfl, upto_succ hA hp (by omega)⟩ (.refl _)
 ·obtain ⟨rfl, hA⟩ := hA
  have hbad : badB n t = false := bad_no fun j p hj hp => hA j p (by rw [pvs_len]; exact hj) hp
  refine .blk (.seq (.seq (.block (.seq (.region (.E ag50 sz50 ?_))))))
  refine .call _ rfl rfl rfl rfl rfl rfl (fun m hm => named_ok hm.lole (RTy.mono (Mem.kr hm) _ _ htS)) ?_
  refine .P2 ?_
  refine .nil (.seq (.cond rfl (fun hc4 => ?_) fun hc4 => ?_))
  ·try simp only [nz] at hc4
   refine .seq (.region (.S sz25 ?_))
   refine .nil (.seq (.ret (.blk (.seq ?_))))
   refine .endH rfl (.cell rfl ag25 (by repeat first | exact .head | exact .app .head | exact .base ‹_› ‹_› (by simp) | refine .tail ?_ | refine .app ?_) rfl .nil) ?_
   exact fun m hm => ⟨congrArg (Value.int .i64) (by unfold singleE; grind), hm.ext⟩
  try simp only [nz] at hc4
  refine .seq (.region (.E ag50 sz50 ?_))
  refine .call _ rfl rfl rfl rfl rfl rfl (fun m hm => twice_ok hm.lole (RTy.mono (Mem.kr hm) _ _ htS)) ?_
  refine .P ?_
  refine .nil (.seq (.cond rfl (fun hc5 => ?_) fun hc5 => ?_))
  ·try simp only [nz] at hc5
   refine .seq (.region (.S sz25 ?_))
   refine .nil (.seq (.ret (.blk (.seq ?_))))
   refine .endH rfl (.cell rfl ag25 (by repeat first | exact .head | exact .app .head | exact .base ‹_› ‹_› (by simp) | refine .tail ?_ | refine .app ?_) rfl .nil) ?_
   exact fun m hm => ⟨congrArg (Value.int .i64) (by unfold singleE; grind), hm.ext⟩
  try simp only [nz] at hc5
  refine .skip (.blk (.seq (.seq (.region (.S sz25 ?_)))))
  refine .nil (.seq (.ret ?_))
  refine .endH rfl (.cell rfl ag25 (by repeat first | exact .head | exact .app .head | exact .base ‹_› ‹_› (by simp) | refine .tail ?_ | refine .app ?_) rfl .nil) ?_
  exact fun m hm => ⟨congrArg (Value.int .i64) (by unfold singleE; grind), hm.ext⟩
 obtain ⟨rfl, hbad⟩ := hR
 refine .blk (.seq ?_)
 refine .endH rfl (.cell rfl ag25 (by repeat first | exact .head | exact .app .head | exact .base ‹_› ‹_› (by simp) | refine .tail ?_ | refine .app ?_) rfl .nil) ?_
 exact fun m hm => ⟨congrArg (Value.int .i64) (by unfold singleE; grind), hm.ext⟩
theorem rparts_ok {t : Ty} {cs : List Value} {m : AW} (hm : m.lo ≤ m.next) (ht : RTy (Mem m) t cs) (hw : FewT t) : Fc prog 102 [.agg ⟨cs⟩] m fun v m' => ∃ x : Hp × Value, Sl (InH x.1) 1 RInt (partsL t) x.2 ∧ v = x.2 ∧ Ext m m' ∧ News m m' x.1 := by
 obtain ⟨ve, vf, va, rfl, he, hf, ha⟩ := ht
 have heS := he
 have hfS := hf
 have haS := ha
 obtain ⟨ae, ce, rfl, hne, he⟩ := he
 obtain ⟨af, cf, rfl, hnf, hf⟩ := hf
 obtain ⟨aa, ca, rfl, hna, ha⟩ := ha
 refine Fc.body (c := _) func102 rfl rfl rfl rfl hm ?_
 refine .seq (.region ?_)
 refine .box rfl rfl rfl rfl rfl (fun b1 hb1 => ?_)
 refine .P ?_
 refine .nil (.seq (.seq (.region (.P ?_))))
 refine .nil (.seq (.seq (.seq (.region (.P ?_)))))
 refine .nil (.seq (.block ?_))
 refine .loop (α := Nat × Gro × List Value × List Int) (fun q => [(1, .pointer (some ⟨b1, 0, none⟩)), (3, q.2.1.V q.2.2.2.length), (4, .int .i64 (Int.ofNat (q.1)))]) (fun q => q.2.1.H 3 q.2.2.1 ++ [(b1, .cells (cellsOfV (.agg ⟨[.int .i64 t.kind, .slice ae t.elems.length ce, .string t.name, .slice af t.fields.length cf, .slice aa t.arms.length ca]⟩)) 50 false .plain none)]) (fun q => q.1 ≤ t.elems.length ∧ q.2.2.2 = pl0 t q.1 ∧ Flat 1 RInt q.2.2.2 q.2.2.1 ∧ q.2.1.Ok q.2.2.2.length) (fun q => t.elems.length - q.1) (0, .no, [], []) ⟨Nat.zero_le _, rfl, Flat.nil, rfl⟩ ⟨rfl, rfl, rfl, trivial⟩ (.refl _) (fun q hq0 => ?_)
 obtain ⟨i, g_, cs_, L⟩ := q
 obtain ⟨hi, hL, hF, hO⟩ := hq0
 simp only at hi hL hF hO
 refine .seq (.seq (.region (.P ?_)))
 refine .F fa50_1 ?_
 refine .L ag32 ?_
 refine .G (ln32 ..) ?_
 refine .P ?_
 refine .nil (.seq (.cond rfl (fun ht12 => ?_) fun ht12 => ?_))
 ·try simp only [nz] at ht12
  have hlt : i < t.elems.length := by omega
  obtain ⟨x, hx⟩ := gx hlt
  obtain ⟨b, off, cs, el, g, md, mate, rfl, ⟨hb, hh⟩, hle, hc⟩ := so he hlt
  have hr := hc i x hx
  refine .skip (.seq (.seq (.block (.region (.P ?_)))))
  refine .F fa50_1 ?_
  refine .L ag32 ?_
  refine .P ?_
  refine .K underlying32 sz3 ?_
  refine .M ag3 (.base hh hb (by simp)) (cell_of_take hr (k := 0) rfl) ?_
  refine .buildSlice rfl rfl rfl rfl rfl (bs32_1 ..) (fun b21 hb21 => ?_)
  refine .appendSl (R := RInt) (l0 := L) (l := [x]) (L := (L ++ [x])) (g := g_) (cs := cs_) rfl (.tail .here) hF hO (Sl.single (R := RInt) (b := b21) (c := 1) (el := 3) (g := false) (md := .plain) (mate := none) rfl rfl) ((InH.sees (by intro p hp; rw [List.mem_singleton.1 hp]; exact List.mem_cons_self))) RInt.flats (by have := pl0_few hw i; rw [hL]; simp; omega) rfl rfl rfl rfl underlying32 underlying32 ap3 rfl rfl (fun g1 cs1 hF1 hO1 => ?_)
  refine .P ?_
  refine .nil (.blk (.seq (.region (.P2 ?_))))
  refine .W 14 i ?_
  refine .P ?_
  refine .nil ?_
  exact .loop (i + 1, g1, cs1, L ++ [x]) ⟨hlt, by show L ++ [x] = _; rw [hL, pl0_succ hx], hF1, hO1⟩ (by show t.elems.length - (i + 1) < t.elems.length - i; omega) ⟨rfl, rfl, rfl, trivial⟩ (List.Sublist.append_left (.cons _ (.refl _)) _)
 try simp only [nz] at ht12
 refine .exit (.seq (.loop (.here (.seq (.seq (.seq (.region (.P ?_))))))))
 refine .nil (.seq (.block ?_))
 refine .loop (α := Nat × Gro × List Value × List Int) (fun q => [(1, .pointer (some ⟨b1, 0, none⟩)), (3, q.2.1.V q.2.2.2.length), (5, .int .i64 (Int.ofNat (q.1)))]) (fun q => q.2.1.H 3 q.2.2.1 ++ [(b1, .cells (cellsOfV (.agg ⟨[.int .i64 t.kind, .slice ae t.elems.length ce, .string t.name, .slice af t.fields.length cf, .slice aa t.arms.length ca]⟩)) 50 false .plain none)]) (fun q => q.1 ≤ t.fields.length ∧ q.2.2.2 = pl1 t q.1 ∧ Flat 1 RInt q.2.2.2 q.2.2.1 ∧ q.2.1.Ok q.2.2.2.length) (fun q => t.fields.length - q.1) (0, g_, cs_, L) ⟨Nat.zero_le _, hL.trans (pl0_end (by omega)), hF, hO⟩ ⟨rfl, rfl, rfl, trivial⟩ (.refl _) (fun q hq0 => ?_)
 obtain ⟨i, g_, cs_, L⟩ := q
 obtain ⟨hi, hL, hF, hO⟩ := hq0
 simp only at hi hL hF hO
 refine .seq (.seq (.region (.P ?_)))
 refine .F fa50_3 ?_
 refine .L ag47 ?_
 refine .G (ln47 ..) ?_
 refine .P ?_
 refine .nil (.seq (.cond rfl (fun ht27 => ?_) fun ht27 => ?_))
 ·try simp only [nz] at ht27
  have hlt : i < t.fields.length := by omega
  obtain ⟨x, hx⟩ := gx hlt
  obtain ⟨b, off, cs, el, g, md, mate, rfl, ⟨hb, hh⟩, hle, hc⟩ := so hf hlt
  have hr := hc i x hx
  refine .skip (.seq (.seq (.block (.region (.P ?_)))))
  refine .F fa50_3 ?_
  refine .L ag47 ?_
  refine .P ?_
  refine .K underlying47 sz132 ?_
  refine .F fa132_1 ?_
  refine .M ag3 (.base hh hb (by simp)) (cell_of_take hr (k := 1) rfl) ?_
  refine .buildSlice rfl rfl rfl rfl rfl (bs32_1 ..) (fun b37 hb37 => ?_)
  refine .appendSl (R := RInt) (l0 := L) (l := [x.type]) (L := (L ++ [x.type])) (g := g_) (cs := cs_) rfl (.tail .here) hF hO (Sl.single (R := RInt) (b := b37) (c := 1) (el := 3) (g := false) (md := .plain) (mate := none) rfl rfl) ((InH.sees (by intro p hp; rw [List.mem_singleton.1 hp]; exact List.mem_cons_self))) RInt.flats (by have := pl1_few hw i; rw [hL]; simp; omega) rfl rfl rfl rfl underlying32 underlying32 ap3 rfl rfl (fun g1 cs1 hF1 hO1 => ?_)
  refine .P ?_
  refine .nil (.blk (.seq (.region (.P2 ?_))))
  refine .W 29 i ?_
  refine .P ?_
  refine .nil ?_
  exact .loop (i + 1, g1, cs1, L ++ [x.type]) ⟨hlt, by show L ++ [x.type] = _; rw [hL, pl1_succ hx], hF1, hO1⟩ (by show t.fields.length - (i + 1) < t.fields.length - i; omega) ⟨rfl, rfl, rfl, trivial⟩ (List.Sublist.append_left (.cons _ (.refl _)) _)
 try simp only [nz] at ht27
 refine .exit (.seq (.loop (.here (.seq (.seq (.seq (.region (.P ?_))))))))
 refine .nil (.seq (.block ?_))
 refine .loop (α := Nat × Gro × List Value × List Int) (fun q => [(1, .pointer (some ⟨b1, 0, none⟩)), (3, q.2.1.V q.2.2.2.length), (6, .int .i64 (Int.ofNat (q.1)))]) (fun q => q.2.1.H 3 q.2.2.1 ++ [(b1, .cells (cellsOfV (.agg ⟨[.int .i64 t.kind, .slice ae t.elems.length ce, .string t.name, .slice af t.fields.length cf, .slice aa t.arms.length ca]⟩)) 50 false .plain none)]) (fun q => q.1 ≤ t.arms.length ∧ q.2.2.2 = pl2 t q.1 ∧ Flat 1 RInt q.2.2.2 q.2.2.1 ∧ q.2.1.Ok q.2.2.2.length) (fun q => t.arms.length - q.1) (0, g_, cs_, L) ⟨Nat.zero_le _, hL.trans (pl1_end (by omega)), hF, hO⟩ ⟨rfl, rfl, rfl, trivial⟩ (.refl _) (fun q hq0 => ?_)
 obtain ⟨i, g_, cs_, L⟩ := q
 obtain ⟨hi, hL, hF, hO⟩ := hq0
 simp only at hi hL hF hO
 refine .seq (.seq (.region (.P ?_)))
 refine .F fa50_4 ?_
 refine .L ag48 ?_
 refine .G (ln48 ..) ?_
 refine .P ?_
 refine .nil (.seq (.cond rfl (fun ht43 => ?_) fun ht43 => ?_))
 ·try simp only [nz] at ht43
  have hlt : i < t.arms.length := by omega
  obtain ⟨x, hx⟩ := gx hlt
  obtain ⟨b, off, cs, el, g, md, mate, rfl, ⟨hb, hh⟩, hle, hc⟩ := so ha hlt
  have hr := hc i x hx
  obtain ⟨vx, hra, hfa⟩ := hr
  obtain ⟨ax, cx, rfl, hnx, hfa⟩ := hfa
  have hi0 := hi
  refine .skip (.seq (.seq (.block (.seq (.region (.P ?_))))))
  refine .nil (.seq (.block ?_))
  refine .loop (α := Nat × Gro × List Value × List Int) (fun q => [(1, .pointer (some ⟨b1, 0, none⟩)), (3, q.2.1.V q.2.2.2.length), (6, .int .i64 (Int.ofNat (i))), (7, .int .i64 (Int.ofNat (q.1)))]) (fun q => q.2.1.H 3 q.2.2.1 ++ [(b1, .cells (cellsOfV (.agg ⟨[.int .i64 t.kind, .slice ae t.elems.length ce, .string t.name, .slice af t.fields.length cf, .slice (some ⟨b, off, none⟩) t.arms.length ca]⟩)) 50 false .plain none)]) (fun q => q.1 ≤ x.fields.length ∧ q.2.2.2 = pl3 t i x q.1 ∧ Flat 1 RInt q.2.2.2 q.2.2.1 ∧ q.2.1.Ok q.2.2.2.length) (fun q => x.fields.length - q.1) (0, g_, cs_, L) ⟨Nat.zero_le _, hL.trans (pl3_zero t i x), hF, hO⟩ ⟨rfl, rfl, rfl, rfl, trivial⟩ (.refl _) (fun q hq0 => ?_)
  obtain ⟨k, g_, cs_, L⟩ := q
  obtain ⟨hi, hL, hF, hO⟩ := hq0
  simp only at hi hL hF hO
  refine .seq (.seq (.region (.P ?_)))
  refine .F fa50_4 ?_
  refine .L ag48 ?_
  refine .P ?_
  refine .K underlying48 sz55 ?_
  refine .F fa55_1 ?_
  refine .M ag47 (.base hh hb (by simp)) (cell_of_take hra (k := 1) rfl) ?_
  refine .G (ln47 ..) ?_
  refine .P ?_
  refine .nil (.seq (.cond rfl (fun ht54 => ?_) fun ht54 => ?_))
  ·try simp only [nz] at ht54
   have hlt2 : k < x.fields.length := by omega
   obtain ⟨y, hy⟩ := gx hlt2
   obtain ⟨b2, off2, cs2, el2, g2, md2, mate2, rfl, ⟨hb2, hh2⟩, hle2, hc2⟩ := so hfa hlt2
   have hry := hc2 k y hy
   refine .skip (.seq (.seq (.block (.region (.P ?_)))))
   refine .F fa50_4 ?_
   refine .L ag48 ?_
   refine .P ?_
   refine .K underlying48 sz55 ?_
   refine .F fa55_1 ?_
   refine .M ag47 (.base hh hb (by simp)) (cell_of_take hra (k := 1) rfl) ?_
   refine .P ?_
   refine .K underlying47 sz132 ?_
   refine .F fa132_1 ?_
   refine .M ag3 (.base hh2 hb2 (by simp)) (cell_of_take hry (k := 1) rfl) ?_
   refine .buildSlice rfl rfl rfl rfl rfl (bs32_1 ..) (fun b68 hb68 => ?_)
   refine .appendSl (R := RInt) (l0 := L) (l := [y.type]) (L := (L ++ [y.type])) (g := g_) (cs := cs_) rfl (.tail .here) hF hO (Sl.single (R := RInt) (b := b68) (c := 1) (el := 3) (g := false) (md := .plain) (mate := none) rfl rfl) ((InH.sees (by intro p hp; rw [List.mem_singleton.1 hp]; exact List.mem_cons_self))) RInt.flats (by have := pl3_few (k := k) hw hi0 (hw.afields i x hx); rw [hL]; simp; omega) rfl rfl rfl rfl underlying32 underlying32 ap3 rfl rfl (fun g1 cs1 hF1 hO1 => ?_)
   refine .P ?_
   refine .nil (.blk (.seq (.region (.P2 ?_))))
   refine .W 56 k ?_
   refine .P ?_
   refine .nil ?_
   exact .loop (k + 1, g1, cs1, L ++ [y.type]) ⟨hlt2, by show L ++ [y.type] = _; rw [hL, pl3_succ hy], hF1, hO1⟩ (by show x.fields.length - (k + 1) < x.fields.length - k; omega) ⟨rfl, rfl, rfl, rfl, trivial⟩ (List.Sublist.append_left (.cons _ (.refl _)) _)
  try simp only [nz] at ht54
  refine .exit (.seq (.loop (.here (.blk (.seq (.region (.P2 ?_)))))))
  refine .W 45 i ?_
  refine .P ?_
  refine .nil ?_
  exact .loop (i + 1, g_, cs_, L) ⟨hlt, by show L = _; rw [hL, pl3_end hx (by omega)], hF, hO⟩ (by show t.arms.length - (i + 1) < t.arms.length - i; omega) ⟨rfl, rfl, rfl, trivial⟩ (.refl _)
 try simp only [nz] at ht43
 refine .exit (.seq (.loop (.here (.seq (.seq (.region (.P2 ?_)))))))
 refine .nil (.seq (.ret ?_))
 exact .end_ rfl rfl (fun m hm => ⟨(g_.H 3 cs_, g_.V L.length), by have e_ := hL.trans (pl2_end (by omega)); rw [← e_]; exact Gro.sl hF hO (by rw [e_]; have := parts_few hw; omega), rfl, hm.ext, hm.news (List.sublist_append_left _ _)⟩)
theorem rown_ok {n : Nat} {al : Option Addr} {cl : Nat} {t : Ty} {cs : List Value} {m : AW} (hm : m.lo ≤ m.next) (ht : RTy (Mem m) t cs) (hw : FewT t) : Fc prog 56 [.slice al n cl, .agg ⟨cs⟩] m fun v m' => v = .int .i64 (singleE n t) ∧ Ext m m' := by
 have htS := ht
 obtain ⟨ve, vf, va, rfl, he, hf, ha⟩ := ht
 have heS := he
 have hfS := hf
 have haS := ha
 obtain ⟨ae, ce, rfl, hne, he⟩ := he
 obtain ⟨af, cf, rfl, hnf, hf⟩ := hf
 obtain ⟨aa, ca, rfl, hna, ha⟩ := ha
 refine Fc.body (c := _) func56 rfl rfl rfl rfl hm ?_
 refine .seq (.region ?_)
 refine .box rfl rfl rfl rfl rfl (fun b3 hb3 => ?_)
 refine .P ?_
 refine .nil (.seq (.seq (.block ?_)))
 refine .joinA (True) [(7, .bool (decide (t.kind < 0 ∨ 14 < t.kind)))] ?_ (fun _ => ?_)
 ·refine .region (.F fa50_0 ?_)
  refine .L ag3 ?_
  refine .P2 ?_
  refine .splitB 11 rfl (fun hs0 => ?_) (fun hs0 => ?_)
  ·try simp only [nz] at hs0
   iterate 3 refine .O ?_
   refine .P2 ?_
   refine .nil ?_
   refine .as 7 (.bool (decide (t.kind < 0 ∨ 14 < t.kind))) rfl (congrArg Value.bool (by apply bbx; simp only [nz, nb, reduceCtorEq]; (try simp only [nq]); omega)) ?_
   exact .J (trivial)
  try simp only [nz] at hs0
  refine .F fa50_0 ?_
  refine .L ag3 ?_
  refine .P3 ?_
  refine .nil ?_
  refine .as 7 (.bool (decide (t.kind < 0 ∨ 14 < t.kind))) rfl (congrArg Value.bool (by apply bbx; simp only [nz, nb, reduceCtorEq]; (try simp only [nq]); omega)) ?_
  exact .J (trivial)
 refine .cond rfl (fun hc0 => ?_) (fun hc0 => ?_)
 ·try simp only [nz] at hc0
  refine .seq (.region (.P ?_))
  refine .nil (.seq (.ret (.blk (.seq ?_))))
  exact .end_ rfl rfl (fun m hm => ⟨congrArg (Value.int .i64) (by unfold singleE; grind), hm.ext⟩)
 try simp only [nz] at hc0
 refine .seq (.region (.E ag50 sz50 ?_))
 refine .call _ rfl rfl rfl rfl rfl rfl (fun m hm => rshaped_ok hm.lole (RTy.mono (Mem.kr hm) _ _ htS)) ?_
 refine .P2 ?_
 refine .nil (.seq (.cond rfl (fun hc1 => ?_) fun hc1 => ?_))
 ·try simp only [nz] at hc1
  refine .seq (.region (.P ?_))
  refine .nil (.seq (.ret (.blk (.seq ?_))))
  exact .end_ rfl rfl (fun m hm => ⟨congrArg (Value.int .i64) (by unfold singleE; grind), hm.ext⟩)
 try simp only [nz] at hc1
 refine .seq (.region (.E ag50 sz50 ?_))
 refine .call _ rfl rfl rfl rfl rfl rfl (fun m hm => rlong_ok hm.lole (RTy.mono (Mem.kr hm) _ _ htS) hw) ?_
 refine .P ?_
 refine .nil (.seq (.cond rfl (fun hc2 => ?_) fun hc2 => ?_))
 ·try simp only [nz] at hc2
  refine .seq (.region (.P ?_))
  refine .nil (.seq (.ret (.blk (.seq ?_))))
  exact .end_ rfl rfl (fun m hm => ⟨congrArg (Value.int .i64) (by unfold singleE; grind), hm.ext⟩)
 try simp only [nz] at hc2
 refine .skip (.blk (.seq (.seq (.region (.E ag50 sz50 ?_)))))
 refine .calln _ _ _ rfl rfl rfl rfl rfl rfl (fun m hm => rparts_ok hm.lole (RTy.mono (Mem.kr hm) _ _ htS) hw) (fun z hz => ?_)
 obtain ⟨zh, zv⟩ := z
 simp only at hz
 obtain ⟨ap, cp, rfl, hnp, hpz⟩ := hz
 refine .P ?_
 refine .nil (.seq (.seq (.seq (.region (.P ?_)))))
 refine .nil (.seq (.block ?_))
 refine .loop (α := Nat) (fun i => [(0, .slice al n cl), (3, .pointer (some ⟨b3, 0, none⟩)), (5, .slice ap (partsL t).length cp), (6, .int .i64 (Int.ofNat (i)))]) (fun i => zh ++ [(b3, .cells (cellsOfV (.agg ⟨[.int .i64 t.kind, .slice ae t.elems.length ce, .string t.name, .slice af t.fields.length cf, .slice aa t.arms.length ca]⟩)) 50 false .plain none)]) (fun i => i ≤ (partsL t).length ∧ ∀ (j : Nat) (p : Int), j < i → (partsL t)[j]? = some p → ¬ (p < 0 ∨ (n : Int) ≤ p)) (fun i => (partsL t).length - i) 0 ⟨Nat.zero_le _, fun _ _ h => (by cases h)⟩ ⟨rfl, rfl, rfl, rfl, trivial⟩ (.refl _) (fun i hi => ?_)
 refine .seq (.seq (.region (.P2 ?_)))
 refine .G (ln32 ..) ?_
 refine .P ?_
 refine .nil (.seq (.cond rfl (fun ht28 => ?_) fun ht28 => ?_))
 ·try simp only [nz] at ht28
  have hlt : i < (partsL t).length := by omega
  obtain ⟨p, hp⟩ : ∃ w_, (partsL t)[i]? = some w_ := ⟨_, List.getElem?_eq_getElem hlt⟩
  obtain ⟨b, off, cs, el, g, md, mate, rfl, hb, hle, hc⟩ := so hpz hlt
  have hr := hc i p hp
  refine .skip (.seq (.seq (.block ?_)))
  refine .joinA (True) [(44, .bool (decide (p < 0 ∨ (n : Int) ≤ p)))] ?_ (fun _ => ?_)
  ·refine .region (.P2 ?_)
   refine .K underlying32 sz3 ?_
   refine .M ag3 (InH.sees (l := zh) (fun p_ hp_ => List.mem_append_left _ hp_) _ _ hb) (cell_of_take hr (k := 0) rfl) ?_
   refine .P2 ?_
   refine .splitB 36 rfl (fun hs1 => ?_) (fun hs1 => ?_)
   ·try simp only [nz] at hs1
    iterate 7 refine .O ?_
    refine .P ?_
    refine .nil ?_
    refine .as 44 (.bool (decide (p < 0 ∨ (n : Int) ≤ p))) rfl (congrArg Value.bool (by apply bbx; simp only [nz, nb, reduceCtorEq]; (try simp only [nq]); omega)) ?_
    exact .J (trivial)
   try simp only [nz] at hs1
   refine .P2 ?_
   refine .K underlying32 sz3 ?_
   refine .M ag3 (InH.sees (l := zh) (fun p_ hp_ => List.mem_append_left _ hp_) _ _ hb) (cell_of_take hr (k := 0) rfl) ?_
   refine .P ?_
   refine .G (ln22 ..) ?_
   refine .P2 ?_
   refine .nil ?_
   refine .as 44 (.bool (decide (p < 0 ∨ (n : Int) ≤ p))) rfl (congrArg Value.bool (by apply bbx; simp only [nz, nb, reduceCtorEq]; (try simp only [nq]); omega)) ?_
   exact .J (trivial)
  refine .cond rfl (fun ht44 => ?_) (fun ht44 => ?_)
  ·try simp only [nz] at ht44
   have hbad : badB n t = true := bad_yes hp ht44
   refine .seq (.region (.P ?_))
   refine .nil (.seq (.ret (.blk (.seq (.loop (.blk (.seq ?_)))))))
   exact .end_ rfl rfl (fun m hm => ⟨congrArg (Value.int .i64) (by unfold singleE; grind), hm.ext⟩)
  try simp only [nz] at ht44
  refine .skip (.blk (.seq (.region (.P2 ?_))))
  refine .W 30 i ?_
  refine .P ?_
  refine .nil ?_
  exact .loop (i + 1) ⟨hlt, upto_succ hi.2 hp (by omega)⟩ (by omega) ⟨rfl, rfl, rfl, rfl, trivial⟩ (.refl _)
 try simp only [nz] at ht28
 have hbad : badB n t = false := bad_no fun j p hj hp => hi.2 j p (by omega) hp
 refine .exit (.seq (.loop (.here (.seq (.seq (.block (.seq (.region (.E ag50 sz50 ?_)))))))))
 refine .call _ rfl rfl rfl rfl rfl rfl (fun m hm => rnamed_ok hm.lole (RTy.mono (Mem.kr hm) _ _ htS)) ?_
 refine .P2 ?_
 refine .nil (.seq (.cond rfl (fun hc5 => ?_) fun hc5 => ?_))
 ·try simp only [nz] at hc5
  refine .seq (.region (.P ?_))
  refine .nil (.seq (.ret (.blk (.seq ?_))))
  exact .end_ rfl rfl (fun m hm => ⟨congrArg (Value.int .i64) (by unfold singleE; grind), hm.ext⟩)
 try simp only [nz] at hc5
 refine .seq (.region (.E ag50 sz50 ?_))
 refine .call _ rfl rfl rfl rfl rfl rfl (fun m hm => ragain_ok hm.lole (RTy.mono (Mem.kr hm) _ _ htS) hw (by assumption)) ?_
 refine .P ?_
 refine .nil (.seq (.cond rfl (fun hc6 => ?_) fun hc6 => ?_))
 ·try simp only [nz] at hc6
  refine .seq (.region (.P ?_))
  refine .nil (.seq (.ret (.blk (.seq ?_))))
  exact .end_ rfl rfl (fun m hm => ⟨congrArg (Value.int .i64) (by unfold singleE; grind), hm.ext⟩)
 try simp only [nz] at hc6
 refine .skip (.blk (.seq (.seq (.region (.P ?_)))))
 refine .nil (.seq (.ret ?_))
 exact .end_ rfl rfl (fun m hm => ⟨congrArg (Value.int .i64) (by unfold singleE; grind), hm.ext⟩)
theorem fit_ok {l : List Ty} {vl : Value} {t : Ty} {cs : List Value} {m : AW} (hm : m.lo ≤ m.next) (hlS : Sl (Mem m) 5 (RTy (Mem m)) l vl) (hwl : ∀ (i : Nat) (a : Ty), l[i]? = some a → FewT a) (ht : RTy (Mem m) t cs) (hw : FewT t) (hsh : shapedB t = true) (hbd : badB l.length t = false) : Fc prog 52 [vl, .agg ⟨cs⟩] m fun v m' => v = .int .i64 (fitE l t) ∧ Ext m m' := by
 have hl := hlS
 obtain ⟨al, cl, rfl, hnl, hl⟩ := hl
 unfold shapedB at hsh
 have hsP := of_decide_eq_true hsh
 simp only [shapeP] at hsP
 have htS := ht
 obtain ⟨ve, vf, va, rfl, he, hf, ha⟩ := ht
 have heS := he
 have hfS := hf
 have haS := ha
 obtain ⟨ae, ce, rfl, hne, he⟩ := he
 obtain ⟨af, cf, rfl, hnf, hf⟩ := hf
 obtain ⟨aa, ca, rfl, hna, ha⟩ := ha
 have k1 := hw.elems
 have k2 := hw.fields
 have k3 := hw.arms
 refine Fc.body (c := _) func52 rfl rfl rfl rfl hm ?_
 refine .seq (.region ?_)
 refine .box rfl rfl rfl rfl rfl (fun b2 hb2 => ?_)
 refine .box rfl rfl rfl rfl rfl (fun b3 hb3 => ?_)
 refine .P ?_
 refine .nil (.seq (.seq (.region ?_)))
 refine .alloc rfl rfl rfl rfl zr4 (fun b5 hb5 => ?_)
 refine .S sz4 ?_
 refine .nil (.seq (.seq (.seq (.region (.F fa50_0 ?_)))))
 refine .L ag3 ?_
 refine .nil (.seq (.block (.seq (.region (.P2 ?_)))))
 refine .nil (.seq (.cond rfl (fun ht25 => ?_) fun ht25 => ?_))
 ·(try simp only [nz] at ht25); try simp only [nq] at ht25
  have hltE : 0 < t.elems.length := by clear he hf ha hl; omega
  obtain ⟨p, hp⟩ := gx hltE
  obtain ⟨bE, offE, csE, elE, gE, mdE, mateE, rfl, ⟨hbE, hhE⟩, hleE, hcE⟩ := so he hltE
  have hrp := hcE 0 p hp
  obtain ⟨q, rfl, hq⟩ := parts_in hbd (parts_elem hp)
  obtain ⟨a, ha_⟩ := gx hq
  rcases hl with ⟨e0, -⟩ | ⟨bL, offL, csL, elL, gL, mdL, mateL, rfl, ⟨hbL, hhL⟩, hleL, hcL⟩
  ·rw [e0] at hq; simp at hq
  have hra_ := hcL q a ha_
  have hraS := hra_
  obtain ⟨vea, vfa, vaa, hra_, hea, hfa_, haa⟩ := hra_
  have hfit := fit_ref ht25 hp ha_
  refine .seq (.seq ?_)
  refine .D [(3, 0), (15, 0), (3, 2), (15, 6), (3, 14), (15, 31), (15, 63), (3, 127), (15, 255)] (by kernel_rfl) (by kernel_rfl) (fun base hbase hB => ?_)
  refine .J ag22 ?_
  refine .F fa50_1 ?_
  refine .J ag32 ?_
  refine .K underlying32 sz3 ?_
  refine .M ag3 (.base hhE hbE (by simp)) (cell_of_take hrp (k := 0) rfl) ?_
  refine .K underlying22 sz50 ?_
  refine .F fa50_0 ?_
  refine .M ag3 (.base hhL hbL (by simp)) (cell_of_take hra_ (k := 0) rfl) ?_
  refine .P ?_
  refine .nil (.seq (.cond rfl (fun ht35 => ?_) fun ht35 => ?_))
  ·(try simp only [nz] at ht35); try simp only [nq] at ht35
   refine .seq (.region (.P ?_))
   refine .nil (.seq (.ret (.seq (.blk (.seq ?_)))))
   exact .end_ rfl rfl (fun m hm => ⟨congrArg (Value.int .i64) (by rw [hfit]; grind), hm.ext⟩)
  (try simp only [nz] at ht35); try simp only [nq] at ht35
  refine .skip (.seq (.seq ?_))
  refine .D [(3, 0), (15, 0), (3, 2), (15, 6), (3, 14), (15, 31), (3, 63), (15, 0), (3, 128), (7, 511), (15, 1023), (15, 2047), (15, 2047), (15, 4095), (15, 16383)] (by kernel_rfl) (by kernel_rfl) (fun base hbase hB => ?_)
  refine .J ag22 ?_
  refine .F fa50_1 ?_
  refine .J ag32 ?_
  refine .K underlying32 sz3 ?_
  refine .M ag3 (.base hhE hbE (by simp)) (cell_of_take hrp (k := 0) rfl) ?_
  refine .K underlying22 sz50 ?_
  refine .loadAgg rfl rfl rfl rfl rfl rfl rfl rfl ag50 sz50 (.base hhL hbL (by simp)) (by omega) hra_ ?_
  refine .F fa50_2 ?_
  refine .J ag9 ?_
  refine .calln _ _ _ rfl rfl rfl rfl rfl rfl rfl rfl rfl (fun m hm => arm_ok hm.lole (t := a) (Mem.kr hm) ⟨vea, vfa, vaa, rfl, hea, hfa_, haa⟩ (hwl q a ha_)) (fun z hz => ?_)
  refine .as 46 (.tuple ⟨[z.2, .bool (withL a t.name).isSome]⟩) rfl rfl ?_
  iterate 5 refine .P ?_
  refine .nil (.seq (.seq (.region (.P2 ?_))))
  refine .nil (.seq (.cond rfl (fun ht50 => ?_) fun ht50 => ?_))
  ·(try simp only [nz] at ht50); try simp only [nq] at ht50
   refine .seq (.region (.P ?_))
   refine .nil (.seq (.ret (.blk (.seq ?_))))
   exact .end_ rfl rfl (fun m hm => ⟨congrArg (Value.int .i64) (by rw [hfit]; grind), hm.ext⟩)
  (try simp only [nz] at ht50); try simp only [nq] at ht50
  refine .skip (.blk (.seq (.seq (.seq (.region (.L ag4 ?_))))))
  refine .P ?_
  refine .nil (.seq (.cond rfl (fun ht106 => ?_) fun ht106 => ?_))
  ·refine .seq (.region (.P ?_))
   refine .nil (.seq (.ret (.seq ?_)))
   exact .end_ rfl rfl (fun m hm => ⟨congrArg (Value.int .i64) (by rw [hfit]; grind), hm.ext⟩)
  refine .skip (.seq (.seq (.region (.P ?_))))
  refine .nil (.seq (.ret ?_))
  exact .end_ rfl rfl (fun m hm => ⟨congrArg (Value.int .i64) (by rw [hfit]; grind), hm.ext⟩)
 (try simp only [nz] at ht25); try simp only [nq] at ht25
 refine .seq (.region (.P2 ?_))
 refine .nil (.seq (.cond rfl (fun ht51 => ?_) fun ht51 => ?_))
 ·(try simp only [nz] at ht51); try simp only [nq] at ht51
  refine .seq (.region (.F fa50_3 ?_))
  refine .L ag47 ?_
  refine .G (ln47 ..) ?_
  refine .P ?_
  refine .nil (.seq (.block ?_))
  refine .loop (α := Nat) (fun i => [(2, .pointer (some ⟨b2, 0, none⟩)), (5, .pointer (some ⟨b5, 0, none⟩)), (54, .slice af t.fields.length cf), (55, .int .i64 (Int.ofNat (t.fields.length))), (56, .int .i64 (Int.ofNat (i)))]) (fun i => [(b5, .cells [.bool (allN (modF l t) i)] 4 false .plain none), (b3, .cells (cellsOfV (.agg ⟨[.int .i64 t.kind, .slice ae t.elems.length ce, .string t.name, .slice af t.fields.length cf, .slice aa t.arms.length ca]⟩)) 50 false .plain none), (b2, .cells [.slice al l.length cl] 22 false .plain none)]) (fun i => i ≤ t.fields.length) (fun i => t.fields.length - i) 0 (Nat.zero_le _) ⟨rfl, rfl, rfl, rfl, rfl, trivial⟩ (.refl _) (fun i hi => ?_)
  refine .seq (.region (.P ?_))
  refine .nil (.seq (.seq (.cond rfl (fun ht57 => ?_) fun ht57 => ?_)))
  ·(try simp only [nz] at ht57); try simp only [nq] at ht57
   have hlt : i < t.fields.length := by omega
   obtain ⟨x, hx⟩ := gx hlt
   obtain ⟨b, off, cs, el, g, md, mate, rfl, ⟨hb, hh⟩, hle, hc⟩ := so hf hlt
   have hr := hc i x hx
   obtain ⟨q, hq0, hq⟩ := parts_in hbd (parts_field hx)
   obtain ⟨a, ha_⟩ := gx hq
   rcases hl with ⟨e0, -⟩ | ⟨bL, offL, csL, elL, gL, mdL, mateL, rfl, ⟨hbL, hhL⟩, hleL, hcL⟩
   ·rw [e0] at hq; simp at hq
   have hra_ := hcL q a ha_
   have hraS := hra_
   obtain ⟨vea, vfa, vaa, hra_, hea, hfa_, haa⟩ := hra_
   have hfi : modF l t i = decide (a.kind = 12) := by simp only [modF, hx]; rw [hq0, kindAt_get ha_]
   refine .skip (.seq (.seq (.block (.seq (.region (.K underlying47 sz132 ?_))))))
   refine .A ag132 sz132 (.base hh hb (by simp)) hr ?_
   refine .alloc rfl rfl rfl rfl zr132 (fun b9 hb9 => ?_)
   refine .S sz132 ?_
   refine .nil (.seq (.region (.L ag4 ?_)))
   refine .P ?_
   refine .splitB 61 rfl (fun hs_61 => ?_) (fun hs_61 => ?_)
   ·(try simp only [nz] at hs_61); try simp only [nq] at hs_61
    refine .L ag22 ?_
    refine .F fa132_1 ?_
    refine .L ag3 ?_
    refine .as 64 (.int .i64 (Int.ofNat q)) rfl (congrArg (Value.int .i64) hq0) ?_
    refine .K underlying22 sz50 ?_
    refine .F fa50_0 ?_
    refine .M ag3 (.base hhL hbL (by simp)) (cell_of_take hra_ (k := 0) rfl) ?_
    refine .P2 ?_
    refine .as 69 (.bool (allN (modF l t) (i + 1))) rfl (congrArg Value.bool (by rw [allN_succ, hfi]; grind [eqI_eq])) ?_
    refine .S sz4 ?_
    refine .nil (.blk (.seq (.region (.P ?_))))
    refine .W 70 i ?_
    refine .P ?_
    refine .nil ?_
    exact .loop (i + 1) hlt (by omega) ⟨rfl, rfl, rfl, rfl, rfl, trivial⟩ (.cons _ (.refl _))
   (try simp only [nz] at hs_61); try simp only [nq] at hs_61
   iterate 7 refine .O ?_
   refine .P ?_
   refine .as 69 (.bool (allN (modF l t) (i + 1))) rfl (congrArg Value.bool (by rw [allN_succ, hfi]; grind [eqI_eq])) ?_
   refine .S sz4 ?_
   refine .nil (.blk (.seq (.region (.P ?_))))
   refine .W 70 i ?_
   refine .P ?_
   refine .nil ?_
   exact .loop (i + 1) hlt (by omega) ⟨rfl, rfl, rfl, rfl, rfl, trivial⟩ (.cons _ (.refl _))
  (try simp only [nz] at ht57); try simp only [nq] at ht57
  have hie : i = t.fields.length := by omega
  subst hie
  have hfit := fit_mod (l := l) ht25 ht51
  refine .exit (.seq (.loop (.here (.blk (.seq (.seq (.seq (.region (.L ag4 ?_)))))))))
  refine .P ?_
  refine .nil (.seq (.cond rfl (fun ht106 => ?_) fun ht106 => ?_))
  ·refine .seq (.region (.P ?_))
   refine .nil (.seq (.ret (.seq ?_)))
   exact .end_ rfl rfl (fun m hm => ⟨congrArg (Value.int .i64) (by rw [hfit]; grind), hm.ext⟩)
  refine .skip (.seq (.seq (.region (.P ?_))))
  refine .nil (.seq (.ret ?_))
  exact .end_ rfl rfl (fun m hm => ⟨congrArg (Value.int .i64) (by rw [hfit]; grind), hm.ext⟩)
 (try simp only [nz] at ht51); try simp only [nq] at ht51
 refine .seq (.region (.P2 ?_))
 refine .nil (.seq (.cond rfl (fun ht71 => ?_) fun ht71 => ?_))
 ·(try simp only [nz] at ht71); try simp only [nq] at ht71
  refine .seq (.region (.F fa50_1 ?_))
  refine .L ag32 ?_
  refine .G (ln32 ..) ?_
  refine .P ?_
  refine .as 76 (.int .i64 (Int.ofNat (t.elems.length - 1))) rfl (congrArg (Value.int .i64) (wr_pred (by clear he hf ha hl; omega) hne.1)) ?_
  refine .P ?_
  refine .nil (.seq (.seq (.region (.F fa50_1 ?_))))
  refine .L ag32 ?_
  refine .G (ln32 ..) ?_
  refine .P ?_
  refine .nil (.seq (.block ?_))
  refine .loop (α := Nat) (fun i => [(2, .pointer (some ⟨b2, 0, none⟩)), (5, .pointer (some ⟨b5, 0, none⟩)), (10, .int .i64 (Int.ofNat (t.elems.length - 1))), (78, .slice ae t.elems.length ce), (79, .int .i64 (Int.ofNat (t.elems.length))), (80, .int .i64 (Int.ofNat (i)))]) (fun i => [(b5, .cells [.bool (allN (fnF l t) i)] 4 false .plain none), (b3, .cells (cellsOfV (.agg ⟨[.int .i64 t.kind, .slice ae t.elems.length ce, .string t.name, .slice af t.fields.length cf, .slice aa t.arms.length ca]⟩)) 50 false .plain none), (b2, .cells [.slice al l.length cl] 22 false .plain none)]) (fun i => i ≤ t.elems.length) (fun i => t.elems.length - i) 0 (Nat.zero_le _) ⟨rfl, rfl, rfl, rfl, rfl, rfl, trivial⟩ (.refl _) (fun i hi => ?_)
  refine .seq (.region (.P ?_))
  refine .nil (.seq (.seq (.cond rfl (fun ht81 => ?_) fun ht81 => ?_)))
  ·(try simp only [nz] at ht81); try simp only [nq] at ht81
   have hlt : i < t.elems.length := by omega
   obtain ⟨p, hp⟩ := gx hlt
   obtain ⟨b, off, cs, el, g, md, mate, rfl, ⟨hb, hh⟩, hle, hc⟩ := so he hlt
   have hr := hc i p hp
   obtain ⟨q, rfl, hq⟩ := parts_in hbd (parts_elem hp)
   obtain ⟨a, ha_⟩ := gx hq
   rcases hl with ⟨e0, -⟩ | ⟨bL, offL, csL, elL, gL, mdL, mateL, rfl, ⟨hbL, hhL⟩, hleL, hcL⟩
   ·rw [e0] at hq; simp at hq
   have hra_ := hcL q a ha_
   have hraS := hra_
   obtain ⟨vea, vfa, vaa, hra_, hea, hfa_, haa⟩ := hra_
   have hfi : fnF l t i = (valueB a || (decide (i + 1 = t.elems.length) && decide (a.kind = 0))) := by simp only [fnF, hp]; rw [valAt_get ha_, kindAt_get ha_]
   refine .skip (.seq (.seq (.block (.seq (.region (.P ?_))))))
   refine .K underlying32 sz3 ?_
   refine .M ag3 (.base hh hb (by simp)) (cell_of_take hr (k := 0) rfl) ?_
   refine .P2 ?_
   refine .nil (.seq (.region (.L ag4 ?_)))
   refine .P ?_
   refine .splitB 86 rfl (fun hs_86 => ?_) (fun hs_86 => ?_)
   ·(try simp only [nz] at hs_86); try simp only [nq] at hs_86
    refine .L ag22 ?_
    refine .P ?_
    refine .call _ rfl rfl rfl rfl rfl rfl (fun m hm => value_ok hm.lole (hlS.mono (Mem.kr hm) (RTy.mono (Mem.kr hm))) ha_) ?_
    refine .P ?_
    refine .splitB 90 rfl (fun hs_90 => ?_) (fun hs_90 => ?_)
    ·(try simp only [nz] at hs_90); try simp only [nq] at hs_90
     iterate 11 refine .O ?_
     refine .P2 ?_
     refine .as 103 (.bool (allN (fnF l t) (i + 1))) rfl (congrArg Value.bool (by rw [allN_succ, hfi]; grind [eqI_eq])) ?_
     refine .S sz4 ?_
     refine .nil (.blk (.seq (.region (.P ?_))))
     refine .W 104 i ?_
     refine .P ?_
     refine .nil ?_
     exact .loop (i + 1) hlt (by omega) ⟨rfl, rfl, rfl, rfl, rfl, rfl, trivial⟩ (.refl _)
    (try simp only [nz] at hs_90); try simp only [nq] at hs_90
    iterate 4 refine .P ?_
    refine .splitB 94 rfl (fun hs_94 => ?_) (fun hs_94 => ?_)
    ·(try simp only [nz] at hs_94); try simp only [nq] at hs_94
     refine .L ag22 ?_
     refine .P ?_
     refine .K underlying22 sz50 ?_
     refine .F fa50_0 ?_
     refine .M ag3 (.base hhL hbL (by simp)) (cell_of_take hra_ (k := 0) rfl) ?_
     iterate 4 refine .P ?_
     refine .as 103 (.bool (allN (fnF l t) (i + 1))) rfl (congrArg Value.bool (by rw [allN_succ, hfi]; grind [eqI_eq])) ?_
     refine .S sz4 ?_
     refine .nil (.blk (.seq (.region (.P ?_))))
     refine .W 104 i ?_
     refine .P ?_
     refine .nil ?_
     exact .loop (i + 1) hlt (by omega) ⟨rfl, rfl, rfl, rfl, rfl, rfl, trivial⟩ (.refl _)
    (try simp only [nz] at hs_94); try simp only [nq] at hs_94
    iterate 6 refine .O ?_
    refine .P3 ?_
    refine .as 103 (.bool (allN (fnF l t) (i + 1))) rfl (congrArg Value.bool (by rw [allN_succ, hfi]; grind [eqI_eq])) ?_
    refine .S sz4 ?_
    refine .nil (.blk (.seq (.region (.P ?_))))
    refine .W 104 i ?_
    refine .P ?_
    refine .nil ?_
    exact .loop (i + 1) hlt (by omega) ⟨rfl, rfl, rfl, rfl, rfl, rfl, trivial⟩ (.refl _)
   (try simp only [nz] at hs_86); try simp only [nq] at hs_86
   iterate 16 refine .O ?_
   refine .P ?_
   refine .as 103 (.bool (allN (fnF l t) (i + 1))) rfl (congrArg Value.bool (by rw [allN_succ, hfi]; grind [eqI_eq])) ?_
   refine .S sz4 ?_
   refine .nil (.blk (.seq (.region (.P ?_))))
   refine .W 104 i ?_
   refine .P ?_
   refine .nil ?_
   exact .loop (i + 1) hlt (by omega) ⟨rfl, rfl, rfl, rfl, rfl, rfl, trivial⟩ (.refl _)
  (try simp only [nz] at ht81); try simp only [nq] at ht81
  have hie : i = t.elems.length := by omega
  subst hie
  have hfit := fit_fn (l := l) ht25 ht51 ht71
  refine .exit (.seq (.loop (.here (.blk (.seq (.seq (.seq (.region (.L ag4 ?_)))))))))
  refine .P ?_
  refine .nil (.seq (.cond rfl (fun ht106 => ?_) fun ht106 => ?_))
  ·refine .seq (.region (.P ?_))
   refine .nil (.seq (.ret (.seq ?_)))
   exact .end_ rfl rfl (fun m hm => ⟨congrArg (Value.int .i64) (by rw [hfit]; grind), hm.ext⟩)
  refine .skip (.seq (.seq (.region (.P ?_))))
  refine .nil (.seq (.ret ?_))
  exact .end_ rfl rfl (fun m hm => ⟨congrArg (Value.int .i64) (by rw [hfit]; grind), hm.ext⟩)
 (try simp only [nz] at ht71); try simp only [nq] at ht71
 refine .seq (.region (.E ag50 sz50 ?_))
 refine .calln _ _ _ rfl rfl rfl rfl rfl rfl (fun m hm => parts_ok hm.lole (RTy.mono (Mem.kr hm) _ _ htS)) (fun bt _ => ?_)
 refine .nil (.seq (.block ?_))
 refine .rangeFunc (α := Bool) (vs := pvs t) (K := [b5, b3, b2]) (fun i z => z = allN (partF l t) i) (fun _ => False) (fun z => [(b5, .cells [.bool z] 4 false .plain none), (b3, .cells (cellsOfV (.agg ⟨[.int .i64 t.kind, .slice ae t.elems.length ce, .string t.name, .slice af t.fields.length cf, .slice aa t.arms.length ca]⟩)) 50 false .plain none), (b2, .cells [.slice al l.length cl] 22 false .plain none)]) true rfl rfl (fun _ => rfl) rfl (.cons _ (.refl _)) (fun v hv => by obtain ⟨p, rfl⟩ := pvs_mem hv; exact ⟨rfl, rfl⟩) (fun b => b = bt ∨ b < m.next) (fun m1 hm1 => ⟨parts_iter (rf_new hm1) (heS.mono (rf_mem hm1) fun _ _ h => h) (hfS.mono (rf_mem hm1) fun _ _ h => h) (haS.mono (rf_mem hm1) (RArm.mono (rf_mem hm1))), rf_base hm1 (by simp)⟩) (fun i z v hv hA ll m1 ready busy hll hm1 => ?_) (fun z hA => ?_) (fun z hR => hR.elim)
 ·obtain ⟨p, hp, rfl⟩ := pvs_inv hv
  subst hA
  obtain ⟨q, rfl, hq⟩ := parts_in hbd hp
  obtain ⟨a, ha_⟩ := gx hq
  have hfi : partF l t i = valueB a := by simp only [partF, hp]; rw [valAt_get ha_]
  refine .region (.P ?_)
  refine .nil (.asg rfl (.block (.region (.L ag4 ?_))))
  refine .P ?_
  refine .splitB 20 rfl (fun hs_20 => ?_) (fun hs_20 => ?_)
  ·(try simp only [nz] at hs_20); try simp only [nq] at hs_20
   refine .L ag22 ?_
   refine .P ?_
   refine .call _ rfl rfl rfl rfl rfl rfl (fun m hm => value_ok hm.lole (hlS.mono (Mem.kr2 hm1 hm (by simp)) (RTy.mono (Mem.kr2 hm1 hm (by simp)))) ha_) ?_
   refine .P ?_
   refine .as 24 (.bool (allN (partF l t) (i + 1))) rfl (congrArg Value.bool (by rw [allN_succ, hfi]; grind [eqI_eq])) ?_
   refine .S sz4 ?_
   refine .nil (.blk ?_)
   exact .rnd _ rfl (.refl _)
  (try simp only [nz] at hs_20); try simp only [nq] at hs_20
  iterate 3 refine .O ?_
  refine .P ?_
  refine .as 24 (.bool (allN (partF l t) (i + 1))) rfl (congrArg Value.bool (by rw [allN_succ, hfi]; grind [eqI_eq])) ?_
  refine .S sz4 ?_
  refine .nil (.blk ?_)
  exact .rnd _ rfl (.refl _)
 subst hA
 have hfit := fit_else (l := l) ht25 ht51 ht71
 rw [← pvs_len] at hfit
 refine .blk (.blk (.seq (.seq (.seq (.region (.L ag4 ?_))))))
 refine .P ?_
 refine .nil (.seq (.cond rfl (fun ht106 => ?_) fun ht106 => ?_))
 ·refine .seq (.region (.P ?_))
  refine .nil (.seq (.ret (.seq ?_)))
  exact .end_ rfl rfl (fun m hm => ⟨congrArg (Value.int .i64) (by rw [hfit]; grind), hm.ext⟩)
 refine .skip (.seq (.seq (.region (.P ?_))))
 refine .nil (.seq (.ret ?_))
 exact .end_ rfl rfl (fun m hm => ⟨congrArg (Value.int .i64) (by rw [hfit]; grind), hm.ext⟩)
theorem rfits_ok {l : List Ty} {vl : Value} {t : Ty} {cs : List Value} {m : AW} (hm : m.lo ≤ m.next) (hlS : Sl (Mem m) 5 (RTy (Mem m)) l vl) (hwl : ∀ (i : Nat) (a : Ty), l[i]? = some a → FewT a) (ht : RTy (Mem m) t cs) (hw : FewT t) (hsh : shapedB t = true) (hbd : badB l.length t = false) : Fc prog 57 [vl, .agg ⟨cs⟩] m fun v m' => v = .int .i64 (fitE l t) ∧ Ext m m' := by
 have hl := hlS
 obtain ⟨al, cl, rfl, hnl, hl⟩ := hl
 unfold shapedB at hsh
 have hsP := of_decide_eq_true hsh
 simp only [shapeP] at hsP
 have htS := ht
 obtain ⟨ve, vf, va, rfl, he, hf, ha⟩ := ht
 have heS := he
 have hfS := hf
 have haS := ha
 obtain ⟨ae, ce, rfl, hne, he⟩ := he
 obtain ⟨af, cf, rfl, hnf, hf⟩ := hf
 obtain ⟨aa, ca, rfl, hna, ha⟩ := ha
 have k1 := hw.elems
 have k2 := hw.fields
 have k3 := hw.arms
 refine Fc.body (c := _) func57 rfl rfl rfl rfl hm ?_
 refine .seq (.region ?_)
 refine .box rfl rfl rfl rfl rfl (fun b3 hb3 => ?_)
 refine .P ?_
 refine .nil (.seq (.seq (.seq (.region (.F fa50_0 ?_)))))
 refine .L ag3 ?_
 refine .nil (.seq (.block (.seq (.region (.P2 ?_)))))
 refine .nil (.seq (.cond rfl (fun ht13 => ?_) fun ht13 => ?_))
 ·(try simp only [nz] at ht13); try simp only [nq] at ht13
  have hltE : 0 < t.elems.length := by clear he hf ha hl; omega
  obtain ⟨p, hp⟩ := gx hltE
  obtain ⟨bE, offE, csE, elE, gE, mdE, mateE, rfl, ⟨hbE, hhE⟩, hleE, hcE⟩ := so he hltE
  have hrp := hcE 0 p hp
  obtain ⟨q, rfl, hq⟩ := parts_in hbd (parts_elem hp)
  obtain ⟨a, ha_⟩ := gx hq
  rcases hl with ⟨e0, -⟩ | ⟨bL, offL, csL, elL, gL, mdL, mateL, rfl, ⟨hbL, hhL⟩, hleL, hcL⟩
  ·rw [e0] at hq; simp at hq
  have hra_ := hcL q a ha_
  have hraS := hra_
  obtain ⟨vea, vfa, vaa, hra_, hea, hfa_, haa⟩ := hra_
  have hfit := fit_ref ht13 hp ha_
  refine .seq (.seq (.region (.P ?_)))
  refine .F fa50_1 ?_
  refine .L ag32 ?_
  refine .K underlying32 sz3 ?_
  refine .M ag3 (.base hhE hbE (by simp)) (cell_of_take hrp (k := 0) rfl) ?_
  refine .K underlying22 sz50 ?_
  refine .F fa50_0 ?_
  refine .M ag3 (.base hhL hbL (by simp)) (cell_of_take hra_ (k := 0) rfl) ?_
  refine .P ?_
  refine .nil (.seq (.cond rfl (fun ht23 => ?_) fun ht23 => ?_))
  ·(try simp only [nz] at ht23); try simp only [nq] at ht23
   refine .seq (.region (.P ?_))
   refine .nil (.seq (.ret (.seq (.blk (.seq ?_)))))
   exact .end_ rfl rfl (fun m hm => ⟨congrArg (Value.int .i64) (by first | (rw [hfit, allN_false hlt (by rw [hfi]; grind)]; rfl) | (rw [hfit]; grind)), hm.ext⟩)
  (try simp only [nz] at ht23); try simp only [nq] at ht23
  refine .skip (.seq (.seq (.seq ?_)))
  refine .D [(15, 0), (15, 0), (3, 2), (15, 6), (3, 14), (15, 31), (3, 63), (15, 0), (3, 128), (7, 511), (15, 1023), (15, 2047), (15, 2047), (15, 4095), (15, 16383)] (by kernel_rfl) (by kernel_rfl) (fun base hbase hB => ?_)
  refine .P ?_
  refine .F fa50_1 ?_
  refine .J ag32 ?_
  refine .K underlying32 sz3 ?_
  refine .M ag3 (.base hhE hbE (by simp)) (cell_of_take hrp (k := 0) rfl) ?_
  refine .K underlying22 sz50 ?_
  refine .loadAgg rfl rfl rfl rfl rfl rfl rfl rfl ag50 sz50 (.base hhL hbL (by simp)) (by omega) hra_ ?_
  refine .F fa50_2 ?_
  refine .J ag9 ?_
  refine .calln _ _ _ rfl rfl rfl rfl rfl rfl rfl rfl rfl (fun m hm => rwith_ok hm.lole (t := a) (RTy.mono (Mem.kr hm) a _ ⟨vea, vfa, vaa, rfl, hea, hfa_, haa⟩) (hwl q a ha_)) (fun z hz => ?_)
  refine .as 34 (.tuple ⟨[z.2, .bool (withL a t.name).isSome]⟩) rfl rfl ?_
  iterate 5 refine .P ?_
  refine .nil (.seq (.seq (.region (.P2 ?_))))
  refine .nil (.seq (.cond rfl (fun ht38 => ?_) fun ht38 => ?_))
  ·(try simp only [nz] at ht38); try simp only [nq] at ht38
   refine .seq (.region (.P ?_))
   refine .nil (.seq (.ret (.seq (.blk (.seq ?_)))))
   exact .end_ rfl rfl (fun m hm => ⟨congrArg (Value.int .i64) (by first | (rw [hfit, allN_false hlt (by rw [hfi]; grind)]; rfl) | (rw [hfit]; grind)), hm.ext⟩)
  (try simp only [nz] at ht38); try simp only [nq] at ht38
  refine .skip (.seq (.seq (.region (.P ?_))))
  refine .nil (.seq (.ret (.blk (.seq ?_))))
  exact .end_ rfl rfl (fun m hm => ⟨congrArg (Value.int .i64) (by first | (rw [hfit, allN_false hlt (by rw [hfi]; grind)]; rfl) | (rw [hfit]; grind)), hm.ext⟩)
 (try simp only [nz] at ht13); try simp only [nq] at ht13
 refine .seq (.region (.P2 ?_))
 refine .nil (.seq (.cond rfl (fun ht39 => ?_) fun ht39 => ?_))
 ·(try simp only [nz] at ht39); try simp only [nq] at ht39
  have hfit := fit_mod (l := l) ht13 ht39
  refine .seq (.seq (.region (.P ?_)))
  refine .nil (.seq (.block ?_))
  refine .loop (α := Nat) (fun i => [(0, .slice al l.length cl), (3, .pointer (some ⟨b3, 0, none⟩)), (7, .int .i64 (Int.ofNat (i)))]) (fun i => [(b3, .cells (cellsOfV (.agg ⟨[.int .i64 t.kind, .slice ae t.elems.length ce, .string t.name, .slice af t.fields.length cf, .slice aa t.arms.length ca]⟩)) 50 false .plain none)]) (fun i => i ≤ t.fields.length ∧ allN (modF l t) i = true) (fun i => t.fields.length - i) 0 ⟨Nat.zero_le _, rfl⟩ ⟨rfl, rfl, rfl, trivial⟩ (.refl _) (fun i hi => ?_)
  refine .seq (.seq (.region (.P ?_)))
  refine .F fa50_3 ?_
  refine .L ag47 ?_
  refine .G (ln47 ..) ?_
  refine .P ?_
  refine .nil (.seq (.cond rfl (fun ht45 => ?_) fun ht45 => ?_))
  ·(try simp only [nz] at ht45); try simp only [nq] at ht45
   have hlt : i < t.fields.length := by omega
   obtain ⟨x, hx⟩ := gx hlt
   obtain ⟨b, off, cs, el, g, md, mate, rfl, ⟨hb, hh⟩, hle, hc⟩ := so hf hlt
   have hr := hc i x hx
   obtain ⟨q, hq0, hq⟩ := parts_in hbd (parts_field hx)
   obtain ⟨a, ha_⟩ := gx hq
   rcases hl with ⟨e0, -⟩ | ⟨bL, offL, csL, elL, gL, mdL, mateL, rfl, ⟨hbL, hhL⟩, hleL, hcL⟩
   ·rw [e0] at hq; simp at hq
   have hra_ := hcL q a ha_
   have hraS := hra_
   obtain ⟨vea, vfa, vaa, hra_, hea, hfa_, haa⟩ := hra_
   have hfi : modF l t i = decide (a.kind = 12) := by simp only [modF, hx]; rw [hq0, kindAt_get ha_]
   refine .skip (.seq (.seq (.block (.seq (.region (.P ?_))))))
   refine .F fa50_3 ?_
   refine .L ag47 ?_
   refine .P ?_
   refine .K underlying47 sz132 ?_
   refine .F fa132_1 ?_
   refine .M ag3 (.base hh hb (by simp)) (cell_of_take hr (k := 1) rfl) ?_
   refine .as 54 (.int .i64 (Int.ofNat q)) rfl (congrArg (Value.int .i64) hq0) ?_
   refine .K underlying22 sz50 ?_
   refine .F fa50_0 ?_
   refine .M ag3 (.base hhL hbL (by simp)) (cell_of_take hra_ (k := 0) rfl) ?_
   refine .P ?_
   refine .nil (.seq (.cond rfl (fun ht58 => ?_) fun ht58 => ?_))
   ·(try simp only [nz] at ht58); try simp only [nq] at ht58
    have hbad2 : allN (modF l t) t.fields.length = false := allN_false hlt (by rw [hfi]; grind)
    refine .seq (.region (.P ?_))
    refine .nil (.seq (.ret (.blk (.seq (.loop (.blk (.seq (.blk (.seq ?_)))))))))
    exact .end_ rfl rfl (fun m hm => ⟨congrArg (Value.int .i64) (by first | (rw [hfit, allN_false hlt (by rw [hfi]; grind)]; rfl) | (rw [hfit]; grind)), hm.ext⟩)
   (try simp only [nz] at ht58); try simp only [nq] at ht58
   refine .skip (.blk (.seq (.region (.P2 ?_))))
   refine .W 47 i ?_
   refine .P ?_
   refine .nil ?_
   exact .loop (i + 1) ⟨hlt, by rw [allN_succ, hi.2, hfi]; grind⟩ (by omega) ⟨rfl, rfl, rfl, trivial⟩ (.refl _)
  (try simp only [nz] at ht45); try simp only [nq] at ht45
  have hie : i = t.fields.length := by omega
  subst hie
  refine .exit (.seq (.loop (.here (.seq (.seq (.region (.P ?_)))))))
  refine .nil (.seq (.ret (.blk (.seq ?_))))
  exact .end_ rfl rfl (fun m hm => ⟨congrArg (Value.int .i64) (by first | (rw [hfit, allN_false hlt (by rw [hfi]; grind)]; rfl) | (rw [hfit]; grind)), hm.ext⟩)
 (try simp only [nz] at ht39); try simp only [nq] at ht39
 refine .skip (.blk (.seq (.seq (.region (.E ag50 sz50 ?_)))))
 refine .calln _ _ _ rfl rfl rfl rfl rfl rfl (fun m hm => rparts_ok hm.lole (RTy.mono (Mem.kr hm) _ _ htS) hw) (fun z hz => ?_)
 obtain ⟨zh, zv⟩ := z
 simp only at hz
 obtain ⟨ap, cp, rfl, hnp, hpz⟩ := hz
 have hfit := fit_gen (l := l) ht13 ht39 (fun h12 => by clear he hf ha hl hpz; omega)
 refine .P ?_
 refine .nil (.seq (.seq (.seq (.region (.P ?_)))))
 refine .nil (.seq (.block ?_))
 refine .loop (α := Nat) (fun i => [(0, .slice al l.length cl), (3, .pointer (some ⟨b3, 0, none⟩)), (8, .slice ap (partsL t).length cp), (9, .int .i64 (Int.ofNat (i)))]) (fun i => zh ++ [(b3, .cells (cellsOfV (.agg ⟨[.int .i64 t.kind, .slice ae t.elems.length ce, .string t.name, .slice af t.fields.length cf, .slice aa t.arms.length ca]⟩)) 50 false .plain none)]) (fun i => i ≤ (partsL t).length ∧ allN (partG l t) i = true) (fun i => (partsL t).length - i) 0 ⟨Nat.zero_le _, rfl⟩ ⟨rfl, rfl, rfl, rfl, trivial⟩ (.refl _) (fun i hi => ?_)
 refine .seq (.seq (.region (.P2 ?_)))
 refine .G (ln32 ..) ?_
 refine .P ?_
 refine .nil (.seq (.cond rfl (fun ht64 => ?_) fun ht64 => ?_))
 ·(try simp only [nz] at ht64); try simp only [nq] at ht64
  have hlt : i < (partsL t).length := by omega
  obtain ⟨p, hp⟩ : ∃ w_, (partsL t)[i]? = some w_ := ⟨_, List.getElem?_eq_getElem hlt⟩
  obtain ⟨b, off, cs, el, g, md, mate, rfl, hb, hle, hc⟩ := so hpz hlt
  have hr := hc i p hp
  obtain ⟨q, rfl, hq⟩ := parts_in hbd hp
  obtain ⟨a, ha_⟩ := gx hq
  rcases hl with ⟨e0, -⟩ | ⟨bL, offL, csL, elL, gL, mdL, mateL, rfl, ⟨hbL, hhL⟩, hleL, hcL⟩
  ·rw [e0] at hq; simp at hq
  have hra_ := hcL q a ha_
  have hraS := hra_
  obtain ⟨vea, vfa, vaa, hra_, hea, hfa_, haa⟩ := hra_
  have hfi : partG l t i = (valueB a || (decide (t.kind = 12) && (decide (i + 1 = (partsL t).length) && decide (a.kind = 0)))) := by simp only [partG, hp]; rw [valAt_get ha_, kindAt_get ha_]
  refine .skip (.seq (.seq (.block ?_)))
  refine .joinA (True) [(10, .bool (decide (t.kind = 12 ∧ i + 1 = (partsL t).length)))] ?_ (fun _ => ?_)
  ·refine .region (.F fa50_0 ?_)
   refine .L ag3 ?_
   refine .P2 ?_
   refine .splitB 70 rfl (fun hs0 => ?_) (fun hs0 => ?_)
   ·(try simp only [nz] at hs0); try simp only [nq] at hs0
    refine .P2 ?_
    refine .G (ln32 ..) ?_
    refine .P ?_
    refine .as 74 (.int .i64 (Int.ofNat ((partsL t).length - 1))) rfl (congrArg (Value.int .i64) (wr_pred (by omega) hnp.1)) ?_
    refine .P3 ?_
    refine .nil ?_
    refine .as 10 (.bool (decide (t.kind = 12 ∧ i + 1 = (partsL t).length))) rfl (congrArg Value.bool (by apply bbx; simp only [nz, nb, reduceCtorEq]; (try simp only [nq]); omega)) ?_
    exact .J (trivial)
   (try simp only [nz] at hs0); try simp only [nq] at hs0
   iterate 5 refine .O ?_
   refine .P2 ?_
   refine .nil ?_
   refine .as 10 (.bool (decide (t.kind = 12 ∧ i + 1 = (partsL t).length))) rfl (congrArg Value.bool (by apply bbx; simp only [nz, nb, reduceCtorEq]; (try simp only [nq]); omega)) ?_
   exact .J (trivial)
  refine .seq (.region (.P3 ?_))
  refine .K underlying32 sz3 ?_
  refine .M ag3 (InH.sees (l := zh) (fun p_ hp_ => List.mem_append_left _ hp_) _ _ hb) (cell_of_take hr (k := 0) rfl) ?_
  refine .call _ rfl rfl rfl rfl rfl rfl (fun m hm => rvalue_ok hm.lole (hlS.mono (Mem.kr hm) (RTy.mono (Mem.kr hm))) ha_) ?_
  refine .P2 ?_
  refine .splitB 84 rfl (fun hs_84 => ?_) (fun hs_84 => ?_)
  ·(try simp only [nz] at hs_84); try simp only [nq] at hs_84
   refine .P2 ?_
   refine .splitB 86 rfl (fun hs_86 => ?_) (fun hs_86 => ?_)
   ·(try simp only [nz] at hs_86); try simp only [nq] at hs_86
    refine .P3 ?_
    refine .K underlying32 sz3 ?_
    refine .M ag3 (InH.sees (l := zh) (fun p_ hp_ => List.mem_append_left _ hp_) _ _ hb) (cell_of_take hr (k := 0) rfl) ?_
    refine .K underlying22 sz50 ?_
    refine .F fa50_0 ?_
    refine .M ag3 (.base hhL hbL (by simp)) (cell_of_take hra_ (k := 0) rfl) ?_
    iterate 4 refine .P ?_
    refine .nil (.seq (.cond rfl (fun ht98 => ?_) fun ht98 => ?_))
    ·(try simp only [nz] at ht98); try simp only [nq] at ht98
     refine .seq (.region (.P ?_))
     refine .nil (.seq (.ret (.blk (.seq (.loop (.blk (.seq ?_)))))))
     exact .end_ rfl rfl (fun m hm => ⟨congrArg (Value.int .i64) (by first | (rw [hfit, allN_false hlt (by rw [hfi]; grind)]; rfl) | (rw [hfit]; grind)), hm.ext⟩)
    (try simp only [nz] at ht98); try simp only [nq] at ht98
    refine .skip (.blk (.seq (.region (.P2 ?_))))
    refine .W 66 i ?_
    refine .P ?_
    refine .nil ?_
    exact .loop (i + 1) ⟨hlt, by rw [allN_succ, hi.2, hfi]; grind⟩ (by omega) ⟨rfl, rfl, rfl, rfl, trivial⟩ (.refl _)
   (try simp only [nz] at hs_86); try simp only [nq] at hs_86
   iterate 9 refine .O ?_
   refine .P3 ?_
   refine .nil (.seq (.cond_true rfl (.seq (.region (.P ?_)))))
   refine .nil (.seq (.ret (.blk (.seq (.loop (.blk (.seq ?_)))))))
   exact .end_ rfl rfl (fun m hm => ⟨congrArg (Value.int .i64) (by first | (rw [hfit, allN_false hlt (by rw [hfi]; grind)]; rfl) | (rw [hfit]; grind)), hm.ext⟩)
  (try simp only [nz] at hs_84); try simp only [nq] at hs_84
  iterate 13 refine .O ?_
  refine .P ?_
  refine .nil (.seq (.cond_false rfl (.skip (.blk (.seq (.region (.P2 ?_)))))))
  refine .W 66 i ?_
  refine .P ?_
  refine .nil ?_
  exact .loop (i + 1) ⟨hlt, by rw [allN_succ, hi.2, hfi]; grind⟩ (by omega) ⟨rfl, rfl, rfl, rfl, trivial⟩ (.refl _)
 (try simp only [nz] at ht64); try simp only [nq] at ht64
 have hie : i = (partsL t).length := by omega
 subst hie
 refine .exit (.seq (.loop (.here (.seq (.seq (.region (.P ?_)))))))
 refine .nil (.seq (.ret ?_))
 exact .end_ rfl rfl (fun m hm => ⟨congrArg (Value.int .i64) (by first | (rw [hfit, allN_false hlt (by rw [hfi]; grind)]; rfl) | (rw [hfit]; grind)), hm.ext⟩)
theorem few_ok {l : List Ty} {v : Value} {m : AW} (hm : m.lo ≤ m.next) (hl : Sl (Mem m) 5 (RTy (Mem m)) l v) : Fc prog 14 [v] m fun v m' => v = .bool (fewB l) ∧ Ext m m' := by
 obtain ⟨a, cap, rfl, hn, hl⟩ := hl
 refine Fc.body (c := _) func14 rfl rfl rfl rfl hm ?_
 refine .seq (.region (.P ?_))
 refine .nil (.seq (.seq (.seq (.region (.P ?_)))))
 refine .G (ln22 ..) ?_
 refine .P ?_
 refine .nil (.seq (.cond rfl (fun hc0 => ?_) fun hc0 => ?_))
 ·try simp only [nz] at hc0
  refine .seq (.region (.P ?_))
  refine .nil (.seq (.ret (.seq ?_)))
  exact .end_ rfl rfl (fun m hm => ⟨congrArg Value.bool (by unfold fewB; rw [decide_eq_false (by omega)]; rfl), hm.ext⟩)
 try simp only [nz] at hc0
 refine .skip (.seq (.seq (.seq (.region (.P ?_)))))
 refine .nil (.seq (.block ?_))
 refine .loop (α := Nat) (fun i => [(0, .slice a l.length cap), (3, .int .i64 (Int.ofNat (i)))]) (fun i => []) (fun i => i ≤ l.length ∧ ∀ (j : Nat) (x : Ty), j < i → l[j]? = some x → fewTB x = true) (fun i => l.length - i) 0 ⟨Nat.zero_le _, fun _ _ h => (by cases h)⟩ ⟨rfl, rfl, trivial⟩ (List.nil_sublist _) (fun i hq => ?_)
 refine .seq (.seq (.region (.P2 ?_)))
 refine .G (ln22 ..) ?_
 refine .P ?_
 refine .nil (.seq (.cond rfl (fun ht12 => ?_) fun ht12 => ?_))
 ·try simp only [nz] at ht12
  have hlt : i < l.length := by omega
  obtain ⟨x, hx⟩ := gx hlt
  obtain ⟨b, off, cs, el, g, md, mate, rfl, ⟨hb, hh⟩, hle, hc⟩ := so hl hlt
  have hr := hc i x hx
  obtain ⟨ve, vf, va, hr, he, hf, ha⟩ := hr
  obtain ⟨ae, ce, rfl, hne, he⟩ := he
  have hfS := hf
  obtain ⟨af, cf, rfl, hnf, hf⟩ := hf
  obtain ⟨aa, ca, rfl, hna, ha⟩ := ha
  refine .skip (.seq (.seq (.block (.seq (.region (.P2 ?_))))))
  refine .K underlying22 sz50 ?_
  refine .A ag50 sz50 (.base hh hb (by simp)) hr ?_
  refine .alloc rfl rfl rfl rfl zr50 (fun b4 hb4 => ?_)
  refine .S sz50 ?_
  refine .nil (.seq (.seq (.seq (.region (.F fa50_1 ?_)))))
  refine .L ag32 ?_
  refine .G (ln32 ..) ?_
  refine .P2 ?_
  refine .splitB 23 rfl (fun hs_23 => ?_) (fun hs_23 => ?_)
  ·try simp only [nz] at hs_23
   iterate 4 refine .O ?_
   refine .P2 ?_
   iterate 4 refine .O ?_
   refine .P2 ?_
   iterate 4 refine .O ?_
   refine .P ?_
   refine .nil (.seq (.cond_true rfl (.seq (.region (.P ?_)))))
   refine .nil (.seq (.ret (.seq (.blk (.seq (.loop (.blk (.seq ?_))))))))
   exact .end_ rfl rfl (fun m hm => ⟨congrArg Value.bool (by first | exact (few_yes (by omega) fun j x hj hx => hq.2 j x (by omega) hx).symm | exact (few_not hx (fewT_arm hy (by unfold fewAB; grind))).symm | exact (few_not hx (by unfold fewTB; grind)).symm), hm.ext⟩)
  try simp only [nz] at hs_23
  refine .F fa50_4 ?_
  refine .L ag48 ?_
  refine .G (ln48 ..) ?_
  refine .P3 ?_
  refine .splitB 29 rfl (fun hs_29 => ?_) (fun hs_29 => ?_)
  ·try simp only [nz] at hs_29
   iterate 4 refine .O ?_
   refine .P2 ?_
   iterate 4 refine .O ?_
   refine .P ?_
   refine .nil (.seq (.cond_true rfl (.seq (.region (.P ?_)))))
   refine .nil (.seq (.ret (.seq (.blk (.seq (.loop (.blk (.seq ?_))))))))
   exact .end_ rfl rfl (fun m hm => ⟨congrArg Value.bool (by first | exact (few_yes (by omega) fun j x hj hx => hq.2 j x (by omega) hx).symm | exact (few_not hx (fewT_arm hy (by unfold fewAB; grind))).symm | exact (few_not hx (by unfold fewTB; grind)).symm), hm.ext⟩)
  try simp only [nz] at hs_29
  refine .F fa50_2 ?_
  refine .L ag9 ?_
  refine .G (ln9 ..) ?_
  refine .P3 ?_
  refine .splitB 35 rfl (fun hs_35 => ?_) (fun hs_35 => ?_)
  ·try simp only [nz] at hs_35
   iterate 4 refine .O ?_
   refine .P ?_
   refine .nil (.seq (.cond_true rfl (.seq (.region (.P ?_)))))
   refine .nil (.seq (.ret (.seq (.blk (.seq (.loop (.blk (.seq ?_))))))))
   exact .end_ rfl rfl (fun m hm => ⟨congrArg Value.bool (by first | exact (few_yes (by omega) fun j x hj hx => hq.2 j x (by omega) hx).symm | exact (few_not hx (fewT_arm hy (by unfold fewAB; grind))).symm | exact (few_not hx (by unfold fewTB; grind)).symm), hm.ext⟩)
  try simp only [nz] at hs_35
  refine .F fa50_3 ?_
  refine .L ag47 ?_
  refine .call _ rfl rfl rfl rfl rfl rfl (fun m hm => short_ok hm.lole (hfS.mono (Mem.kr hm) fun _ _ h => h)) ?_
  refine .P2 ?_
  refine .nil (.seq (.cond rfl (fun ht40 => ?_) fun ht40 => ?_))
  ·try simp only [nz] at ht40
   refine .seq (.region (.P ?_))
   refine .nil (.seq (.ret (.seq (.blk (.seq (.loop (.blk (.seq ?_))))))))
   exact .end_ rfl rfl (fun m hm => ⟨congrArg Value.bool (by first | exact (few_yes (by omega) fun j x hj hx => hq.2 j x (by omega) hx).symm | exact (few_not hx (fewT_arm hy (by unfold fewAB; grind))).symm | exact (few_not hx (by unfold fewTB; grind)).symm), hm.ext⟩)
  try simp only [nz] at ht40
  refine .skip (.seq (.seq (.region (.P ?_))))
  refine .nil (.seq (.block ?_))
  refine .loop (α := Nat) (fun k => [(0, .slice (some ⟨b, off, none⟩) l.length cap), (3, .int .i64 (Int.ofNat (i))), (4, .pointer (some ⟨b4, 0, none⟩)), (5, .int .i64 (Int.ofNat (k)))]) (fun k => [(b4, .cells [.int .i64 x.kind, .slice ae x.elems.length ce, .string x.name, .slice af x.fields.length cf, .slice aa x.arms.length ca] 50 false .plain none)]) (fun k => k ≤ x.arms.length ∧ ∀ (j : Nat) (y : Arm), j < k → x.arms[j]? = some y → fewAB y = true) (fun k => x.arms.length - k) 0 ⟨Nat.zero_le _, fun _ _ h => (by cases h)⟩ ⟨rfl, rfl, rfl, rfl, trivial⟩ (.refl _) (fun k hj => ?_)
  refine .seq (.seq (.region (.P ?_)))
  refine .F fa50_4 ?_
  refine .L ag48 ?_
  refine .G (ln48 ..) ?_
  refine .P ?_
  refine .nil (.seq (.cond rfl (fun ht45 => ?_) fun ht45 => ?_))
  ·try simp only [nz] at ht45
   have hlt2 : k < x.arms.length := by omega
   obtain ⟨y, hy⟩ := gx hlt2
   obtain ⟨b2, off2, cs2, el2, g2, md2, mate2, rfl, ⟨hb2, hh2⟩, hle2, hc2⟩ := so ha hlt2
   have hry := hc2 k y hy
   obtain ⟨vy, hry, hyf⟩ := hry
   refine .skip (.seq (.seq (.block (.seq (.region (.F fa50_4 ?_))))))
   refine .L ag48 ?_
   refine .P ?_
   refine .K underlying48 sz55 ?_
   refine .F fa55_0 ?_
   refine .M ag9 (.base hh2 hb2 (by simp)) (cell_of_take hry (k := 0) rfl) ?_
   refine .G (ln9 ..) ?_
   refine .P2 ?_
   refine .splitB 56 rfl (fun hs_56 => ?_) (fun hs_56 => ?_)
   ·try simp only [nz] at hs_56
    iterate 8 refine .O ?_
    refine .P ?_
    refine .nil (.seq (.cond_true rfl (.seq (.region (.P ?_)))))
    refine .nil (.seq (.ret (.blk (.seq (.loop (.blk (.blk (.seq (.loop (.blk (.seq ?_)))))))))))
    exact .end_ rfl rfl (fun m hm => ⟨congrArg Value.bool (by first | exact (few_yes (by omega) fun j x hj hx => hq.2 j x (by omega) hx).symm | exact (few_not hx (fewT_arm hy (by unfold fewAB; grind))).symm | exact (few_not hx (by unfold fewTB; grind)).symm), hm.ext⟩)
   try simp only [nz] at hs_56
   refine .F fa50_4 ?_
   refine .L ag48 ?_
   refine .P ?_
   refine .K underlying48 sz55 ?_
   refine .F fa55_1 ?_
   refine .M ag47 (.base hh2 hb2 (by simp)) (cell_of_take hry (k := 1) rfl) ?_
   refine .call _ rfl rfl rfl rfl rfl rfl (fun m hm => short_ok hm.lole (hyf.mono (Mem.kr hm) fun _ _ h => h)) ?_
   refine .P2 ?_
   refine .nil (.seq (.cond rfl (fun ht65 => ?_) fun ht65 => ?_))
   ·try simp only [nz] at ht65
    refine .seq (.region (.P ?_))
    refine .nil (.seq (.ret (.blk (.seq (.loop (.blk (.blk (.seq (.loop (.blk (.seq ?_)))))))))))
    exact .end_ rfl rfl (fun m hm => ⟨congrArg Value.bool (by first | exact (few_yes (by omega) fun j x hj hx => hq.2 j x (by omega) hx).symm | exact (few_not hx (fewT_arm hy (by unfold fewAB; grind))).symm | exact (few_not hx (by unfold fewTB; grind)).symm), hm.ext⟩)
   try simp only [nz] at ht65
   refine .skip (.blk (.seq (.region (.P2 ?_))))
   refine .W 47 k ?_
   refine .P ?_
   refine .nil ?_
   exact .loop (k + 1) ⟨hlt2, upto_succ hj.2 hy (by unfold fewAB; grind)⟩ (by omega) ⟨rfl, rfl, rfl, rfl, trivial⟩ (.refl _)
  try simp only [nz] at ht45
  refine .exit (.seq (.loop (.here (.blk (.seq (.region (.P2 ?_)))))))
  refine .W 14 i ?_
  refine .P ?_
  refine .nil ?_
  exact .loop (i + 1) ⟨hlt, upto_succ hq.2 hx (fewT_yes (by omega) (by assumption) fun j y hj_ hy => hj.2 j y (by omega) hy)⟩ (by omega) ⟨rfl, rfl, trivial⟩ (List.nil_sublist _)
 try simp only [nz] at ht12
 refine .exit (.seq (.loop (.here (.seq (.seq (.region (.P ?_)))))))
 refine .nil (.seq (.ret ?_))
 exact .end_ rfl rfl (fun m hm => ⟨congrArg Value.bool (by first | exact (few_yes (by omega) fun j x hj hx => hq.2 j x (by omega) hx).symm | exact (few_not hx (fewT_arm hy (by unfold fewAB; grind))).symm | exact (few_not hx (by unfold fewTB; grind)).symm), hm.ext⟩)
theorem rsum_ok {sz : List Int} {l : List Fld} {vs v : Value} {m : AW} (hm : m.lo ≤ m.next) (hs : Sl (Mem m) 1 RInt sz vs) (hl : Sl (Mem m) 2 RFld l v) (hz : SzOk sz) (hin : ∀ (j : Nat) (x : Fld), l[j]? = some x → ∃ q : Nat, x.type = Int.ofNat q ∧ q < sz.length) : Fc prog 78 [vs, v] m fun v m' => v = .int .i64 (sumF sz l) ∧ Ext m m' := by
 obtain ⟨a, cap, rfl, hn, hl⟩ := hl
 obtain ⟨as_, caps, rfl, hns, hs⟩ := hs
 refine Fc.body (c := _) func78 rfl rfl rfl rfl hm ?_
 refine .seq (.region (.P ?_))
 refine .nil (.seq (.seq (.region (.P ?_))))
 refine .nil (.seq (.seq (.seq (.region (.P ?_)))))
 refine .nil (.seq (.block ?_))
 refine .loop (α := Nat) (fun i => [(0, .slice as_ sz.length caps), (1, .slice a l.length cap), (5, .int .i64 (sumF sz (l.take i))), (6, .int .i64 (Int.ofNat (i)))]) (fun i => []) (fun i => i ≤ l.length) (fun i => l.length - i) 0 (Nat.zero_le _) ⟨rfl, rfl, rfl, rfl, trivial⟩ (List.nil_sublist _) (fun i hi => ?_)
 refine .seq (.seq (.region (.P2 ?_)))
 refine .G (ln47 ..) ?_
 refine .P ?_
 refine .nil (.seq (.cond rfl (fun ht10 => ?_) fun ht10 => ?_))
 ·try simp only [nz] at ht10
  have hlt : i < l.length := by omega
  obtain ⟨x, hx⟩ := gx hlt
  obtain ⟨b, off, cs, el, g, md, mate, rfl, ⟨hb, hh⟩, hle, hc⟩ := so hl hlt
  have hr := hc i x hx
  obtain ⟨q, hq0, hq⟩ := hin i x hx
  obtain ⟨s, hsq⟩ := gx hq
  rcases hs with ⟨e0, -⟩ | ⟨bS, offS, csS, elS, gS, mdS, mateS, rfl, ⟨hbS, hhS⟩, hleS, hcS⟩
  ·rw [e0] at hq; simp at hq
  have hrs := hcS q s hsq
  have hr1 := sumF_range hz (l.take i)
  have hr2 := hz q s hsq
  refine .skip (.seq (.seq (.block (.region ?_))))
  iterate 4 refine .P ?_
  refine .K underlying47 sz132 ?_
  refine .F fa132_1 ?_
  refine .M ag3 (.base hh hb (by simp)) (cell_of_take hr (k := 1) rfl) ?_
  refine .as 19 (.int .i64 (Int.ofNat q)) rfl (congrArg (Value.int .i64) hq0) ?_
  refine .K underlying32 sz3 ?_
  refine .M ag3 (.base hhS hbS (by simp)) (cell_of_take hrs (k := 0) rfl) ?_
  refine .P ?_
  refine .as 22 (.int .i64 (sumF sz (l.take i) + s)) rfl (congrArg (Value.int .i64) (wr_small (by omega) (by omega))) ?_
  refine .min rfl rfl rfl rfl rfl rfl ?_
  refine .as 23 (.int .i64 (sumF sz (l.take (i + 1)))) rfl (congrArg (Value.int .i64) (by rw [sumF_succ hx, hq0, szAt_get hsq]; rfl)) ?_
  refine .P ?_
  refine .nil (.blk (.seq (.region (.P2 ?_))))
  refine .W 12 i ?_
  refine .P ?_
  refine .nil ?_
  exact .loop (i + 1) hlt (by omega) ⟨rfl, rfl, rfl, rfl, trivial⟩ (List.nil_sublist _)
 try simp only [nz] at ht10
 refine .exit (.seq (.loop (.here (.seq (.seq (.region (.P2 ?_)))))))
 refine .nil (.seq (.ret ?_))
 exact .end_ rfl rfl (fun m hm => ⟨congrArg (Value.int .i64) (by rw [List.take_of_length_le (by omega)]), hm.ext⟩)
end Go.Proofs.YtmfbljaemhpokaaGreatDoor
