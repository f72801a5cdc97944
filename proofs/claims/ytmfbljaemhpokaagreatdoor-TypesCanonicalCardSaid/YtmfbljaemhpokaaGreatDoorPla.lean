/-
  Plain laws of types. Conditions: none.
-/
import Derived.Test.YtmfbljaemhpokaaGreatDoorEng6
namespace Go.Proofs.YtmfbljaemhpokaaGreatDoor
open Go Go.Ab
set_option linter.unusedVariables false
set_option linter.unusedSimpArgs false
set_option linter.unusedSectionVars false
variable [Vals]
structure Fld where
 name : ByteArray
 type : Int
structure Arm where
 name : ByteArray
 fields : List Fld
structure Ty where
 kind : Int
 elems : List Int
 name : ByteArray
 fields : List Fld
 arms : List Arm
def RInt (n : Int) (cs : List Value) : Prop := cs = [.int .i64 n]
def RFld (f : Fld) (cs : List Value) : Prop := cs = [.string f.name, .int .i64 f.type]
def RArm (K : Kn) (a : Arm) (cs : List Value) : Prop := ∃ v, cs = [.string a.name, v] ∧ Sl K 2 RFld a.fields v
def RTy (K : Kn) (t : Ty) (cs : List Value) : Prop := ∃ ve vf va, cs = [.int .i64 t.kind, ve, .string t.name, vf, va] ∧ Sl K 1 RInt t.elems ve ∧ Sl K 2 RFld t.fields vf ∧ Sl K 2 (RArm K) t.arms va
theorem RArm.mono {K K' : Kn} (k : ∀ b o, K b o → K' b o) : ∀ x cs, RArm K x cs → RArm K' x cs := fun _ _ ⟨v, e, h⟩ => ⟨v, e, h.mono k fun _ _ h => h⟩
theorem RTy.mono {K K' : Kn} (k : ∀ b o, K b o → K' b o) : ∀ x cs, RTy K x cs → RTy K' x cs := fun _ _ ⟨ve, vf, va, e, h1, h2, h3⟩ => ⟨ve, vf, va, e, h1.mono k fun _ _ h => h, h2.mono k fun _ _ h => h, h3.mono k (RArm.mono k)⟩
theorem wr_succ {i : Nat} (h : i + 1 ≤ 9223372036854775807) : wr .i64 (Int.ofNat i + 1) = Int.ofNat (i + 1) := by
 show (bif Nat.ble (i + 1) 9223372036854775807 then Int.ofNat (i + 1) else _) = _
 rw [nble, decide_eq_true h]
 rfl
theorem all_of {α : Type} {l : List α} {p : α → Bool} (h : ∀ (j : Nat) x, j < l.length → l[j]? = some x → p x = true) : l.all p = true := by
 rw [List.all_eq_true]
 intro x hx
 obtain ⟨j, hj⟩ := List.getElem?_of_mem hx
 exact h j x (List.getElem?_eq_some_iff.1 hj).1 hj
theorem all_not {α : Type} {l : List α} {p : α → Bool} {i : Nat} {x : α} (hi : l[i]? = some x) (h : p x = false) : l.all p = false := by
 rw [List.all_eq_false]
 exact ⟨x, List.mem_of_getElem? hi, by rw [h]; decide⟩
theorem upto_succ {α : Type} {l : List α} {P : α → Prop} {i : Nat} {y : α} (h : ∀ (j : Nat) x, j < i → l[j]? = some x → P x) (hy : l[i]? = some y) (hP : P y) : ∀ (j : Nat) x, j < i + 1 → l[j]? = some x → P x := by
 intro j x hj hx
 by_cases e : j = i
 ·subst e
  rw [hy] at hx
  cases hx
  exact hP
 exact h j x (by omega) hx
def shapeP (k : Int) (n : Nat) : Prop := (k = 6 ∨ k = 7 ∨ k = 8 ∨ k = 9) ∧ n = 1 ∨ k = 11 ∧ 2 ≤ n ∨ k = 12 ∧ 1 ≤ n ∨ (k ≠ 6 ∧ k ≠ 7 ∧ k ≠ 8 ∧ k ≠ 9 ∧ k ≠ 11 ∧ k ≠ 12) ∧ n = 0
instance (k : Int) (n : Nat) : Decidable (shapeP k n) := inferInstanceAs (Decidable (_ ∨ _))
def shapedB (t : Ty) : Bool := decide (shapeP t.kind t.elems.length ∧ (t.fields.length = 0 ∨ t.kind = 10 ∨ t.kind = 13) ∧ (t.arms.length = 0 ∨ t.kind = 10))
def letterP (c : Nat) : Prop := 97 ≤ c ∧ c ≤ 122 ∨ 65 ≤ c ∧ c ≤ 90 ∨ c = 95
def charP (c : Nat) : Prop := letterP c ∨ 48 ≤ c ∧ c ≤ 57
instance (c : Nat) : Decidable (letterP c) := inferInstanceAs (Decidable (_ ∨ _))
instance (c : Nat) : Decidable (charP c) := inferInstanceAs (Decidable (_ ∨ _))
def shortB (l : List Fld) : Bool := decide (l.length ≤ 6) && l.all fun f => decide (f.name.size ≤ 50)
structure FewT (t : Ty) : Prop where
 elems : t.elems.length ≤ 6
 fields : t.fields.length ≤ 6
 arms : t.arms.length ≤ 6
 name : t.name.size ≤ 50
 fname : ∀ (j : Nat) (x : Fld), t.fields[j]? = some x → x.name.size ≤ 50
 aname : ∀ (j : Nat) (a : Arm), t.arms[j]? = some a → a.name.size ≤ 50
 afields : ∀ (j : Nat) (a : Arm), t.arms[j]? = some a → a.fields.length ≤ 6
 afname : ∀ (j : Nat) (a : Arm), t.arms[j]? = some a → ∀ (k : Nat) (x : Fld), a.fields[k]? = some x → x.name.size ≤ 50
def fstC (s : ByteArray) : UInt8 := s.data.toList.headD 0
theorem fst_get {s : ByteArray} (h : s.size ≠ 0) : s.data.toList[0]? = some (fstC s) := by
 cases s with | mk s => cases s with | mk s =>
  cases s with
  | nil => exact absurd rfl h
  | cons c l => rfl
def nameB (s : ByteArray) : Bool := decide (s.size ≠ 0 ∧ s.size ≤ 40 ∧ ¬ (48 ≤ (fstC s).toNat ∧ (fstC s).toNat ≤ 57)) && s.data.toList.all fun c => decide (charP c.toNat)
theorem map_cell {α : Type} {l : List α} {f : α → Value} {i : Nat} {x : α} (h : l[i]? = some x) : (l.map f)[0 + i * 1]? = some (f x) := by
 rw [Nat.zero_add, Nat.mul_one, List.getElem?_map, h]
 rfl
theorem byte_at {s : ByteArray} {i : Nat} (h : i < s.size) : ∃ x, s.data.toList[i]? = some x := ⟨_, List.getElem?_eq_getElem (by rw [size_eq]; exact h)⟩
def headB (t : Ty) : Bool := if t.kind = 10 ∨ t.kind = 13 then nameB t.name else if t.kind = 9 then decide (t.name.size = 0) || nameB t.name else decide (t.name.size = 0)
def armB (a : Arm) : Bool := nameB a.name && a.fields.all fun f => nameB f.name
def namedB (t : Ty) : Bool := headB t && (t.fields.all (fun f => nameB f.name) && t.arms.all armB)
theorem named_head {t : Ty} (h : headB t = false) : namedB t = false := by
 unfold namedB
 rw [h]
 rfl
theorem named_field {t : Ty} {i : Nat} {x : Fld} (hx : t.fields[i]? = some x) (h : nameB x.name = false) : namedB t = false := by
 unfold namedB
 rw [all_not hx h, Bool.false_and, Bool.and_false]
theorem named_arm {t : Ty} {i : Nat} {a : Arm} (hx : t.arms[i]? = some a) (h : nameB a.name = false) : namedB t = false := by
 unfold namedB
 rw [all_not hx (by unfold armB; rw [h]; rfl), Bool.and_false, Bool.and_false]
theorem named_afield {t : Ty} {i j : Nat} {a : Arm} {x : Fld} (hx : t.arms[i]? = some a) (hy : a.fields[j]? = some x) (h : nameB x.name = false) : namedB t = false := by
 unfold namedB
 rw [all_not hx (by unfold armB; rw [all_not hy h, Bool.and_false]), Bool.and_false, Bool.and_false]
theorem armB_of {a : Arm} (h : nameB a.name = true) (h2 : ∀ (j : Nat) (x : Fld), j < a.fields.length → a.fields[j]? = some x → nameB x.name = true) : armB a = true := by
 unfold armB
 rw [h, all_of h2]
 rfl
theorem namedB_of {t : Ty} (h : headB t = true) (h1 : ∀ (j : Nat) (x : Fld), j < t.fields.length → t.fields[j]? = some x → nameB x.name = true) (h2 : ∀ (j : Nat) (x : Arm), j < t.arms.length → t.arms[j]? = some x → armB x = true) : namedB t = true := by
 unfold namedB
 rw [h, all_of h1, all_of h2]
 rfl
def valueB (t : Ty) : Bool := decide (t.kind ≠ 0 ∧ t.kind ≠ 12 ∧ t.kind ≠ 14 ∧ (t.kind = 10 → t.arms.length = 0))
def dupB (l : List ByteArray) : Bool := !decide l.Nodup
theorem dup_yes {l : List ByteArray} {i j : Nat} {x : ByteArray} (hj : j < i) (h1 : l[i]? = some x) (h2 : l[j]? = some x) : dupB l = true := by
 unfold dupB
 rw [decide_eq_false]
 ·rfl
 intro hn
 have h3 := List.pairwise_iff_getElem.1 hn j i (List.getElem?_eq_some_iff.1 h2).1 (List.getElem?_eq_some_iff.1 h1).1 hj
 rw [(List.getElem?_eq_some_iff.1 h2).2, (List.getElem?_eq_some_iff.1 h1).2] at h3
 exact h3 rfl
def fnames (l : List Fld) : List ByteArray := l.map Fld.name
def anames (l : List Arm) : List ByteArray := l.map Arm.name
theorem fnames_get {l : List Fld} {i : Nat} {x : Fld} (h : l[i]? = some x) : (fnames l)[i]? = some x.name := by
 unfold fnames
 rw [List.getElem?_map, h]
 rfl
theorem anames_get {l : List Arm} {i : Nat} {x : Arm} (h : l[i]? = some x) : (anames l)[i]? = some x.name := by
 unfold anames
 rw [List.getElem?_map, h]
 rfl
theorem RFld.flats : ∀ x cs, RFld x cs → flats cs = true := by
 rintro x cs rfl
 rfl
theorem RInt.flats : ∀ x cs, RInt x cs → flats cs = true := by
 rintro x cs rfl
 rfl
def withL (t : Ty) (s : ByteArray) : Option (List Fld) := if s.size = 0 then some t.fields else (t.arms.find? fun a => decide (a.name = s)).map fun a => t.fields ++ a.fields
theorem with_empty {t : Ty} {s : ByteArray} (h : s.size = 0) : withL t s = some t.fields := by
 unfold withL
 rw [if_pos h]
theorem with_arm {t : Ty} {s : ByteArray} {i : Nat} {x : Arm} (h : s.size ≠ 0) (hx : t.arms[i]? = some x) (hb : ∀ (j : Nat) y, j < i → t.arms[j]? = some y → y.name ≠ s) (he : x.name = s) : withL t s = some (t.fields ++ x.fields) := by
 have hf : (t.arms.find? fun a => decide (a.name = s)) = some x := by
  refine List.find?_eq_some_iff_getElem.2 ⟨decide_eq_true he, i, (List.getElem?_eq_some_iff.1 hx).1, (List.getElem?_eq_some_iff.1 hx).2, fun j hj => ?_⟩
  have hjl : j < t.arms.length := Nat.lt_trans hj (List.getElem?_eq_some_iff.1 hx).1
  simpa using hb j _ hj (List.getElem?_eq_getElem hjl)
 unfold withL
 rw [if_neg h, hf]
 rfl
theorem with_none {t : Ty} {s : ByteArray} (h : s.size ≠ 0) (hb : ∀ (j : Nat) y, j < t.arms.length → t.arms[j]? = some y → y.name ≠ s) : withL t s = none := by
 unfold withL
 rw [if_neg h]
 have : (t.arms.find? fun a => decide (a.name = s)) = none := by
  rw [List.find?_eq_none]
  intro x hx
  obtain ⟨j, hj⟩ := List.getElem?_of_mem hx
  simpa using hb j x (List.getElem?_eq_some_iff.1 hj).1 hj
 rw [this]
 rfl
def Tight (K : Kn) (n : Nat) (v : Value) : Prop := n = 0 → v = .slice none 0 0 ∨ ∃ b, v = .slice (some ⟨b, 0, none⟩) 0 0 ∧ K b (.cells [] 132 false .plain none)
theorem Tight.mono {K K' : Kn} (k : ∀ b o, K b o → K' b o) {n : Nat} {v : Value} (h : Tight K n v) : Tight K' n v := fun e => (h e).imp id fun ⟨b, e1, e2⟩ => ⟨b, e1, k _ _ e2⟩
theorem Tight.gro {g : Gro} {n : Nat} {cs : List Value} (h : g.Ok n) : Tight (InH (g.H 132 cs)) n (g.V n) := fun e => by
 subst e
 cases g with
 | no => exact .inl rfl
 | emp b => exact .inr ⟨b, rfl, List.mem_cons_self⟩
 | one b => exact absurd h (Nat.lt_irrefl 0)
 | two b b0 old => exact absurd h (Nat.lt_irrefl 0)
def WithV (t : Ty) (s : ByteArray) (x : Hp × Value) : Value := .tuple ⟨[x.2, .bool (withL t s).isSome]⟩
def ArmA (K : Kn) (t : Ty) (s : ByteArray) (cs : List Value) (x : Hp × Value) : Prop := ∀ L, withL t s = some L → Sl (fun b o => InH x.1 b o ∨ K b o) 2 RFld L x.2 ∧ ∀ vf, cs[3]? = some vf → Tight K t.fields.length vf → Tight (fun b o => InH x.1 b o ∨ K b o) L.length x.2
theorem ArmA.of {K : Kn} {t : Ty} {s : ByteArray} {cs : List Value} {L : List Fld} {x : Hp × Value} (h : withL t s = some L) (hs : Sl (fun b o => InH x.1 b o ∨ K b o) 2 RFld L x.2) (ht : ∀ vf, cs[3]? = some vf → Tight K t.fields.length vf → Tight (fun b o => InH x.1 b o ∨ K b o) L.length x.2) : ArmA K t s cs x := fun L' h' => by
 rw [h] at h'
 cases h'
 exact ⟨hs, ht⟩
theorem arm_none_A {K : Kn} {t : Ty} {s : ByteArray} {cs : List Value} {x : Hp × Value} (h : withL t s = none) : ArmA K t s cs x := fun L hL => by rw [h] at hL; cases hL
theorem WithV.some {t : Ty} {s : ByteArray} {L : List Fld} {x : Hp × Value} (h : withL t s = some L) : Value.tuple ⟨[x.2, .bool true]⟩ = WithV t s x := by
 unfold WithV
 rw [h]
 rfl
theorem WithV.none {t : Ty} {s : ByteArray} {x : Hp × Value} (h : withL t s = none) : Value.tuple ⟨[x.2, .bool false]⟩ = WithV t s x := by
 unfold WithV
 rw [h]
 rfl
def twiceB (t : Ty) : Bool := dupB (fnames t.fields) || (dupB (anames t.arms) || t.arms.any fun a => dupB (fnames (t.fields ++ a.fields)))
theorem twice_fields {t : Ty} (h : dupB (fnames t.fields) = true) : twiceB t = true := by
 unfold twiceB
 rw [h]
 rfl
theorem twice_arms {t : Ty} (h : dupB (anames t.arms) = true) : twiceB t = true := by
 unfold twiceB
 rw [h]
 simp
theorem twice_arm {t : Ty} {i : Nat} {x : Arm} (hx : t.arms[i]? = some x) (h : dupB (fnames (t.fields ++ x.fields)) = true) : twiceB t = true := by
 unfold twiceB
 rw [show (t.arms.any fun a => dupB (fnames (t.fields ++ a.fields))) = true from List.any_eq_true.2 ⟨x, List.mem_of_getElem? hx, h⟩]
 simp
theorem twice_not {t : Ty} (h1 : dupB (fnames t.fields) = false) (h2 : dupB (anames t.arms) = false) (h3 : ∀ (j : Nat) x, j < t.arms.length → t.arms[j]? = some x → dupB (fnames (t.fields ++ x.fields)) = false) : twiceB t = false := by
 unfold twiceB
 rw [h1, h2, Bool.false_or, Bool.false_or, List.any_eq_false]
 intro x hx
 obtain ⟨j, hj⟩ := List.getElem?_of_mem hx
 rw [h3 j x (List.getElem?_eq_some_iff.1 hj).1 hj]
 decide
instance memDec (s : ByteArray) (S : List ByteArray) : Decidable (s ∈ S) := decidable_of_iff (∃ x ∈ S, s = x) (by simp)
def SetIs (l : List (ByteArray × Value)) (S : List ByteArray) : Prop := ∀ s, getP s l = if s ∈ S then some (.bool true) else none
theorem SetIs.nil : SetIs [] [] := fun s => by
 rw [if_neg (by simp)]
 rfl
theorem SetIs.look {l : List (ByteArray × Value)} {S : List ByteArray} (h : SetIs l S) (s : ByteArray) : (getP s l).getD (.bool false) = .bool (decide (s ∈ S)) := by
 rw [h s]
 by_cases hs : s ∈ S
 ·rw [if_pos hs, decide_eq_true hs]
  rfl
 rw [if_neg hs, decide_eq_false hs]
 rfl
theorem SetIs.put {l : List (ByteArray × Value)} {S : List ByteArray} (h : SetIs l S) (s : ByteArray) : SetIs (putP s (.bool true) l) (S ++ [s]) := fun u => by
 rw [getP_put, h u]
 by_cases hu : u = s
 ·rw [if_pos hu, if_pos (by simp [hu])]
 rw [if_neg hu]
 by_cases hS : u ∈ S
 ·rw [if_pos hS, if_pos (by simp [hS])]
 rw [if_neg hS, if_neg (by simp [hS, hu])]
theorem take_succ' {α : Type} {l : List α} {i : Nat} {x : α} (h : l[i]? = some x) : l.take (i + 1) = l.take i ++ [x] := by
 rw [List.take_add_one, h]
 rfl
theorem SetIs.put_take {l : List (ByteArray × Value)} {L : List ByteArray} {i : Nat} {s : ByteArray} (h : SetIs l (L.take i)) (hs : L[i]? = some s) : SetIs (putP s (.bool true) l) (L.take (i + 1)) := by
 rw [take_succ' hs]
 exact h.put s
theorem nodup_take {L : List ByteArray} {i : Nat} {s : ByteArray} (h : (L.take i).Nodup) (hs : L[i]? = some s) (hn : s ∉ L.take i) : (L.take (i + 1)).Nodup := by
 rw [take_succ' hs, List.nodup_append]
 refine ⟨h, by simp, fun a ha b hb => ?_⟩
 simp only [List.mem_singleton] at hb
 subst hb
 rintro rfl
 exact hn ha
theorem dup_mem {L : List ByteArray} {i : Nat} {s : ByteArray} (hs : L[i]? = some s) (h : s ∈ L.take i) : dupB L = true := by
 obtain ⟨j, hj⟩ := List.getElem?_of_mem h
 rw [List.getElem?_take] at hj
 split at hj
 ·rename_i hlt
  exact dup_yes hlt hs hj
 cases hj
theorem dup_nodup {L : List ByteArray} {i : Nat} (h : (L.take i).Nodup) (hi : L.length ≤ i) : dupB L = false := by
 rw [List.take_of_length_le hi] at h
 unfold dupB
 rw [decide_eq_true h]
 rfl
theorem fnames_append (a b : List Fld) : fnames (a ++ b) = fnames a ++ fnames b := List.map_append
theorem fnames_len (a : List Fld) : (fnames a).length = a.length := List.length_map ..
theorem anames_len (a : List Arm) : (anames a).length = a.length := List.length_map ..
theorem dup_app {A B : List ByteArray} {k : Nat} {s : ByteArray} (hs : B[k]? = some s) (h : s ∈ A ∨ s ∈ B.take k) : dupB (A ++ B) = true := by
 refine dup_mem (i := A.length + k) (s := s) ?_ ?_
 ·rw [List.getElem?_append_right (by omega)]
  simpa using hs
 rw [List.take_append, List.mem_append]
 rcases h with h | h
 ·left
  rw [List.take_of_length_le (by omega)]
  exact h
 right
 simpa using h
theorem nodup_app {A B : List ByteArray} {k : Nat} {s : ByteArray} (h : (A ++ B.take k).Nodup) (hs : B[k]? = some s) (h1 : s ∉ A) (h2 : s ∉ B.take k) : (A ++ B.take (k + 1)).Nodup := by
 rw [take_succ' hs, ← List.append_assoc, List.nodup_append]
 refine ⟨h, by simp, fun a ha b hb => ?_⟩
 simp only [List.mem_singleton] at hb
 subst hb
 rintro rfl
 rcases List.mem_append.1 ha with h | h
 ·exact h1 h
 exact h2 h
theorem dup_app_no {A B : List ByteArray} {k : Nat} (h : (A ++ B.take k).Nodup) (hk : B.length ≤ k) : dupB (A ++ B) = false := by
 rw [List.take_of_length_le hk] at h
 unfold dupB
 rw [decide_eq_true h]
 rfl
def ftypes (l : List Fld) : List Int := l.map Fld.type
def afields (l : List Arm) : List Fld := l.flatMap Arm.fields
def partsL (t : Ty) : List Int := t.elems ++ (ftypes t.fields ++ ftypes (afields t.arms))
def posA (t : Ty) (j : Nat) : Nat := t.elems.length + (t.fields.length + (afields (t.arms.take j)).length)
def pvs (t : Ty) : List (List Value) := (partsL t).map fun p => [.int .i64 p]
theorem pvs_get {t : Ty} {j : Nat} {p : Int} (h : (partsL t)[j]? = some p) : (pvs t)[j]? = some [.int .i64 p] := by
 unfold pvs
 rw [List.getElem?_map, h]
 rfl
theorem pvs_len (t : Ty) : (pvs t).length = (partsL t).length := List.length_map ..
theorem parts_elem {t : Ty} {i : Nat} {p : Int} (h : t.elems[i]? = some p) : (partsL t)[i]? = some p := by
 unfold partsL
 rw [List.getElem?_append_left (List.getElem?_eq_some_iff.1 h).1]
 exact h
theorem parts_field {t : Ty} {i : Nat} {x : Fld} (h : t.fields[i]? = some x) : (partsL t)[t.elems.length + i]? = some x.type := by
 have hi := (List.getElem?_eq_some_iff.1 h).1
 unfold partsL
 rw [List.getElem?_append_right (by omega), Nat.add_sub_cancel_left, List.getElem?_append_left (by unfold ftypes; rw [List.length_map]; exact hi)]
 unfold ftypes
 rw [List.getElem?_map, h]
 rfl
theorem afields_succ {l : List Arm} {j : Nat} {a : Arm} (h : l[j]? = some a) : afields (l.take (j + 1)) = afields (l.take j) ++ a.fields := by
 unfold afields
 rw [take_succ' h, List.flatMap_append]
 simp
theorem posA_succ {t : Ty} {j : Nat} {a : Arm} (h : t.arms[j]? = some a) : posA t (j + 1) = posA t j + a.fields.length := by
 unfold posA
 rw [afields_succ h, List.length_append]
 omega
theorem posA_end (t : Ty) : posA t t.arms.length = (partsL t).length := by
 unfold posA partsL ftypes
 rw [List.take_length]
 simp
theorem posA_zero (t : Ty) : posA t 0 = t.elems.length + t.fields.length := by
 unfold posA afields
 simp
theorem afields_get {l : List Arm} {j k : Nat} {a : Arm} {x : Fld} (h : l[j]? = some a) (hx : a.fields[k]? = some x) : (afields l)[(afields (l.take j)).length + k]? = some x := by
 have h1 : afields l = afields (l.take j) ++ (a.fields ++ afields (l.drop (j + 1))) := by
  have h2 : l = l.take j ++ (a :: l.drop (j + 1)) := by
   have hlt := (List.getElem?_eq_some_iff.1 h).1
   have := (List.getElem?_eq_some_iff.1 h).2
   rw [← this, ← List.drop_eq_getElem_cons hlt, List.take_append_drop]
  conv => lhs; rw [h2]
  unfold afields
  rw [List.flatMap_append, List.flatMap_cons]
 rw [h1, List.getElem?_append_right (by omega), Nat.add_sub_cancel_left, List.getElem?_append_left (List.getElem?_eq_some_iff.1 hx).1]
 exact hx
theorem parts_arm {t : Ty} {j k : Nat} {a : Arm} {x : Fld} (h : t.arms[j]? = some a) (hx : a.fields[k]? = some x) : (partsL t)[posA t j + k]? = some x.type := by
 have h1 := afields_get h hx
 have h2 := (List.getElem?_eq_some_iff.1 h1).1
 unfold partsL posA
 rw [List.getElem?_append_right (by omega), show t.elems.length + (t.fields.length + (afields (t.arms.take j)).length) + k - t.elems.length = t.fields.length + ((afields (t.arms.take j)).length + k) by omega, List.getElem?_append_right (by unfold ftypes; rw [List.length_map]; omega)]
 unfold ftypes
 rw [List.length_map, Nat.add_sub_cancel_left, List.getElem?_map, h1]
 rfl
theorem pvs_inv {t : Ty} {j : Nat} {v : List Value} (h : (pvs t)[j]? = some v) : ∃ p, (partsL t)[j]? = some p ∧ v = [.int .i64 p] := by
 unfold pvs at h
 rw [List.getElem?_map] at h
 cases hp : (partsL t)[j]? with
 | none => rw [hp] at h; cases h
 | some p => rw [hp] at h; cases h; exact ⟨p, rfl, rfl⟩
theorem pvs_mem {t : Ty} {v : List Value} (h : v ∈ pvs t) : ∃ p, v = [.int .i64 p] := by
 obtain ⟨j, hj⟩ := List.getElem?_of_mem h
 obtain ⟨p, _, e⟩ := pvs_inv hj
 exact ⟨p, e⟩
def badB (n : Nat) (t : Ty) : Bool := (partsL t).any fun p => decide (p < 0 ∨ (n : Int) ≤ p)
theorem bad_yes {n : Nat} {t : Ty} {j : Nat} {p : Int} (hp : (partsL t)[j]? = some p) (h : p < 0 ∨ (n : Int) ≤ p) : badB n t = true := List.any_eq_true.2 ⟨p, List.mem_of_getElem? hp, decide_eq_true h⟩
theorem bad_no {n : Nat} {t : Ty} (h : ∀ (j : Nat) (p : Int), j < (partsL t).length → (partsL t)[j]? = some p → ¬ (p < 0 ∨ (n : Int) ≤ p)) : badB n t = false := by
 unfold badB
 rw [List.any_eq_false]
 intro p hp
 obtain ⟨j, hj⟩ := List.getElem?_of_mem hp
 simpa using h j p (List.getElem?_eq_some_iff.1 hj).1 hj
def singleE (n : Nat) (t : Ty) : Int := if t.kind < 0 ∨ 14 < t.kind then 13 else if shapedB t = false then 14 else if badB n t = true then 11 else if namedB t = false then 8 else if twiceB t = true then 5 else 0
def allN (f : Nat → Bool) : Nat → Bool
 | 0 => true
 | n + 1 => allN f n && f n
theorem allN_succ (f : Nat → Bool) (n : Nat) : allN f (n + 1) = (allN f n && f n) := rfl
def kindAt (l : List Ty) (p : Int) : Int := match l[p.toNat]? with
 | some a => a.kind
 | none => -1
def valAt (l : List Ty) (p : Int) : Bool := match l[p.toNat]? with
 | some a => valueB a
 | none => false
theorem kindAt_get {l : List Ty} {q : Nat} {a : Ty} (h : l[q]? = some a) : kindAt l (Int.ofNat q) = a.kind := by
 unfold kindAt
 rw [show (Int.ofNat q).toNat = q from rfl, h]
theorem valAt_get {l : List Ty} {q : Nat} {a : Ty} (h : l[q]? = some a) : valAt l (Int.ofNat q) = valueB a := by
 unfold valAt
 rw [show (Int.ofNat q).toNat = q from rfl, h]
theorem parts_in {n : Nat} {t : Ty} {j : Nat} {p : Int} (hb : badB n t = false) (hp : (partsL t)[j]? = some p) : ∃ q : Nat, p = Int.ofNat q ∧ q < n := by
 unfold badB at hb
 rw [List.any_eq_false] at hb
 have := hb p (List.mem_of_getElem? hp)
 simp only [decide_eq_true_eq] at this
 refine ⟨p.toNat, ?_, ?_⟩
 ·show p = ((p.toNat : Nat) : Int)
  omega
 omega
def modF (l : List Ty) (t : Ty) (i : Nat) : Bool := match t.fields[i]? with
 | some x => decide (kindAt l x.type = 12)
 | none => true
def fnF (l : List Ty) (t : Ty) (i : Nat) : Bool := match t.elems[i]? with
 | some p => valAt l p || (decide (i + 1 = t.elems.length) && decide (kindAt l p = 0))
 | none => true
def partF (l : List Ty) (t : Ty) (i : Nat) : Bool := match (partsL t)[i]? with
 | some p => valAt l p
 | none => true
def fitE (l : List Ty) (t : Ty) : Int :=
 if t.kind = 9 then match t.elems[0]? with
  | some p => match l[p.toNat]? with
   | some a => if a.kind ≠ 10 then 7 else if (withL a t.name).isSome = true then 0 else 4
   | none => 7
  | none => 7
 else if t.kind = 13 then (if allN (modF l t) t.fields.length = true then 0 else 7)
 else if t.kind = 12 then (if allN (fnF l t) t.elems.length = true then 0 else 7)
 else (if allN (partF l t) (partsL t).length = true then 0 else 7)
theorem fit_ref {l : List Ty} {t a : Ty} {q : Nat} (hk : t.kind = 9) (hp : t.elems[0]? = some (Int.ofNat q)) (ha : l[q]? = some a) : fitE l t = if a.kind ≠ 10 then 7 else if (withL a t.name).isSome = true then 0 else 4 := by
 unfold fitE
 rw [if_pos hk, hp]
 simp only [show (Int.ofNat q).toNat = q from rfl, ha]
theorem fit_mod {l : List Ty} {t : Ty} (h1 : t.kind ≠ 9) (hk : t.kind = 13) : fitE l t = if allN (modF l t) t.fields.length = true then 0 else 7 := by
 unfold fitE
 rw [if_neg h1, if_pos hk]
theorem fit_fn {l : List Ty} {t : Ty} (h1 : t.kind ≠ 9) (h2 : t.kind ≠ 13) (hk : t.kind = 12) : fitE l t = if allN (fnF l t) t.elems.length = true then 0 else 7 := by
 unfold fitE
 rw [if_neg h1, if_neg h2, if_pos hk]
theorem fit_else {l : List Ty} {t : Ty} (h1 : t.kind ≠ 9) (h2 : t.kind ≠ 13) (h3 : t.kind ≠ 12) : fitE l t = if allN (partF l t) (partsL t).length = true then 0 else 7 := by
 unfold fitE
 rw [if_neg h1, if_neg h2, if_neg h3]
theorem wr_pred {n : Nat} (h0 : 0 < n) (h : n ≤ 9223372036854775807) : wr .i64 (Int.ofNat n - 1) = Int.ofNat (n - 1) := by
 rw [show Int.ofNat n - 1 = Int.ofNat (n - 1) by show (n : Int) - 1 = ((n - 1 : Nat) : Int); omega]
 show (bif Nat.ble (n - 1) 9223372036854775807 then Int.ofNat (n - 1) else _) = _
 rw [nble, decide_eq_true (by omega)]
 rfl
theorem allN_false {f : Nat → Bool} : ∀ {n i : Nat}, i < n → f i = false → allN f n = false
 | 0, _, h, _ => absurd h (Nat.not_lt_zero _)
 | n + 1, i, h, hf => by
  rw [allN_succ]
  by_cases e : i = n
  ·subst e
   rw [hf, Bool.and_false]
  rw [allN_false (by omega) hf, Bool.false_and]
def fewAB (a : Arm) : Bool := decide (a.name.size ≤ 50) && shortB a.fields
def fewTB (t : Ty) : Bool := decide (t.elems.length ≤ 6 ∧ t.arms.length ≤ 6 ∧ t.name.size ≤ 50) && (shortB t.fields && t.arms.all fewAB)
def fewB (l : List Ty) : Bool := decide (l.length ≤ 14) && l.all fewTB
theorem few_not {l : List Ty} {i : Nat} {x : Ty} (hx : l[i]? = some x) (h : fewTB x = false) : fewB l = false := by
 unfold fewB
 rw [all_not hx h, Bool.and_false]
theorem few_yes {l : List Ty} (h : l.length ≤ 14) (h2 : ∀ (j : Nat) x, j < l.length → l[j]? = some x → fewTB x = true) : fewB l = true := by
 unfold fewB
 rw [decide_eq_true h, all_of h2]
 rfl
theorem fewT_arm {t : Ty} {i : Nat} {y : Arm} (hy : t.arms[i]? = some y) (h : fewAB y = false) : fewTB t = false := by
 unfold fewTB
 rw [all_not hy h, Bool.and_false, Bool.and_false]
theorem fewT_yes {t : Ty} (h : t.elems.length ≤ 6 ∧ t.arms.length ≤ 6 ∧ t.name.size ≤ 50) (hs : shortB t.fields = true) (ha : ∀ (j : Nat) y, j < t.arms.length → t.arms[j]? = some y → fewAB y = true) : fewTB t = true := by
 unfold fewTB
 rw [decide_eq_true h, hs, all_of ha]
 rfl
theorem short_len {l : List Fld} (h : shortB l = true) : l.length ≤ 6 ∧ ∀ (j : Nat) (x : Fld), l[j]? = some x → x.name.size ≤ 50 := by
 unfold shortB at h
 rw [Bool.and_eq_true] at h
 exact ⟨of_decide_eq_true h.1, fun j x hx => of_decide_eq_true (List.all_eq_true.1 h.2 x (List.mem_of_getElem? hx))⟩
theorem fewT_of {t : Ty} (h : fewTB t = true) : FewT t := by
 unfold fewTB at h
 rw [Bool.and_eq_true, Bool.and_eq_true] at h
 obtain ⟨h1, h2, h3⟩ := h
 obtain ⟨g1, g2, g3⟩ := of_decide_eq_true h1
 obtain ⟨s1, s2⟩ := short_len h2
 have key : ∀ (j : Nat) (a : Arm), t.arms[j]? = some a → a.name.size ≤ 50 ∧ shortB a.fields = true := fun j a ha => by
  have := List.all_eq_true.1 h3 a (List.mem_of_getElem? ha)
  unfold fewAB at this
  rw [Bool.and_eq_true] at this
  exact ⟨of_decide_eq_true this.1, this.2⟩
 exact ⟨g1, s1, g2, g3, s2, fun j a ha => (key j a ha).1, fun j a ha => (short_len (key j a ha).2).1, fun j a ha => (short_len (key j a ha).2).2⟩
theorem few_all {l : List Ty} (h : fewB l = true) : l.length ≤ 14 ∧ ∀ (i : Nat) (a : Ty), l[i]? = some a → FewT a := by
 unfold fewB at h
 rw [Bool.and_eq_true] at h
 exact ⟨of_decide_eq_true h.1, fun i a ha => fewT_of (List.all_eq_true.1 h.2 a (List.mem_of_getElem? ha))⟩
def cap257 (a : Int) : Int := if 257 < a then 257 else a
def szAt (sz : List Int) (p : Int) : Int := (sz[p.toNat]?).getD 0
def sumF (sz : List Int) (l : List Fld) : Int := l.foldl (fun n f => cap257 (n + szAt sz f.type)) 0
def SzOk (sz : List Int) : Prop := ∀ (j : Nat) (s : Int), sz[j]? = some s → 0 ≤ s ∧ s ≤ 257
theorem sumF_succ {sz : List Int} {l : List Fld} {i : Nat} {x : Fld} (h : l[i]? = some x) : sumF sz (l.take (i + 1)) = cap257 (sumF sz (l.take i) + szAt sz x.type) := by
 unfold sumF
 rw [take_succ' h, List.foldl_append]
 rfl
theorem cap_range {a : Int} (h : 0 ≤ a) : 0 ≤ cap257 a ∧ cap257 a ≤ 257 := by
 unfold cap257
 split <;> omega
theorem szAt_range {sz : List Int} (h : SzOk sz) (p : Int) : 0 ≤ szAt sz p ∧ szAt sz p ≤ 257 := by
 unfold szAt
 cases hp : sz[p.toNat]? with
 | none => exact ⟨Int.le_refl _, by decide⟩
 | some s => exact h _ s hp
theorem sumF_range {sz : List Int} (h : SzOk sz) (l : List Fld) : 0 ≤ sumF sz l ∧ sumF sz l ≤ 257 := by
 unfold sumF
 have key : ∀ (l : List Fld) (n : Int), 0 ≤ n → n ≤ 257 → 0 ≤ l.foldl (fun n f => cap257 (n + szAt sz f.type)) n ∧ l.foldl (fun n f => cap257 (n + szAt sz f.type)) n ≤ 257 := by
  intro l
  induction l with
  | nil => exact fun n h1 h2 => ⟨h1, h2⟩
  | cons f l ih =>
   intro n h1 h2
   have h3 := szAt_range h f.type
   have h4 := cap_range (a := n + szAt sz f.type) (by omega)
   exact ih _ h4.1 h4.2
 exact key l 0 (by decide) (by decide)
theorem wr_small {n : Int} (h1 : 0 ≤ n) (h2 : n ≤ 1000000) : wr .i64 n = n := by
 obtain ⟨k, rfl⟩ := Int.eq_ofNat_of_zero_le h1
 show (bif Nat.ble k 9223372036854775807 then Int.ofNat k else _) = _
 rw [nble, decide_eq_true (by omega)]
 rfl
theorem szAt_get {sz : List Int} {q : Nat} {s : Int} (h : sz[q]? = some s) : szAt sz (Int.ofNat q) = s := by
 unfold szAt
 rw [show (Int.ofNat q).toNat = q from rfl, h]
 rfl
end Go.Proofs.YtmfbljaemhpokaaGreatDoor
