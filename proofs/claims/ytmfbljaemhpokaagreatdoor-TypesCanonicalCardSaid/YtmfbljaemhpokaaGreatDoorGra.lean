/-
  Plain laws of tables. Conditions: none.
-/
import Derived.Test.YtmfbljaemhpokaaGreatDoorPla
namespace Go.Proofs.YtmfbljaemhpokaaGreatDoor
open Go Go.Ab
set_option linter.unusedVariables false
set_option linter.unusedSimpArgs false
set_option linter.unusedSectionVars false
variable [Vals]
def Edge (l : List Ty) (u v : Nat) : Prop := ∃ t, l[u]? = some t ∧ t.kind ≠ 9 ∧ Int.ofNat v ∈ partsL t
inductive Path (l : List Ty) : Nat → Nat → Prop where
 | one {u v : Nat} : Edge l u v → Path l u v
 | cons {u v w : Nat} : Edge l u v → Path l v w → Path l u w
theorem Path.trans {l : List Ty} {u v w : Nat} (h : Path l u v) (k : Path l v w) : Path l u w := by
 induction h with
 | one e => exact .cons e k
 | cons e _ ih => exact .cons e (ih k)
def Cyc (l : List Ty) : Prop := ∃ u, Path l u u
def Ranked (l : List Ty) (r : Nat → Nat) : Prop := ∀ u v, Edge l u v → r v < r u
theorem Ranked.path {l : List Ty} {r : Nat → Nat} (h : Ranked l r) {u v : Nat} (p : Path l u v) : r v < r u := by
 induction p with
 | one e => exact h _ _ e
 | cons e _ ih => exact Nat.lt_trans ih (h _ _ e)
theorem Ranked.no_cyc {l : List Ty} {r : Nat → Nat} (h : Ranked l r) : ¬ Cyc l := fun ⟨_, p⟩ => Nat.lt_irrefl _ (h.path p)
def Dfs (l : List Ty) (st : List Int) : Prop := ∃ r : Nat → Nat, ∀ u v, st[u]? = some 2 → Edge l u v → st[v]? = some 2 ∧ r v < r u
def maxR (r : Nat → Nat) : Nat → Nat
 | 0 => 0
 | n + 1 => max (maxR r n) (r n)
theorem le_maxR (r : Nat → Nat) : ∀ {n v : Nat}, v < n → r v ≤ maxR r n
 | 0, _, h => absurd h (Nat.not_lt_zero _)
 | n + 1, v, h => by
  unfold maxR
  by_cases e : v = n
  ·subst e
   exact Nat.le_max_right _ _
  exact Nat.le_trans (le_maxR r (by omega)) (Nat.le_max_left _ _)
theorem Dfs.done {l : List Ty} {st : List Int} {t : Nat} (h : Dfs l st) (ht : st[t]? = some 1) (hs : ∀ v, Edge l t v → st[v]? = some 2) : Dfs l (st.set t 2) := by
 obtain ⟨r, hr⟩ := h
 have htl : t < st.length := (List.getElem?_eq_some_iff.1 ht).1
 refine ⟨fun u => if u = t then maxR r st.length + 1 else r u, fun u v hu he => ?_⟩
 have hget : ∀ x, (st.set t 2)[x]? = some 2 ↔ x = t ∨ st[x]? = some 2 := fun x => by
  rw [List.getElem?_set]
  by_cases e : t = x
  ·subst e
   simp [htl]
  have : ¬ x = t := fun h => e h.symm
  simp [e, this]
 rw [hget] at hu
 rw [hget]
 by_cases e : u = t
 ·subst e
  have hv := hs v he
  have hvl : v < st.length := (List.getElem?_eq_some_iff.1 hv).1
  have hne : v ≠ u := fun h => by
   subst h
   rw [ht] at hv
   cases hv
  refine ⟨.inr hv, ?_⟩
  show (if v = u then maxR r st.length + 1 else r v) < (if u = u then maxR r st.length + 1 else r u)
  rw [if_neg hne, if_pos rfl]
  have := le_maxR r hvl
  omega
 have hu2 : st[u]? = some 2 := hu.resolve_left e
 obtain ⟨h1, h2⟩ := hr u v hu2 he
 have hne : v ≠ t := fun h => by
  subst h
  rw [ht] at h1
  cases h1
 refine ⟨.inr h1, ?_⟩
 show (if v = t then maxR r st.length + 1 else r v) < (if u = t then maxR r st.length + 1 else r u)
 rw [if_neg hne, if_neg e]
 exact h2
theorem Dfs.ranked {l : List Ty} {st : List Int} (h : Dfs l st) (hall : ∀ u, u < l.length → st[u]? = some 2) : ∃ r, Ranked l r := by
 obtain ⟨r, hr⟩ := h
 refine ⟨r, fun u v he => ?_⟩
 have ⟨t, ht, _⟩ := he
 exact (hr u v (hall u (List.getElem?_eq_some_iff.1 ht).1) he).2
structure Vis (st st' : List Int) : Prop where
 len : st'.length = st.length
 grey : ∀ u : Nat, st'[u]? = some 1 ↔ st[u]? = some 1
 done : ∀ u : Nat, st[u]? = some 2 → st'[u]? = some 2
theorem Vis.refl (st : List Int) : Vis st st := ⟨rfl, fun _ => Iff.rfl, fun _ h => h⟩
theorem Vis.trans {a b c : List Int} (h : Vis a b) (k : Vis b c) : Vis a c := ⟨k.len.trans h.len, fun u => (k.grey u).trans (h.grey u), fun u hu => k.done u (h.done u hu)⟩
def white (st : List Int) : Nat := (st.filter fun x => decide (x = 0)).length
theorem white_set {st : List Int} {t : Nat} (h : st[t]? = some 0) : white (st.set t 1) + 1 = white st := by
 unfold white
 induction st generalizing t with
 | nil => simp at h
 | cons a st ih =>
  cases t with
  | zero =>
   simp only [List.getElem?_cons_zero, Option.some.injEq] at h
   subst h
   simp
  | succ t =>
   simp only [List.getElem?_cons_succ] at h
   have := ih h
   rw [List.set_cons_succ]
   by_cases ha : a = 0
   ·simp [ha]
    omega
   simp [ha]
   omega
abbrev ptr (b : Nat) : Value := .pointer (some ⟨b, 0, none⟩)
structure VisPre (l : List Ty) (al : Option Addr) (cl bs bl bv bb : Nat) (m : AW) : Prop where
 hbs : Off [bb] m bs (.cells [.slice (some ⟨bb, 0, none⟩) l.length l.length] 32 false .plain none)
 hbl : Off [bb] m bl (.cells [.slice al l.length cl] 22 false .plain none)
 hbv : Off [bb] m bv (.cells [.func (.func 98) ⟨[]⟩ ⟨[ptr bs, ptr bl, ptr bv]⟩] 96 false .plain none)
 hlS : Sl (Off [bb] m) 5 (RTy (Off [bb] m)) l (.slice al l.length cl)
theorem VisPre.mono {l : List Ty} {al : Option Addr} {cl bs bl bv bb : Nat} {m m' : AW} (h : VisPre l al cl bs bl bv bb m) (k : ∀ b o, Off [bb] m b o → Off [bb] m' b o) : VisPre l al cl bs bl bv bb m' :=
 ⟨k _ _ h.hbs, k _ _ h.hbl, k _ _ h.hbv, h.hlS.mono k (RTy.mono k)⟩
def ints (st : List Int) : List Value := st.map (Value.int .i64)
structure VisSt (l : List Ty) (st : List Int) (t : Nat) : Prop where
 len : st.length = l.length
 ht : t < l.length
 dfs : Dfs l st
 grey : ∀ g : Nat, st[g]? = some 1 → Path l g t
 vals : ∀ (u : Nat) (s : Int), st[u]? = some s → s = 0 ∨ s = 1 ∨ s = 2
def VisA (l : List Ty) (st : List Int) (t : Nat) (z : Bool × List Int) : Prop := (z.1 = true → Cyc l) ∧ (z.1 = false → Vis st z.2 ∧ z.2[t]? = some 2 ∧ Dfs l z.2 ∧ ∀ (u : Nat) (s : Int), z.2[u]? = some s → s = 0 ∨ s = 1 ∨ s = 2)
def Sound8 (l : List Ty) : Prop := ∀ (i : Nat) (a : Ty), l[i]? = some a → badB l.length a = false
theorem Edge.lt2 {l : List Ty} {u v : Nat} (hb : Sound8 l) (h : Edge l u v) : v < l.length := by
 obtain ⟨t, ht, _, hv⟩ := h
 obtain ⟨j, hj⟩ := List.getElem?_of_mem hv
 obtain ⟨q, hq, hlt⟩ := parts_in (hb u t ht) hj
 cases hq
 exact hlt
theorem filter_le {p q : Nat → Bool} (h : ∀ x, p x = true → q x = true) : ∀ L : List Nat, (L.filter p).length ≤ (L.filter q).length
 | [] => Nat.le_refl _
 | x :: L => by
  have ih := filter_le h L
  rw [List.filter_cons, List.filter_cons]
  cases hp : p x with
  | true =>
   rw [h x hp]
   simpa using ih
  | false =>
   cases hq : q x with
   | true =>
    simp only [Bool.false_eq_true, if_false, if_true, List.length_cons]
    omega
   | false => simpa using ih
theorem filter_lt {p q : Nat → Bool} (h : ∀ x, p x = true → q x = true) {y : Nat} (h1 : p y = false) (h2 : q y = true) : ∀ L : List Nat, y ∈ L → (L.filter p).length < (L.filter q).length
 | [], hy => by cases hy
 | x :: L, hy => by
  have hle := filter_le h L
  rw [List.filter_cons, List.filter_cons]
  rcases List.mem_cons.1 hy with e | hy
  ·subst e
   rw [h1, h2]
   simp only [Bool.false_eq_true, if_false, if_true, List.length_cons]
   omega
  have ih := filter_lt h h1 h2 L hy
  cases hp : p x with
  | true =>
   rw [h x hp]
   simpa using ih
  | false =>
   cases hq : q x with
   | true =>
    simp only [Bool.false_eq_true, if_false, if_true, List.length_cons]
    omega
   | false => simpa using ih
theorem Ranked.small {l : List Ty} {r : Nat → Nat} (hb : Sound8 l) (h : Ranked l r) : ∃ r', Ranked l r' ∧ ∀ u, r' u ≤ l.length := by
 refine ⟨fun u => ((List.range l.length).filter fun v => decide (r v < r u)).length, fun u v e => ?_, fun u => ?_⟩
 ·have h1 := h u v e
  refine filter_lt (fun x hx => ?_) (y := v) (by simp) (by simpa using h1) _ (List.mem_range.2 (e.lt2 hb))
  simp only [decide_eq_true_eq] at hx ⊢
  omega
 have := List.length_filter_le (fun v => decide (r v < r u)) (List.range l.length)
 rwa [List.length_range] at this
def foldS (sz : List Int) (l : List Int) : Int := l.foldl (fun n p => cap257 (n + szAt sz p)) 0
def szStep (sz : List Int) (t : Ty) : Int := if t.kind = 0 ∨ t.kind = 12 ∨ t.kind = 14 then 0 else if t.kind = 11 then foldS sz t.elems else if t.kind = 10 then cap257 ((if 0 < t.arms.length then 1 else 0) + sumF sz t.fields) else 1
structure SzFix (l : List Ty) (sz : List Int) : Prop where
 len : sz.length = l.length
 fix_ : ∀ (u : Nat) (t : Ty), l[u]? = some t → sz[u]? = some (szStep sz t)
 ok : SzOk sz
theorem foldS_succ {sz : List Int} {l : List Int} {i : Nat} {x : Int} (h : l[i]? = some x) : foldS sz (l.take (i + 1)) = cap257 (foldS sz (l.take i) + szAt sz x) := by
 unfold foldS
 rw [take_succ' h, List.foldl_append]
 rfl
theorem foldS_range {sz : List Int} (h : SzOk sz) (l : List Int) : 0 ≤ foldS sz l ∧ foldS sz l ≤ 257 := by
 unfold foldS
 have key : ∀ (l : List Int) (n : Int), 0 ≤ n → n ≤ 257 → 0 ≤ l.foldl (fun n p => cap257 (n + szAt sz p)) n ∧ l.foldl (fun n p => cap257 (n + szAt sz p)) n ≤ 257 := by
  intro l
  induction l with
  | nil => exact fun n h1 h2 => ⟨h1, h2⟩
  | cons f l ih =>
   intro n h1 h2
   have h3 := szAt_range h f
   have h4 := cap_range (a := n + szAt sz f) (by omega)
   exact ih _ h4.1 h4.2
 exact key l 0 (by decide) (by decide)
theorem szStep_range {sz : List Int} (h : SzOk sz) (t : Ty) : 0 ≤ szStep sz t ∧ szStep sz t ≤ 257 := by
 have h1 := foldS_range h t.elems
 have h2 := sumF_range h t.fields
 unfold szStep
 split
 ·exact ⟨by decide, by decide⟩
 split
 ·exact h1
 split
 ·exact cap_range (by split <;> omega)
 exact ⟨by decide, by decide⟩
theorem foldS_congr {sz sz' : List Int} : ∀ {l : List Int}, (∀ p, p ∈ l → szAt sz p = szAt sz' p) → foldS sz l = foldS sz' l := by
 intro l h
 unfold foldS
 have key : ∀ (l : List Int) (n : Int), (∀ p, p ∈ l → szAt sz p = szAt sz' p) → l.foldl (fun n p => cap257 (n + szAt sz p)) n = l.foldl (fun n p => cap257 (n + szAt sz' p)) n := by
  intro l
  induction l with
  | nil => exact fun _ _ => rfl
  | cons f l ih =>
   intro n h
   rw [List.foldl_cons, List.foldl_cons, h f List.mem_cons_self]
   exact ih _ fun p hp => h p (List.mem_cons_of_mem _ hp)
 exact key l 0 h
theorem sumF_foldS (sz : List Int) (l : List Fld) : sumF sz l = foldS sz (ftypes l) := by
 unfold sumF foldS ftypes
 rw [List.foldl_map]
theorem parts_elems {t : Ty} {p : Int} (h : p ∈ t.elems) : p ∈ partsL t := List.mem_append_left _ h
theorem parts_fields {t : Ty} {p : Int} (h : p ∈ ftypes t.fields) : p ∈ partsL t := List.mem_append_right _ (List.mem_append_left _ h)
theorem szStep_congr {sz sz' : List Int} {t : Ty} (h : t.kind ≠ 9 → ∀ p, p ∈ partsL t → szAt sz p = szAt sz' p) : szStep sz t = szStep sz' t := by
 unfold szStep
 split
 ·rfl
 split
 ·rename_i hk
  exact foldS_congr fun p hp => h (by omega) p (parts_elems hp)
 split
 ·rename_i hk
  rw [sumF_foldS, sumF_foldS, foldS_congr fun p hp => h (by omega) p (parts_fields hp)]
 rfl
def passN (l : List Ty) : Nat → List Int
 | 0 => l.map fun _ => 0
 | k + 1 => l.map (szStep (passN l k))
theorem passN_get {l : List Ty} {u : Nat} {t : Ty} (h : l[u]? = some t) (k : Nat) : (passN l (k + 1))[u]? = some (szStep (passN l k) t) := by
 show (l.map (szStep (passN l k)))[u]? = _
 rw [List.getElem?_map, h]
 rfl
theorem passN_ok (l : List Ty) : ∀ k, SzOk (passN l k)
 | 0 => fun j s hs => by
  unfold passN at hs
  rw [List.getElem?_map] at hs
  cases hj : l[j]? with
  | none => rw [hj] at hs; cases hs
  | some a => rw [hj] at hs; cases hs; exact ⟨Int.le_refl 0, by show (0 : Int) ≤ 257; decide⟩
 | k + 1 => fun j s hs => by
  unfold passN at hs
  rw [List.getElem?_map] at hs
  cases hj : l[j]? with
  | none => rw [hj] at hs; cases hs
  | some a => rw [hj] at hs; cases hs; exact szStep_range (passN_ok l k) a
theorem szAt_edge {l : List Ty} {u : Nat} {t : Ty} {sz sz' : List Int} (hb : Sound8 l) (ht : l[u]? = some t) (h : ∀ v, Edge l u v → sz[v]? = sz'[v]?) : szStep sz t = szStep sz' t := by
 refine szStep_congr fun hk p hp => ?_
 obtain ⟨j, hj⟩ := List.getElem?_of_mem hp
 obtain ⟨q, rfl, hlt⟩ := parts_in (hb u t ht) hj
 unfold szAt
 rw [show (Int.ofNat q).toNat = q from rfl, h q ⟨t, ht, hk, hp⟩]
theorem passN_stable {l : List Ty} {r : Nat → Nat} (hb : Sound8 l) (hr : Ranked l r) : ∀ (k : Nat) (u : Nat), r u < k → (passN l (k + 1))[u]? = (passN l k)[u]?
 | 0, _, h => absurd h (Nat.not_lt_zero _)
 | k + 1, u, h => by
  cases ht : l[u]? with
  | none =>
   show (l.map (szStep (passN l (k + 1))))[u]? = (l.map (szStep (passN l k)))[u]?
   rw [List.getElem?_map, List.getElem?_map, ht]
   rfl
  | some t =>
   rw [passN_get ht, passN_get ht]
   congr 1
   refine szAt_edge hb ht fun v hv => ?_
   have := hr u v hv
   exact passN_stable hb hr k v (by omega)
theorem SzFix.exists_ {l : List Ty} {r : Nat → Nat} (hb : Sound8 l) (hr : Ranked l r) : ∃ sz, SzFix l sz := by
 obtain ⟨r', h1, h2⟩ := hr.small hb
 refine ⟨passN l (l.length + 1), by unfold passN; rw [List.length_map], fun u t ht => ?_, passN_ok _ _⟩
 rw [← passN_stable hb h1 (l.length + 1) u (by have := h2 u; omega)]
 exact passN_get ht _
abbrev Rows := List (Nat × List Bool)
def Vals3 (st : List Int) : Prop := ∀ (u : Nat) (s : Int), st[u]? = some s → s = 0 ∨ s = 1 ∨ s = 2
theorem white_le : ∀ {a b : List Int}, a.length = b.length → (∀ u : Nat, a[u]? = some 0 → b[u]? = some 0) → white a ≤ white b
 | [], [], _, _ => Nat.le_refl _
 | [], _ :: _, h, _ => by simp at h
 | _ :: _, [], h, _ => by simp at h
 | x :: a, y :: b, hl, h => by
  have ih := white_le (a := a) (b := b) (by simpa using hl) fun u hu => by simpa using h (u + 1) (by simpa using hu)
  have h0 := h 0
  unfold white at ih ⊢
  by_cases hx : x = 0
  ·subst hx
   have hy : y = 0 := by simpa using h0
   subst hy
   simpa using ih
  rw [List.filter_cons_of_neg (by simpa using hx), List.filter_cons]
  split
  ·rw [List.length_cons]
   omega
  exact ih
theorem Vis.less {a b : List Int} (h : Vis a b) (hv : Vals3 a) : white b ≤ white a := white_le h.len fun u hu => by
 have hlt : u < a.length := by
  have := (List.getElem?_eq_some_iff.1 hu).1
  rw [h.len] at this
  exact this
 obtain ⟨s, hs⟩ : ∃ s, a[u]? = some s := ⟨_, List.getElem?_eq_getElem hlt⟩
 rcases hv u s hs with rfl | rfl | rfl
 ·exact hs
 ·rw [(h.grey u).2 hs] at hu
  cases hu
 rw [h.done u hs] at hu
 cases hu
theorem get_set {st : List Int} {t u : Nat} {x : Int} (ht : t < st.length) : (st.set t x)[u]? = if u = t then some x else st[u]? := by
 rw [List.getElem?_set]
 by_cases e : t = u
 ·subst e
  rw [if_pos rfl, if_pos ht, if_pos rfl]
 rw [if_neg e, if_neg (fun h => e h.symm)]
structure VIn (l : List Ty) (st1 : List Int) (a : Ty) (i : Nat) (st2 : List Int) : Prop where
 vis : Vis st1 st2
 dfs : Dfs l st2
 vals : Vals3 st2
 done : ∀ j q : Nat, j < i → (partsL a)[j]? = some (Int.ofNat q) → st2[q]? = some 2
theorem Vals3.set {st : List Int} {t : Nat} {x : Int} (h : Vals3 st) (hx : x = 0 ∨ x = 1 ∨ x = 2) : Vals3 (st.set t x) := fun u s hs => by
 rw [List.getElem?_set] at hs
 split at hs
 ·split at hs
  ·cases hs
   exact hx
  cases hs
 exact h u s hs
theorem VIn.zero {l : List Ty} {st : List Int} {t : Nat} {a : Ty} (hv : VisSt l st t) (h0 : st[t]? = some 0) : VIn l (st.set t 1) a 0 (st.set t 1) := by
 have hlt := (List.getElem?_eq_some_iff.1 h0).1
 refine ⟨Vis.refl _, ?_, Vals3.set hv.vals (by simp), fun j q h => absurd h (Nat.not_lt_zero _)⟩
 obtain ⟨r, hr⟩ := hv.dfs
 refine ⟨r, fun u v hu he => ?_⟩
 rw [get_set hlt] at hu ⊢
 split at hu
 ·cases hu
 obtain ⟨h1, h2⟩ := hr u v hu he
 refine ⟨?_, h2⟩
 split
 ·rename_i e
  rw [e, h0] at h1
  cases h1
 exact h1
theorem VIn.st {l : List Ty} {st st2 : List Int} {t i q : Nat} {a : Ty} (hv : VisSt l st t) (h0 : st[t]? = some 0) (h : VIn l (st.set t 1) a i st2) (ha : l[t]? = some a) (h9 : a.kind ≠ 9) (hq : q < l.length) (hp : (partsL a)[i]? = some (Int.ofNat q)) : VisSt l st2 q := by
 have hlt := (List.getElem?_eq_some_iff.1 h0).1
 have he : Edge l t q := ⟨a, ha, h9, List.mem_of_getElem? hp⟩
 refine ⟨by rw [h.vis.len, List.length_set, hv.len], hq, h.dfs, fun g hg => ?_, h.vals⟩
 rw [h.vis.grey g, get_set hlt] at hg
 split at hg
 ·rename_i e
  rw [e]
  exact .one he
 exact (hv.grey g hg).trans (.one he)
theorem VIn.less {l : List Ty} {st st2 : List Int} {t i : Nat} {a : Ty} (hv : VisSt l st t) (h0 : st[t]? = some 0) (h : VIn l (st.set t 1) a i st2) : white st2 < white st := by
 have h1 := h.vis.less (Vals3.set hv.vals (by simp))
 have h2 := white_set h0
 omega
theorem VIn.succ {l : List Ty} {st1 st2 : List Int} {i q : Nat} {a : Ty} {z : Bool × List Int} (h : VIn l st1 a i st2) (hp : (partsL a)[i]? = some (Int.ofNat q)) (hz : VisA l st2 q z) (hf : z.1 = false) : VIn l st1 a (i + 1) z.2 := by
 obtain ⟨h1, h2, h3, h4⟩ := hz.2 hf
 refine ⟨h.vis.trans h1, h3, h4, fun j q' hj hp' => ?_⟩
 by_cases e : j = i
 ·subst e
  rw [hp] at hp'
  cases hp'
  exact h2
 exact h1.done _ (h.done j q' (by omega) hp')
theorem VIn.fin {l : List Ty} {st st2 : List Int} {t : Nat} {a : Ty} {i : Nat} (hv : VisSt l st t) (h0 : st[t]? = some 0) (h : VIn l (st.set t 1) a i st2) (ha : l[t]? = some a) (hi : a.kind = 9 ∨ (partsL a).length ≤ i) (hb : badB l.length a = false) : VisA l st t (false, st2.set t 2) := by
 have hlt := (List.getElem?_eq_some_iff.1 h0).1
 have hlt2 : t < st2.length := by rw [h.vis.len, List.length_set]; exact hlt
 have h1 : st2[t]? = some 1 := (h.vis.grey t).2 (by rw [get_set hlt, if_pos rfl])
 refine ⟨fun e => (by cases e), fun _ => ⟨⟨by rw [List.length_set, h.vis.len, List.length_set], fun u => ?_, fun u hu => ?_⟩, ?_, h.dfs.done h1 fun v he => ?_, Vals3.set h.vals (by simp)⟩⟩
 ·rw [get_set hlt2]
  by_cases e : u = t
  ·subst e
   rw [if_pos rfl, h0]
   simp
  rw [if_neg e, h.vis.grey u, get_set hlt, if_neg e]
 ·have hne : u ≠ t := fun e => by
   subst e
   rw [h0] at hu
   cases hu
  rw [get_set hlt2, if_neg hne]
  exact h.vis.done u (by rw [get_set hlt, if_neg hne]; exact hu)
 ·rw [get_set hlt2, if_pos rfl]
 obtain ⟨a', ha', h9, hm⟩ := he
 rw [ha] at ha'
 cases ha'
 obtain ⟨j, hj⟩ := List.getElem?_of_mem hm
 have hjl := (List.getElem?_eq_some_iff.1 hj).1
 exact h.done j v (by rcases hi with hi | hi; exact absurd hi h9; omega) hj
theorem VisA.seen {l : List Ty} {st : List Int} {t : Nat} {s : Int} (hv : VisSt l st t) (hs : st[t]? = some s) (h0 : s ≠ 0) : VisA l st t (decide (s = 1), st) := by
 refine ⟨fun e => ?_, fun e => ⟨Vis.refl _, ?_, hv.dfs, hv.vals⟩⟩
 ·simp only [decide_eq_true_eq] at e
  subst e
  exact ⟨t, hv.grey t hs⟩
 simp only [decide_eq_false_iff_not] at e
 rcases hv.vals t s hs with h | h | h
 ·exact absurd h h0
 ·exact absurd h e
 rw [hs, h]
theorem VisA.cyc {l : List Ty} {st st' : List Int} {t : Nat} (h : Cyc l) : VisA l st t (true, st') := ⟨fun _ => h, fun e => by cases e⟩
structure VAll (l : List Ty) (st : List Int) (i : Nat) : Prop where
 len : st.length = l.length
 dfs : Dfs l st
 grey : ∀ g : Nat, st[g]? ≠ some 1
 vals : Vals3 st
 done : ∀ u, u < i → u < l.length → st[u]? = some 2
theorem VAll.zero (l : List Ty) : VAll l (List.replicate l.length 0) 0 := by
 have hg : ∀ (u : Nat) (s : Int), (List.replicate l.length (0 : Int))[u]? = some s → s = 0 := fun u s hs => by
  rw [List.getElem?_replicate] at hs
  split at hs
  ·cases hs; rfl
  cases hs
 exact ⟨List.length_replicate, ⟨fun _ => 0, fun u v hu _ => (by cases hg u _ hu)⟩, fun g h => (by cases hg g _ h), fun u s hs => .inl (hg u s hs), fun u h => absurd h (Nat.not_lt_zero _)⟩
theorem VAll.st {l : List Ty} {st : List Int} {i : Nat} (h : VAll l st i) (hi : i < l.length) : VisSt l st i := ⟨h.len, hi, h.dfs, fun g hg => absurd hg (h.grey g), h.vals⟩
theorem VAll.succ {l : List Ty} {st : List Int} {i : Nat} {z : Bool × List Int} (h : VAll l st i) (hz : VisA l st i z) (hf : z.1 = false) : VAll l z.2 (i + 1) := by
 obtain ⟨h1, h2, h3, h4⟩ := hz.2 hf
 refine ⟨h1.len.trans h.len, h3, fun g hg => h.grey g ((h1.grey g).1 hg), h4, fun u hu hl => ?_⟩
 by_cases e : u = i
 ·rw [e]
  exact h2
 exact h1.done u (h.done u (by omega) hl)
theorem VAll.ranked {l : List Ty} {st : List Int} {i : Nat} (h : VAll l st i) (hi : l.length ≤ i) : ∃ r, Ranked l r := h.dfs.ranked fun u hu => h.done u (by omega) hu
theorem withL_some {t : Ty} {a : Arm} (h : a ∈ t.arms) : ∃ L, withL t a.name = some L := by
 unfold withL
 split
 ·exact ⟨_, rfl⟩
 cases hf : t.arms.find? fun b => decide (b.name = a.name) with
 | none =>
  rw [List.find?_eq_none] at hf
  have := hf a h
  simp at this
 | some b => exact ⟨_, rfl⟩
theorem withL_parts {t : Ty} {s : ByteArray} {L : List Fld} (h : withL t s = some L) {x : Fld} (hx : x ∈ L) : x.type ∈ partsL t := by
 unfold withL at h
 unfold partsL
 split at h
 ·cases h
  exact List.mem_append_right _ (List.mem_append_left _ (List.mem_map.2 ⟨x, hx, rfl⟩))
 cases hf : t.arms.find? fun b => decide (b.name = s) with
 | none => rw [hf] at h; cases h
 | some b =>
  rw [hf] at h
  cases h
  have hb := List.mem_of_find?_eq_some hf
  rcases List.mem_append.1 hx with hx | hx
  ·exact List.mem_append_right _ (List.mem_append_left _ (List.mem_map.2 ⟨x, hx, rfl⟩))
  exact List.mem_append_right _ (List.mem_append_right _ (List.mem_map.2 ⟨x, List.mem_flatMap.2 ⟨b, hb, hx⟩, rfl⟩))
theorem parts_ok_fld {n : Nat} {t : Ty} (hb : badB n t = false) {L : List Fld} (hL : ∀ x, x ∈ L → x.type ∈ partsL t) : ∀ (j : Nat) (x : Fld), L[j]? = some x → ∃ q : Nat, x.type = Int.ofNat q ∧ q < n := fun j x hx => by
 obtain ⟨i, hi⟩ := List.getElem?_of_mem (hL x (List.mem_of_getElem? hx))
 exact parts_in hb hi
def armL (sz : List Int) (t : Ty) (a : Arm) : Bool := match withL t a.name with
 | some L => decide (256 < 1 + sumF sz L)
 | none => false
def largeB (sz : List Int) (s : Int) (t : Ty) : Bool := decide (256 < s) || t.arms.any (armL sz t)
theorem large_yes {sz : List Int} {s : Int} {t : Ty} (h : 256 < s) : largeB sz s t = true := by
 unfold largeB
 rw [decide_eq_true h]
 rfl
theorem large_arm {sz : List Int} {s : Int} {t : Ty} {i : Nat} {x : Arm} {L : List Fld} (hx : t.arms[i]? = some x) (hL : withL t x.name = some L) (h : 256 < 1 + sumF sz L) : largeB sz s t = true := by
 unfold largeB
 rw [show t.arms.any (armL sz t) = true from List.any_eq_true.2 ⟨x, List.mem_of_getElem? hx, by unfold armL; rw [hL]; exact decide_eq_true h⟩, Bool.or_true]
theorem large_not {sz : List Int} {s : Int} {t : Ty} (h : ¬ 256 < s) (h2 : ∀ (j : Nat) (x : Arm), j < t.arms.length → t.arms[j]? = some x → armL sz t x = false) : largeB sz s t = false := by
 unfold largeB
 rw [decide_eq_false h, Bool.false_or, List.any_eq_false]
 intro x hx
 obtain ⟨j, hj⟩ := List.getElem?_of_mem hx
 rw [h2 j x (List.getElem?_eq_some_iff.1 hj).1 hj]
 decide
theorem armL_no {sz : List Int} {t : Ty} {x : Arm} {L : List Fld} (hL : withL t x.name = some L) (h : ¬ 256 < 1 + sumF sz L) : armL sz t x = false := by
 unfold armL
 rw [hL]
 exact decide_eq_false h
theorem szStep_zero {sz : List Int} {t : Ty} (h : t.kind = 0 ∨ t.kind = 12 ∨ t.kind = 14) : szStep sz t = 0 := by
 unfold szStep
 rw [if_pos h]
theorem szStep_tuple {sz : List Int} {t : Ty} (h : t.kind = 11) : szStep sz t = foldS sz t.elems := by
 unfold szStep
 rw [if_neg (by omega), if_pos h]
theorem szStep_adt {sz : List Int} {t : Ty} (h : t.kind = 10) : szStep sz t = cap257 ((if 0 < t.arms.length then 1 else 0) + sumF sz t.fields) := by
 unfold szStep
 rw [if_neg (by omega), if_neg (by omega), if_pos h]
theorem szStep_one {sz : List Int} {t : Ty} (h : ¬ (t.kind = 0 ∨ t.kind = 12 ∨ t.kind = 14)) (h1 : t.kind ≠ 11) (h2 : t.kind ≠ 10) : szStep sz t = 1 := by
 unfold szStep
 rw [if_neg h, if_neg h1, if_neg h2]
def MapA (sz : List Int) (x : List MapEntry × Nat) : Prop := ∃ lM : List (Int × Value), PairsK (Value.int .i64) x.1 lM ∧ ∀ k v, getP k lM = some v → v = .int .i64 (szAt sz k)
def MapC (bm : Nat) (x : List MapEntry × Nat) : Hp := [(bm, .map x.1 x.2)]
def SzQ (sz : List Int) (bm : Nat) (n : Int) (m : AW) (v : Value) (m' : AW) : Prop := ∃ x, MapA sz x ∧ v = .int .i64 n ∧ Knows [bm] m m' (MapC bm x)
structure SzPre (l : List Ty) (al : Option Addr) (cl bs bm : Nat) (m : AW) : Prop where
 hs : Off [bm] m bs (.cells [.slice al l.length cl, .map (some bm)] 157 false .plain none)
 hl : Sl (Off [bm] m) 5 (RTy (Off [bm] m)) l (.slice al l.length cl)
theorem SzPre.mono {l : List Ty} {al : Option Addr} {cl bs bm : Nat} {m m' : AW} (h : SzPre l al cl bs bm m) (k : ∀ b o, Off [bm] m b o → Off [bm] m' b o) : SzPre l al cl bs bm m' := ⟨k _ _ h.hs, h.hl.mono k (RTy.mono k)⟩
def SizeC (P : Program) (l : List Ty) (al : Option Addr) (cl bs bm : Nat) (sz : List Int) (t : Nat) : Prop := ∀ (m : AW) (x : List MapEntry × Nat), m.lo ≤ m.next → Knows [bm] m m (MapC bm x) → MapA sz x → SzPre l al cl bs bm m → Fc P 74 [ptr bs, .int .i64 (Int.ofNat t)] m (SzQ sz bm (szAt sz (Int.ofNat t)) m)
theorem MapA.put {sz : List Int} {lM : List (Int × Value)} (h : ∀ k v, getP k lM = some v → v = .int .i64 (szAt sz k)) {k : Int} {es : List MapEntry} {c : Nat} (hP : PairsK (Value.int .i64) es (putP k (.int .i64 (szAt sz k)) lM)) : MapA sz (es, c) := ⟨_, hP, fun j v hv => by
 rw [getP_put] at hv
 split at hv
 ·rename_i e
  subst e
  cases hv
  rfl
 exact h j v hv⟩
theorem MapA.nil (sz : List Int) (c : Nat) : MapA sz ([], c) := ⟨[], trivial, fun k v h => by cases h⟩
def recS (sz : List Int) (t : Ty) (L : List Fld) : Int := if 0 < t.arms.length then cap257 (sumF sz L + 1) else sumF sz L
theorem recS_adt {sz : List Int} (h : SzOk sz) (t : Ty) : recS sz t t.fields = cap257 ((if 0 < t.arms.length then 1 else 0) + sumF sz t.fields) := by
 have h1 := sumF_range h t.fields
 unfold recS
 split
 ·rw [Int.add_comm]
 unfold cap257
 rw [if_neg (by omega), Int.zero_add]
theorem recS_big {sz : List Int} {t : Ty} {L : List Fld} (ha : 0 < t.arms.length) : 256 < recS sz t L ↔ 256 < 1 + sumF sz L := by
 unfold recS cap257
 rw [if_pos ha]
 split <;> omega
def firstE (f : Ty → Int) (l : List Ty) : Int := match l.find? (fun t => decide (f t ≠ 0)) with
 | some t => f t
 | none => 0
theorem first_at {f : Ty → Int} {l : List Ty} {i : Nat} {x : Ty} (hx : l[i]? = some x) (hb : ∀ (j : Nat) (y : Ty), j < i → l[j]? = some y → f y = 0) (h : f x ≠ 0) : firstE f l = f x := by
 have hf : l.find? (fun t => decide (f t ≠ 0)) = some x := by
  refine List.find?_eq_some_iff_getElem.2 ⟨decide_eq_true h, i, (List.getElem?_eq_some_iff.1 hx).1, (List.getElem?_eq_some_iff.1 hx).2, fun j hj => ?_⟩
  have hjl : j < l.length := Nat.lt_trans hj (List.getElem?_eq_some_iff.1 hx).1
  simpa using hb j _ hj (List.getElem?_eq_getElem hjl)
 unfold firstE
 rw [hf]
theorem first_none {f : Ty → Int} {l : List Ty} (hb : ∀ (j : Nat) (y : Ty), j < l.length → l[j]? = some y → f y = 0) : firstE f l = 0 := by
 have hf : l.find? (fun t => decide (f t ≠ 0)) = none := by
  rw [List.find?_eq_none]
  intro x hx
  obtain ⟨j, hj⟩ := List.getElem?_of_mem hx
  simpa using hb j x (List.getElem?_eq_some_iff.1 hj).1 hj
 unfold firstE
 rw [hf]
def bigAt (sz : List Int) (l : List Ty) (i : Nat) : Bool := match l[i]? with
 | some t => !largeB sz (szAt sz (Int.ofNat i)) t
 | none => true
theorem bigAt_get {sz : List Int} {l : List Ty} {i : Nat} {t : Ty} (h : l[i]? = some t) : bigAt sz l i = !largeB sz (szAt sz (Int.ofNat i)) t := by
 unfold bigAt
 rw [h]
def ChkP (l : List Ty) (e : Int) : Prop :=
 (firstE (singleE l.length) l ≠ 0 ∧ e = firstE (singleE l.length) l) ∨
 (firstE (singleE l.length) l = 0 ∧ firstE (fitE l) l ≠ 0 ∧ e = firstE (fitE l) l) ∨
 (firstE (singleE l.length) l = 0 ∧ firstE (fitE l) l = 0 ∧ Sound8 l ∧ ((Cyc l ∧ e = 10) ∨ ∃ r sz, Ranked l r ∧ SzFix l sz ∧ e = if allN (bigAt sz l) l.length = true then 0 else 3))
theorem SzFix.uniq {l : List Ty} {r : Nat → Nat} {sz sz' : List Int} (hb : Sound8 l) (hr : Ranked l r) (h : SzFix l sz) (h' : SzFix l sz') : sz = sz' := by
 have key : ∀ (n u : Nat), r u < n → sz[u]? = sz'[u]? := by
  intro n
  induction n with
  | zero => exact fun u h => absurd h (Nat.not_lt_zero _)
  | succ n ih =>
   intro u hu
   cases ht : l[u]? with
   | none =>
    have := List.getElem?_eq_none_iff.1 ht
    rw [List.getElem?_eq_none (by rw [h.len]; exact this), List.getElem?_eq_none (by rw [h'.len]; exact this)]
   | some t =>
    rw [h.fix_ u t ht, h'.fix_ u t ht]
    congr 1
    refine szAt_edge hb ht fun v hv => ih v ?_
    have := hr u v hv
    omega
 exact List.ext_getElem? fun u => key (r u + 1) u (Nat.lt_succ_self _)
theorem ChkP.uniq {l : List Ty} {e e' : Int} (h : ChkP l e) (h' : ChkP l e') : e = e' := by
 rcases h with ⟨h1, rfl⟩ | ⟨h1, h2, rfl⟩ | ⟨h1, h2, hb, h3⟩
 ·rcases h' with ⟨g1, rfl⟩ | ⟨g1, _⟩ | ⟨g1, _⟩
  ·rfl
  ·exact absurd g1 h1
  exact absurd g1 h1
 ·rcases h' with ⟨g1, rfl⟩ | ⟨g1, g2, rfl⟩ | ⟨g1, g2, _⟩
  ·exact absurd h1 g1
  ·rfl
  exact absurd g2 h2
 rcases h' with ⟨g1, rfl⟩ | ⟨g1, g2, rfl⟩ | ⟨g1, g2, _, g3⟩
 ·exact absurd h1 g1
 ·exact absurd h2 g2
 rcases h3 with ⟨hc, rfl⟩ | ⟨r, sz, hr, hz, rfl⟩
 ·rcases g3 with ⟨_, rfl⟩ | ⟨r, sz, hr, _⟩
  ·rfl
  exact absurd hc hr.no_cyc
 rcases g3 with ⟨hc, _⟩ | ⟨r', sz', _, hz', rfl⟩
 ·exact absurd hc hr.no_cyc
 rw [hz.uniq hb hr hz']
theorem single_zero {n : Nat} {t : Ty} (h : singleE n t = 0) : shapedB t = true ∧ badB n t = false ∧ namedB t = true ∧ twiceB t = false ∧ 0 ≤ t.kind ∧ t.kind ≤ 14 := by
 unfold singleE at h
 split at h
 ·cases h
 split at h
 ·cases h
 split at h
 ·cases h
 split at h
 ·cases h
 split at h
 ·cases h
 rename_i h1 h2 h3 h4 h5
 refine ⟨by simpa using h2, by simpa using h3, by simpa using h4, by simpa using h5, by omega, by omega⟩
structure Well (l : List Ty) : Prop where
 all : ∀ (i : Nat) (a : Ty), l[i]? = some a → singleE l.length a = 0
theorem Well.sound {l : List Ty} (h : Well l) : Sound8 l := fun i a ha => (single_zero (h.all i a ha)).2.1
theorem Well.first {l : List Ty} (h : Well l) : firstE (singleE l.length) l = 0 := first_none fun j y _ hy => h.all j y hy
theorem well_of {l : List Ty} {i : Nat} (hi : l.length ≤ i) (h : ∀ (j : Nat) (x : Ty), j < i → l[j]? = some x → singleE l.length x = 0) : Well l := ⟨fun j x hx => h j x (by have := (List.getElem?_eq_some_iff.1 hx).1; omega) hx⟩
def CircA (l : List Ty) (c : Bool) : Prop := (c = true → Cyc l) ∧ (c = false → ∃ r, Ranked l r)
def RTyT (K : Kn) (t : Ty) (cs : List Value) : Prop := RTy K t cs ∧ ∀ vf, cs[3]? = some vf → Tight K t.fields.length vf
theorem RTyT.mono {K K' : Kn} (k : ∀ b o, K b o → K' b o) : ∀ x cs, RTyT K x cs → RTyT K' x cs := fun x cs ⟨h1, h2⟩ => ⟨RTy.mono k x cs h1, fun vf h => (h2 vf h).mono k⟩
end Go.Proofs.YtmfbljaemhpokaaGreatDoor
