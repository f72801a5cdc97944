/-
  TypesWidens: the functions that it calls, followed, 1. Conditions: none.
-/
import Derived.Test.YtmfbljaemhpokaaGreatDoorAwk
import Derived.Test.YtmfbljaemhpokaaGreatDoorGra
import Derived.Test.YtmfbljaemhpokaaGreatDoorWidens0
namespace Go.Proofs.YtmfbljaemhpokaaGreatDoor
open Go Go.Ab
set_option linter.unusedVariables false
set_option linter.unusedSimpArgs false
set_option linter.unusedSectionVars false
open Tryz

/-! Equal types. -/
def RI (R : Nat → Nat → Prop) (p q : Int) : Prop := ∃ a b : Nat, p = Int.ofNat a ∧ q = Int.ofNat b ∧ R a b
theorem RI.mono {R R' : Nat → Nat → Prop} (k : ∀ a b, R a b → R' a b) {p q : Int} (h : RI R p q) : RI R' p q := by
 obtain ⟨a, b, h1, h2, h3⟩ := h
 exact ⟨a, b, h1, h2, k a b h3⟩
theorem RI.nat {R : Nat → Nat → Prop} {a b : Nat} (h : RI R (Int.ofNat a) (Int.ofNat b)) : R a b := by
 obtain ⟨a', b', h1, h2, h3⟩ := h
 cases h1
 cases h2
 exact h3
/-- Fields that agree one by one; members that agree by their names. -/
def FldsR (R : Nat → Nat → Prop) (L L' : List Fld) : Prop := L.length = L'.length ∧ ∀ (i : Nat) (f g : Fld), L[i]? = some f → L'[i]? = some g → f.name = g.name ∧ RI R f.type g.type
def MemR (R : Nat → Nat → Prop) (L L' : List Fld) : Prop := L.length = L'.length ∧ ∀ f, f ∈ L → ∃ g, g ∈ L' ∧ g.name = f.name ∧ RI R f.type g.type
def ElsR (R : Nat → Nat → Prop) (L L' : List Int) : Prop := L.length = L'.length ∧ ∀ (i : Nat) (p q : Int), L[i]? = some p → L'[i]? = some q → RI R p q
def ArmsR (R : Nat → Nat → Prop) (L L' : List Arm) : Prop := L.length = L'.length ∧ ∀ (i : Nat) (f g : Arm), L[i]? = some f → L'[i]? = some g → f.name = g.name ∧ FldsR R f.fields g.fields
def HeadR (x y : Ty) : Prop := x.kind = y.kind ∧ x.elems.length = y.elems.length ∧ x.arms.length = y.arms.length ∧ (x.kind = 9 → x.name = y.name)
structure TyR (R : Nat → Nat → Prop) (x y : Ty) : Prop where
 head : HeadR x y
 els : ElsR R x.elems y.elems
 flds : if x.kind = 13 then MemR R x.fields y.fields else FldsR R x.fields y.fields
 arms : ArmsR R x.arms y.arms
theorem FldsR.mono {R R' : Nat → Nat → Prop} (k : ∀ a b, R a b → R' a b) {L L' : List Fld} (h : FldsR R L L') : FldsR R' L L' := ⟨h.1, fun i f g hf hg => ⟨(h.2 i f g hf hg).1, (h.2 i f g hf hg).2.mono k⟩⟩
theorem MemR.mono {R R' : Nat → Nat → Prop} (k : ∀ a b, R a b → R' a b) {L L' : List Fld} (h : MemR R L L') : MemR R' L L' := ⟨h.1, fun f hf => by
 obtain ⟨g, h1, h2, h3⟩ := h.2 f hf
 exact ⟨g, h1, h2, h3.mono k⟩⟩
theorem ElsR.mono {R R' : Nat → Nat → Prop} (k : ∀ a b, R a b → R' a b) {L L' : List Int} (h : ElsR R L L') : ElsR R' L L' := ⟨h.1, fun i p q hp hq => (h.2 i p q hp hq).mono k⟩
theorem ArmsR.mono {R R' : Nat → Nat → Prop} (k : ∀ a b, R a b → R' a b) {L L' : List Arm} (h : ArmsR R L L') : ArmsR R' L L' := ⟨h.1, fun i f g hf hg => ⟨(h.2 i f g hf hg).1, (h.2 i f g hf hg).2.mono k⟩⟩
theorem TyR.mono {R R' : Nat → Nat → Prop} (k : ∀ a b, R a b → R' a b) {x y : Ty} (h : TyR R x y) : TyR R' x y := ⟨h.head, h.els.mono k, by
 have := h.flds
 split at this
 ·rename_i e
  rw [if_pos e]
  exact this.mono k
 rename_i e
 rw [if_neg e]
 exact this.mono k, h.arms.mono k⟩
theorem RI.refl {R : Nat → Nat → Prop} (hR : ∀ a, R a a) {n : Nat} {t : Ty} (hb : badB n t = false) {p : Int} (hp : p ∈ partsL t) : RI R p p := by
 obtain ⟨j, hj⟩ := List.getElem?_of_mem hp
 obtain ⟨q, rfl, _⟩ := parts_in hb hj
 exact ⟨q, q, rfl, rfl, hR q⟩
theorem parts_armf {t : Ty} {a : Arm} (ha : a ∈ t.arms) {f : Fld} (hf : f ∈ a.fields) : f.type ∈ partsL t := List.mem_append_right _ (List.mem_append_right _ (List.mem_map.2 ⟨f, List.mem_flatMap.2 ⟨a, ha, hf⟩, rfl⟩))
theorem parts_fldm {t : Ty} {f : Fld} (hf : f ∈ t.fields) : f.type ∈ partsL t := parts_fields (List.mem_map.2 ⟨f, hf, rfl⟩)
theorem TyR.refl {R : Nat → Nat → Prop} (hR : ∀ a, R a a) {n : Nat} {t : Ty} (hb : badB n t = false) : TyR R t t where
 head := ⟨rfl, rfl, rfl, fun _ => rfl⟩
 els := ⟨rfl, fun i p q hp hq => by rw [hp] at hq; cases hq; exact RI.refl hR hb (parts_elems (List.mem_of_getElem? hp))⟩
 flds := by
  split
  ·exact ⟨rfl, fun f hf => ⟨f, hf, rfl, RI.refl hR hb (parts_fldm hf)⟩⟩
  exact ⟨rfl, fun i f g hf hg => by rw [hf] at hg; cases hg; exact ⟨rfl, RI.refl hR hb (parts_fldm (List.mem_of_getElem? hf))⟩⟩
 arms := ⟨rfl, fun i f g hf hg => by
  rw [hf] at hg
  cases hg
  exact ⟨rfl, rfl, fun j u w hu hw => by rw [hu] at hw; cases hw; exact ⟨rfl, RI.refl hR hb (parts_armf (List.mem_of_getElem? hf) (List.mem_of_getElem? hu))⟩⟩⟩
/-- What is closed under steps. -/
def EqStep (l : List Ty) (R : Nat → Nat → Prop) (a b : Nat) : Prop := ∃ x y, l[a]? = some x ∧ l[b]? = some y ∧ TyR R x y
theorem EqStep.mono {l : List Ty} {R R' : Nat → Nat → Prop} (k : ∀ a b, R a b → R' a b) {a b : Nat} (h : EqStep l R a b) : EqStep l R' a b := by
 obtain ⟨x, y, h1, h2, h3⟩ := h
 exact ⟨x, y, h1, h2, h3.mono k⟩
def EqT (l : List Ty) (a b : Nat) : Prop := ∃ R : Nat → Nat → Prop, (∀ a b, R a b → a = b ∨ EqStep l R a b) ∧ R a b
theorem EqT.refl (l : List Ty) (a : Nat) : EqT l a a := ⟨fun a b => a = b, fun _ _ h => .inl h, rfl⟩
theorem EqT.step {l : List Ty} (hb : Sound8 l) {a b : Nat} (h : EqT l a b) (ha : a < l.length) : EqStep l (EqT l) a b := by
 obtain ⟨R, hR, h1⟩ := h
 rcases hR a b h1 with rfl | h2
 ·exact ⟨l[a], l[a], List.getElem?_eq_getElem ha, List.getElem?_eq_getElem ha, TyR.refl (EqT.refl l) (hb a _ (List.getElem?_eq_getElem ha))⟩
 exact h2.mono fun a b h => ⟨R, hR, h⟩
/-! What a comparison does: the pairs that were met are taken as equal. -/
abbrev Prs := List (Nat × Nat)
def InM (M : Prs) (a b : Nat) : Prop := a = b ∨ (a, b) ∈ M
def Grown (M M' : Prs) : Prop := ∀ p, p ∈ M → p ∈ M'
theorem Grown.refl (M : Prs) : Grown M M := fun _ h => h
theorem Grown.trans {A B C : Prs} (h : Grown A B) (k : Grown B C) : Grown A C := fun p hp => k p (h p hp)
theorem InM.mono {M M' : Prs} (h : Grown M M') : ∀ a b, InM M a b → InM M' a b := fun _ _ k => k.imp id (h _)
/-- All that is new is closed. -/
def Closed (l : List Ty) (M M' : Prs) : Prop := ∀ p, p ∈ M' → p ∈ M ∨ EqStep l (InM M') p.1 p.2
theorem Closed.refl (l : List Ty) (M : Prs) : Closed l M M := fun _ h => .inl h
theorem Closed.trans {l : List Ty} {A B C : Prs} (h1 : Closed l A B) (h2 : Closed l B C) (g : Grown B C) : Closed l A C := fun p hp => by
 rcases h2 p hp with h | h
 ·rcases h1 p h with h | h
  ·exact .inl h
  exact .inr (h.mono (InM.mono g))
 exact .inr h
def Bnd (l : List Ty) (M : Prs) : Prop := ∀ p, p ∈ M → p.1 < l.length ∧ p.2 < l.length
/-- The answer to whether a and b are equal, and what has been met then. -/
structure EqA (l : List Ty) (M : Prs) (a b : Nat) (z : Bool × Prs) : Prop where
 grown : Grown M z.2
 bnd : Bnd l M → Bnd l z.2
 yes : z.1 = true → InM z.2 a b ∧ Closed l M z.2
 no : z.1 = false → ¬ EqT l a b
theorem EqA.top {l : List Ty} {a b : Nat} {z : Bool × Prs} (h : EqA l [] a b z) : z.1 = true ↔ EqT l a b := by
 constructor
 ·intro e
  obtain ⟨h1, h2⟩ := h.yes e
  refine ⟨InM z.2, fun p q hpq => ?_, h1⟩
  rcases hpq with h3 | h3
  ·exact .inl h3
  rcases h2 (p, q) h3 with h4 | h4
  ·cases h4
  exact .inr h4
 intro e
 cases hz : z.1 with
 | true => rfl
 | false => exact absurd e (h.no hz)
/-- How many pairs are not yet met. -/
def unmet (n : Nat) (M : Prs) : Nat := ((List.range (n * n)).filter fun c => !decide ((c / n, c % n) ∈ M)).length
theorem unmet_le {n : Nat} {M M' : Prs} (h : Grown M M') : unmet n M' ≤ unmet n M := filter_le (fun c hc => by
 simp only [Bool.not_eq_true', decide_eq_false_iff_not] at hc ⊢
 exact fun hm => hc (h _ hm)) _
theorem unmet_lt {n : Nat} {M : Prs} {a b : Nat} (ha : a < n) (hb : b < n) (hn : (a, b) ∉ M) {M' : Prs} (h : Grown M M') (hm : (a, b) ∈ M') : unmet n M' < unmet n M := by
 have hn0 : 0 < n := by omega
 have e1 : (a * n + b) / n = a := by
  rw [Nat.mul_comm, Nat.mul_add_div hn0, Nat.div_eq_of_lt hb, Nat.add_zero]
 have e2 : (a * n + b) % n = b := by
  rw [Nat.mul_comm, Nat.mul_add_mod, Nat.mod_eq_of_lt hb]
 refine filter_lt (fun c hc => ?_) (y := a * n + b) ?_ ?_ _ (List.mem_range.2 ?_)
 ·simp only [Bool.not_eq_true', decide_eq_false_iff_not] at hc ⊢
  exact fun hm => hc (h _ hm)
 ·rw [e1, e2]
  simpa using hm
 ·rw [e1, e2]
  simpa using hn
 have : a * n + n ≤ n * n := by
  have := Nat.mul_le_mul_right n (show a + 1 ≤ n by omega)
  rw [Nat.add_mul, Nat.one_mul] at this
  exact this
 omega
/-- A row of comparisons: so far all were equal. -/
structure RowA (l : List Ty) (M M' : Prs) (P : Prop) : Prop where
 grown : Grown M M'
 bnd : Bnd l M → Bnd l M'
 closed : Closed l M M'
 all : P
theorem RowA.init {l : List Ty} {M : Prs} {P : Prop} (h : P) : RowA l M M P := ⟨Grown.refl _, id, Closed.refl _ _, h⟩
/-- The end of a comparison whose pair was put in first: all its parts are equal. -/
theorem EqA.close {l : List Ty} {M M' : Prs} {a b : Nat} {x y : Ty} {P : Prop} (ha : l[a]? = some x) (hb : l[b]? = some y) (h : RowA l ((a, b) :: M) M' P) (ht : TyR (InM M') x y) : EqA l M a b (true, M') where
 grown := fun p hp => h.grown p (List.mem_cons_of_mem _ hp)
 bnd := fun hM => h.bnd fun p hp => by
  rcases List.mem_cons.1 hp with rfl | hp
  ·exact ⟨(List.getElem?_eq_some_iff.1 ha).1, (List.getElem?_eq_some_iff.1 hb).1⟩
  exact hM p hp
 yes := fun _ => ⟨.inr (h.grown _ List.mem_cons_self), fun p hp => by
  rcases h.closed p hp with h1 | h1
  ·rcases List.mem_cons.1 h1 with rfl | h1
   ·exact .inr ⟨x, y, ha, hb, ht⟩
   exact .inl h1
  exact .inr h1⟩
 no := fun e => by cases e
theorem EqA.fail {l : List Ty} {M M' : Prs} {a b : Nat} (hg : Grown M M') (hb : Bnd l M → Bnd l M') (h : ¬ EqT l a b) : EqA l M a b (false, M') := ⟨hg, hb, fun e => (by cases e), fun _ => h⟩
theorem EqA.here {l : List Ty} {M : Prs} {a b : Nat} (h : InM M a b) : EqA l M a b (true, M) := ⟨Grown.refl _, id, fun _ => ⟨h, Closed.refl _ _⟩, fun e => by cases e⟩
/-! The program's comparer. -/
def MetA (M : Prs) (x : List MapEntry × Nat) : Prop := ∃ lM : List ((Int × Int) × Value), PairsK (pairV .i64) x.1 lM ∧ ∀ a b : Nat, getP (Int.ofNat a, Int.ofNat b) lM = if (a, b) ∈ M then some (.bool true) else none
theorem MetA.nil (c : Nat) : MetA [] ([], c) := ⟨[], trivial, fun a b => by rw [if_neg (by simp)]; rfl⟩
theorem MetA.look {M : Prs} {lM : List ((Int × Int) × Value)} (h : ∀ a b : Nat, getP (Int.ofNat a, Int.ofNat b) lM = if (a, b) ∈ M then some (.bool true) else none) (a b : Nat) : (getP (Int.ofNat a, Int.ofNat b) lM).getD (.bool false) = .bool (decide ((a, b) ∈ M)) := by
 rw [h a b]
 by_cases hm : (a, b) ∈ M
 ·rw [if_pos hm, decide_eq_true hm]
  rfl
 rw [if_neg hm, decide_eq_false hm]
 rfl
theorem MetA.put {M : Prs} {lM : List ((Int × Int) × Value)} (h : ∀ a b : Nat, getP (Int.ofNat a, Int.ofNat b) lM = if (a, b) ∈ M then some (.bool true) else none) {a b : Nat} {es : List MapEntry} {c : Nat} (hP : PairsK (pairV .i64) es (putP (Int.ofNat a, Int.ofNat b) (.bool true) lM)) : MetA ((a, b) :: M) (es, c) := ⟨_, hP, fun a' b' => by
 rw [getP_put, h a' b']
 by_cases e : a' = a ∧ b' = b
 ·obtain ⟨rfl, rfl⟩ := e
  rw [if_pos rfl, if_pos List.mem_cons_self]
 have e1 : ¬ ((Int.ofNat a', Int.ofNat b') = (Int.ofNat a, Int.ofNat b)) := fun h => e ⟨Int.ofNat.inj (Prod.mk.inj h).1, Int.ofNat.inj (Prod.mk.inj h).2⟩
 rw [if_neg e1]
 by_cases hm : (a', b') ∈ M
 ·rw [if_pos hm, if_pos (List.mem_cons_of_mem _ hm)]
 rw [if_neg hm, if_neg fun h => by
  rcases List.mem_cons.1 h with h | h
  ·exact e ⟨(Prod.mk.inj h).1, (Prod.mk.inj h).2⟩
  exact hm h]⟩
structure CmpPre (l : List Ty) (al : Option Addr) (cl bs bm : Nat) (m : AW) : Prop where
 hs : Off [bm] m bs (.cells [.slice al l.length cl, .map (some bm)] 163 false .plain none)
 hl : Sl (Off [bm] m) 5 (RTy (Off [bm] m)) l (.slice al l.length cl)
theorem CmpPre.mono {l : List Ty} {al : Option Addr} {cl bs bm : Nat} {m m' : AW} (h : CmpPre l al cl bs bm m) (k : ∀ b o, Off [bm] m b o → Off [bm] m' b o) : CmpPre l al cl bs bm m' := ⟨k _ _ h.hs, h.hl.mono k (RTy.mono k)⟩
abbrev CmpY := (Bool × Prs) × (List MapEntry × Nat)
def EqQ (l : List Ty) (bm : Nat) (M : Prs) (a b : Nat) (m : AW) (v : Value) (m' : AW) : Prop := ∃ y : CmpY, (EqA l M a b y.1 ∧ MetA y.1.2 y.2) ∧ v = .bool y.1.1 ∧ Knows [bm] m m' (MapC bm y.2)
def EqualC (P : Program) (l : List Ty) (al : Option Addr) (cl bs bm n a b : Nat) : Prop := ∀ (m : AW) (x : List MapEntry × Nat) (M : Prs), m.lo ≤ m.next → Knows [bm] m m (MapC bm x) → MetA M x → Bnd l M → CmpPre l al cl bs bm m → unmet l.length M < n → Fc P 105 [ptr bs, .int .i64 (Int.ofNat a), .int .i64 (Int.ofNat b)] m (EqQ l bm M a b m)
/-- What a comparison of more than two types answers. -/
structure RelA (l : List Ty) (M : Prs) (Py : (Nat → Nat → Prop) → Prop) (z : Bool × Prs) : Prop where
 grown : Grown M z.2
 bnd : Bnd l M → Bnd l z.2
 yes : z.1 = true → Closed l M z.2 ∧ Py (InM z.2)
 no : z.1 = false → ¬ Py (EqT l)
def RelQ (l : List Ty) (bm : Nat) (M : Prs) (Py : (Nat → Nat → Prop) → Prop) (m : AW) (v : Value) (m' : AW) : Prop := ∃ y : CmpY, (RelA l M Py y.1 ∧ MetA y.1.2 y.2) ∧ v = .bool y.1.1 ∧ Knows [bm] m m' (MapC bm y.2)
theorem RelA.fail {l : List Ty} {M M' : Prs} {Py : (Nat → Nat → Prop) → Prop} (hg : Grown M M') (hb : Bnd l M → Bnd l M') (h : ¬ Py (EqT l)) : RelA l M Py (false, M') := ⟨hg, hb, fun e => (by cases e), fun _ => h⟩
theorem RelA.good {l : List Ty} {M M' : Prs} {Py : (Nat → Nat → Prop) → Prop} {P : Prop} (h : RowA l M M' P) (hP : Py (InM M')) : RelA l M Py (true, M') := ⟨h.grown, h.bnd, fun _ => ⟨h.closed, hP⟩, fun e => by cases e⟩
/-- One comparison more, that says yes. -/
theorem RowA.more {l : List Ty} {M M1 : Prs} {P P2 : Prop} {a b : Nat} {z : Bool × Prs} (h : RowA l M M1 P) (hz : EqA l M1 a b z) (ht : z.1 = true) (hP : P2) : RowA l M z.2 P2 := ⟨h.grown.trans hz.grown, fun hb => hz.bnd (h.bnd hb), h.closed.trans (hz.yes ht).2 hz.grown, hP⟩
theorem RowA.moreR {l : List Ty} {M M1 : Prs} {P P2 : Prop} {Py : (Nat → Nat → Prop) → Prop} {z : Bool × Prs} (h : RowA l M M1 P) (hz : RelA l M1 Py z) (ht : z.1 = true) (hP : P2) : RowA l M z.2 P2 := ⟨h.grown.trans hz.grown, fun hb => hz.bnd (h.bnd hb), h.closed.trans (hz.yes ht).1 hz.grown, hP⟩
def FldsU (R : Nat → Nat → Prop) (L L' : List Fld) (i : Nat) : Prop := ∀ (j : Nat) (f g : Fld), j < i → L[j]? = some f → L'[j]? = some g → f.name = g.name ∧ RI R f.type g.type
theorem FldsU.succ {M M' : Prs} {L L' : List Fld} {i : Nat} {f g : Fld} (h : FldsU (InM M) L L' i) (k : Grown M M') (hf : L[i]? = some f) (hg : L'[i]? = some g) (hn : f.name = g.name) (hr : RI (InM M') f.type g.type) : FldsU (InM M') L L' (i + 1) := fun j u w hj hu hw => by
 by_cases e : j = i
 ·subst e
  rw [hf] at hu
  rw [hg] at hw
  cases hu
  cases hw
  exact ⟨hn, hr⟩
 have := h j u w (by omega) hu hw
 exact ⟨this.1, this.2.mono (InM.mono k)⟩
theorem FldsU.all {R : Nat → Nat → Prop} {L L' : List Fld} {i : Nat} (h : FldsU R L L' i) (hl : L.length = L'.length) (hi : L.length ≤ i) : FldsR R L L' := ⟨hl, fun j f g hf hg => h j f g (by have := (List.getElem?_eq_some_iff.1 hf).1; omega) hf hg⟩
/-- Which types the names have. -/
def TypN (L : List Fld) (lN : List (ByteArray × Value)) : Prop := ∀ s, getP s lN = (L.find? fun f => decide (f.name = s)).map fun f => .int .i64 f.type
theorem TypN.nil : TypN [] [] := fun s => rfl
theorem TypN.put {L : List Fld} {lN : List (ByteArray × Value)} {x : Fld} (h : TypN L lN) (hn : x.name ∉ fnames L) : TypN (L ++ [x]) (putP x.name (.int .i64 x.type) lN) := fun s => by
 rw [getP_put, h s, List.find?_append]
 by_cases e : s = x.name
 ·subst e
  have : (L.find? fun f => decide (f.name = x.name)) = none := by
   rw [List.find?_eq_none]
   intro f hf he
   exact hn (List.mem_map.2 ⟨f, hf, by simpa using he⟩)
  rw [if_pos rfl, this]
  simp
 rw [if_neg e]
 have : ([x].find? fun f => decide (f.name = s)) = none := by
  rw [List.find?_eq_none]
  intro f hf he
  rw [List.mem_singleton.1 hf] at he
  exact e (of_decide_eq_true he).symm
 rw [this, Option.or_none]
theorem TypN.take {L : List Fld} {lN : List (ByteArray × Value)} {i : Nat} {x : Fld} (h : TypN (L.take i) lN) (hnd : (fnames L).Nodup) (hx : L[i]? = some x) : TypN (L.take (i + 1)) (putP x.name (.int .i64 x.type) lN) := by
 rw [take_succ' hx]
 refine h.put fun hm => ?_
 have h1 := fnames_get hx
 have h2 : fnames (L.take i) = (fnames L).take i := by
  unfold fnames
  rw [List.map_take]
 rw [h2] at hm
 have h3 := dup_mem h1 hm
 unfold dupB at h3
 rw [decide_eq_true hnd] at h3
 cases h3
def MemU (R : Nat → Nat → Prop) (L L' : List Fld) (i : Nat) : Prop := ∀ (j : Nat) (f : Fld), j < i → L[j]? = some f → ∃ g, g ∈ L' ∧ g.name = f.name ∧ RI R f.type g.type
theorem MemU.succ {M M' : Prs} {L L' : List Fld} {i : Nat} {f g : Fld} (h : MemU (InM M) L L' i) (k : Grown M M') (hf : L[i]? = some f) (hg : g ∈ L') (hn : g.name = f.name) (hr : RI (InM M') f.type g.type) : MemU (InM M') L L' (i + 1) := fun j u hj hu => by
 by_cases e : j = i
 ·subst e
  rw [hf] at hu
  cases hu
  exact ⟨g, hg, hn, hr⟩
 obtain ⟨w, h1, h2, h3⟩ := h j u (by omega) hu
 exact ⟨w, h1, h2, h3.mono (InM.mono k)⟩
theorem MemU.all {R : Nat → Nat → Prop} {L L' : List Fld} {i : Nat} (h : MemU R L L' i) (hl : L.length = L'.length) (hi : L.length ≤ i) : MemR R L L' := ⟨hl, fun f hf => by
 obtain ⟨j, hj⟩ := List.getElem?_of_mem hf
 exact h j f (by have := (List.getElem?_eq_some_iff.1 hj).1; omega) hj⟩
theorem find_mem {L : List Fld} {s : ByteArray} {g : Fld} (h : (L.find? fun f => decide (f.name = s)) = some g) : g ∈ L ∧ g.name = s := ⟨List.mem_of_find?_eq_some h, by simpa using List.find?_some h⟩
theorem mem_one {L : List Fld} (hnd : (fnames L).Nodup) {f g : Fld} (hf : f ∈ L) (hg : g ∈ L) (hn : f.name = g.name) : f = g := by
 obtain ⟨i, hi⟩ := List.getElem?_of_mem hf
 obtain ⟨j, hj⟩ := List.getElem?_of_mem hg
 have h1 := fnames_get hi
 have h2 := fnames_get hj
 have e : i = j := by
  have h3 := (List.getElem?_eq_some_iff.1 h1)
  have h4 := (List.getElem?_eq_some_iff.1 h2)
  obtain ⟨l1, e1⟩ := h3
  obtain ⟨l2, e2⟩ := h4
  rcases Nat.lt_trichotomy i j with hlt | rfl | hlt
  ·have := List.pairwise_iff_getElem.1 hnd i j l1 l2 hlt
   rw [e1, e2] at this
   exact absurd hn this
  ·rfl
  have := List.pairwise_iff_getElem.1 hnd j i l2 l1 hlt
  rw [e1, e2] at this
  exact absurd hn.symm this
 subst e
 rw [hi] at hj
 exact Option.some.inj hj
theorem EqT.ty {l : List Ty} (hb : Sound8 l) {a b : Nat} {x y : Ty} (hx : l[a]? = some x) (hy : l[b]? = some y) (h : EqT l a b) : TyR (EqT l) x y := by
 obtain ⟨x', y', h1, h2, h3⟩ := h.step hb (List.getElem?_eq_some_iff.1 hx).1
 rw [hx] at h1
 rw [hy] at h2
 cases h1
 cases h2
 exact h3
def ElsU (R : Nat → Nat → Prop) (L L' : List Int) (i : Nat) : Prop := ∀ (j : Nat) (p q : Int), j < i → L[j]? = some p → L'[j]? = some q → RI R p q
theorem ElsU.succ {M M' : Prs} {L L' : List Int} {i : Nat} {p q : Int} (h : ElsU (InM M) L L' i) (k : Grown M M') (hf : L[i]? = some p) (hg : L'[i]? = some q) (hr : RI (InM M') p q) : ElsU (InM M') L L' (i + 1) := fun j u w hj hu hw => by
 by_cases e : j = i
 ·subst e
  rw [hf] at hu
  rw [hg] at hw
  cases hu
  cases hw
  exact hr
 exact (h j u w (by omega) hu hw).mono (InM.mono k)
theorem ElsU.all {R : Nat → Nat → Prop} {L L' : List Int} {i : Nat} (h : ElsU R L L' i) (hl : L.length = L'.length) (hi : L.length ≤ i) : ElsR R L L' := ⟨hl, fun j f g hf hg => h j f g (by have := (List.getElem?_eq_some_iff.1 hf).1; omega) hf hg⟩
def ArmsU (R : Nat → Nat → Prop) (L L' : List Arm) (i : Nat) : Prop := ∀ (j : Nat) (f g : Arm), j < i → L[j]? = some f → L'[j]? = some g → f.name = g.name ∧ FldsR R f.fields g.fields
theorem ArmsU.mono {M M' : Prs} {L L' : List Arm} {i : Nat} (h : ArmsU (InM M) L L' i) (k : Grown M M') : ArmsU (InM M') L L' i := fun j f g hj hf hg => ⟨(h j f g hj hf hg).1, (h j f g hj hf hg).2.mono (InM.mono k)⟩
theorem ArmsU.succ {M M' : Prs} {L L' : List Arm} {i : Nat} {f g : Arm} (h : ArmsU (InM M) L L' i) (k : Grown M M') (hf : L[i]? = some f) (hg : L'[i]? = some g) (hn : f.name = g.name) (hr : FldsR (InM M') f.fields g.fields) : ArmsU (InM M') L L' (i + 1) := fun j u w hj hu hw => by
 by_cases e : j = i
 ·subst e
  rw [hf] at hu
  rw [hg] at hw
  cases hu
  cases hw
  exact ⟨hn, hr⟩
 exact h.mono k j u w (by omega) hu hw
theorem ArmsU.all {R : Nat → Nat → Prop} {L L' : List Arm} {i : Nat} (h : ArmsU R L L' i) (hl : L.length = L'.length) (hi : L.length ≤ i) : ArmsR R L L' := ⟨hl, fun j f g hf hg => h j f g (by have := (List.getElem?_eq_some_iff.1 hf).1; omega) hf hg⟩
theorem shape_arms {x : Ty} (h : shapedB x = true) (hk : x.kind ≠ 10) : x.arms = [] := by
 unfold shapedB at h
 have h := of_decide_eq_true h
 simp only [shapeP] at h
 exact List.eq_nil_of_length_eq_zero (by omega)
/-- A module's members are compared last. -/
theorem EqA.mods {l : List Ty} {M M1 : Prs} {a b : Nat} {x y : Ty} {P : Prop} {z : Bool × Prs} (hb8 : Sound8 l) (hx : l[a]? = some x) (hy : l[b]? = some y) (hh : HeadR x y) (hk : x.kind = 13) (hsx : shapedB x = true) (hsy : shapedB y = true) (hR : RowA l ((a, b) :: M) M1 P) (he : ElsR (InM M1) x.elems y.elems) (hz : RelA l M1 (fun R => MemR R x.fields y.fields) z) : EqA l M a b z := by
 obtain ⟨zb, M2⟩ := z
 cases zb with
 | true =>
  obtain ⟨h1, h2⟩ := hz.yes rfl
  have hax := shape_arms hsx (by omega)
  have hay := shape_arms hsy (by rw [← hh.1]; omega)
  refine EqA.close (P := True) hx hy ⟨hR.grown.trans hz.grown, fun h => hz.bnd (hR.bnd h), hR.closed.trans h1 hz.grown, trivial⟩ ⟨hh, he.mono (InM.mono hz.grown), by rw [if_pos hk]; exact h2, ?_⟩
  rw [hax, hay]
  exact ⟨rfl, fun i f g hf => by cases hf⟩
 | false =>
  refine EqA.fail (fun p hp => hz.grown _ (hR.grown _ (List.mem_cons_of_mem _ hp))) (fun hM => hz.bnd (hR.bnd fun p hp => ?_)) fun h => hz.no rfl ?_
  ·rcases List.mem_cons.1 hp with rfl | hp
   ·exact ⟨(List.getElem?_eq_some_iff.1 hx).1, (List.getElem?_eq_some_iff.1 hy).1⟩
   exact hM p hp
  have := (h.ty hb8 hx hy).flds
  rw [if_pos hk] at this
  exact this
theorem Bnd.cons {l : List Ty} {M : Prs} {a b : Nat} (h : Bnd l M) (ha : a < l.length) (hb : b < l.length) : Bnd l ((a, b) :: M) := fun p hp => by
 rcases List.mem_cons.1 hp with rfl | hp
 ·exact ⟨ha, hb⟩
 exact h p hp
/-- One comparison says no. -/
theorem EqA.stop {l : List Ty} {M M1 M2 : Prs} {a b : Nat} {x y : Ty} {P : Prop} (hx : l[a]? = some x) (hy : l[b]? = some y) (hR : RowA l ((a, b) :: M) M1 P) (g : Grown M1 M2) (gb : Bnd l M1 → Bnd l M2) (h : ¬ EqT l a b) : EqA l M a b (false, M2) :=
 EqA.fail (fun p hp => g _ (hR.grown _ (List.mem_cons_of_mem _ hp))) (fun hM => gb (hR.bnd (hM.cons (List.getElem?_eq_some_iff.1 hx).1 (List.getElem?_eq_some_iff.1 hy).1))) h
theorem nodup_fields {n : Nat} {t : Ty} (h : singleE n t = 0) : (fnames t.fields).Nodup := by
 have h1 := (single_zero h).2.2.2.1
 unfold twiceB at h1
 have h2 : dupB (fnames t.fields) = false := by
  cases h3 : dupB (fnames t.fields) with
  | false => rfl
  | true =>
   rw [h3] at h1
   cases h1
 unfold dupB at h2
 simpa using h2
theorem cfields_ok {l : List Ty} {al : Option Addr} {cl bs bm n : Nat} {M : Prs} {x0 : List MapEntry × Nat} {L L2 : List Fld} {va vb : Value} {m : AW} (hm : m.lo ≤ m.next) (hk : Knows [bm] m m (MapC bm x0)) (hM : MetA M x0) (hB : Bnd l M) (hp : CmpPre l al cl bs bm m) (hn : unmet l.length M < n) (heq : ∀ p q : Nat, p < l.length → q < l.length → EqualC prog l al cl bs bm n p q) (hfa : Sl (Off [bm] m) 2 RFld L va) (hfb : Sl (Off [bm] m) 2 RFld L2 vb) (hL : ∀ (j : Nat) (f : Fld), L[j]? = some f → ∃ q : Nat, f.type = Int.ofNat q ∧ q < l.length) (hL2 : ∀ (j : Nat) (f : Fld), L2[j]? = some f → ∃ q : Nat, f.type = Int.ofNat q ∧ q < l.length) : Fc prog 135 [ptr bs, va, vb] m fun v m' => RelQ l bm M (fun R => FldsR R L L2) m v m' := by
 obtain ⟨aa, ca, rfl, hna, hfa⟩ := hfa
 obtain ⟨ab, cb, rfl, hnb, hfb⟩ := hfb
 have hM0 := hM
 have hB0 := hB
 have hn0 := hn
 refine Fc.bodyS (S := [bm]) (c := _) func135 rfl rfl rfl rfl hk ?_
 refine .seq (.region (.P ?_))
 refine .nil (.seq (.seq (.seq (.region (.P ?_)))))
 refine .G (ln47 ..) ?_
 refine .P ?_
 refine .G (ln47 ..) ?_
 refine .P ?_
 refine .nil (.seq (.cond rfl (fun ht12 => ?_) fun ht12 => ?_))
 ·try simp only [nz] at ht12
  refine .seq (.region (.P ?_))
  refine .nil (.seq (.ret (.seq ?_)))
  exact .end_ rfl rfl (fun m hm => ⟨((false, M), x0), ⟨RelA.fail (Grown.refl _) id fun h => absurd h.1 (by omega), hM⟩, rfl, hm⟩)
 try simp only [nz] at ht12
 have hll : L.length = L2.length := by omega
 refine .skip (.seq (.seq (.seq (.region (.P ?_)))))
 refine .G (ln47 ..) ?_
 refine .P ?_
 refine .nil (.seq (.block ?_))
 refine .loop (α := Nat × Prs × (List MapEntry × Nat)) (fun q => [(0, ptr bs), (1, .slice aa L.length ca), (2, .slice ab L2.length cb), (14, .int .i64 (Int.ofNat (L.length))), (15, .int .i64 (Int.ofNat (q.1)))]) (fun q => [(bm, .map q.2.2.1 q.2.2.2)]) (fun q => q.1 ≤ L.length ∧ RowA l M q.2.1 (FldsU (InM q.2.1) L L2 q.1) ∧ MetA q.2.1 q.2.2) (fun q => L.length - q.1) (0, M, x0) ⟨Nat.zero_le _, RowA.init (fun _ _ _ h => absurd h (Nat.not_lt_zero _)), hM0⟩ ⟨rfl, rfl, rfl, rfl, rfl, trivial⟩ (.refl _) (fun q hq0 => ?_)
 obtain ⟨i, M1, x1⟩ := q
 obtain ⟨hi, hR, hM1⟩ := hq0
 simp only at hi hR hM1
 have hB1 := hR.bnd hB0
 have hu1 := Nat.lt_of_le_of_lt (unmet_le (n := l.length) hR.grown) hn0
 refine .seq (.region (.P ?_))
 refine .nil (.seq (.seq (.cond rfl (fun ht16 => ?_) fun ht16 => ?_)))
 ·try simp only [nz] at ht16
  have hltA : i < L.length := by omega
  obtain ⟨f, hf⟩ := gx hltA
  obtain ⟨bA, offA, csA, elA, gA, mdA, mateA, rfl, ⟨hbA, hhA⟩, hleA, hcA⟩ := so hfa hltA
  have hrf := hcA i f hf
  have hltB : i < L2.length := by omega
  obtain ⟨g_, hg⟩ := gx hltB
  obtain ⟨bB, offB, csB, elB, gB, mdB, mateB, rfl, ⟨hbB, hhB⟩, hleB, hcB⟩ := so hfb hltB
  have hrg := hcB i g_ hg
  obtain ⟨p, hp0, hpl⟩ := hL i f hf
  obtain ⟨q, hq0, hql⟩ := hL2 i g_ hg
  refine .skip (.seq (.seq (.block (.seq (.region (.P2 ?_))))))
  refine .nil (.seq (.seq ?_))
  refine .D [(15, 0), (15, 0), (15, 3), (15, 7), (3, 15), (15, 0), (15, 0), (15, 96), (15, 224), (3, 480), (15, 1023), (15, 2047), (15, 4095), (15, 4095), (15, 4095), (15, 28671), (15, 61439), (3, 126975), (15, 4095), (15, 4095), (15, 790527), (15, 1839103), (3, 3936255), (7, 8388607), (15, 16777215), (15, 33554431)] (by kernel_rfl) (by kernel_rfl) (fun base hbase hB => ?_)
  iterate 2 refine .P ?_
  refine .K underlying47 sz132 ?_
  refine .F fa132_0 ?_
  refine .M ag9 (Off.sees rfl rfl _ _ ⟨hbA, hhA⟩) (cell_of_take hrf (k := 0) rfl) ?_
  iterate 2 refine .P ?_
  refine .K underlying47 sz132 ?_
  refine .F fa132_0 ?_
  refine .M ag9 (Off.sees rfl rfl _ _ ⟨hbB, hhB⟩) (cell_of_take hrg (k := 0) rfl) ?_
  iterate 2 refine .P ?_
  refine .splitB 29 rfl (fun hs_29 => ?_) (fun hs_29 => ?_)
  ·try simp only [nz] at hs_29
   have hnn : f.name ≠ g_.name := by assumption
   iterate 13 refine .O ?_
   refine .P ?_
   refine .nil (.seq (.cond_true rfl (.seq (.region (.P ?_)))))
   refine .nil (.seq (.ret (.blk (.seq (.loop (.blk (.seq ?_)))))))
   exact .end_ rfl rfl (fun m hm => ⟨((false, M1), x1), ⟨RelA.fail hR.grown hR.bnd fun h => hnn (h.2 i f g_ hf hg).1, hM1⟩, rfl, hm⟩)
  try simp only [nz] at hs_29
  have hnn : f.name = g_.name := by assumption
  iterate 3 refine .P ?_
  refine .K underlying47 sz132 ?_
  refine .F fa132_1 ?_
  refine .M ag3 (Off.sees rfl rfl _ _ ⟨hbA, hhA⟩) (cell_of_take hrf (k := 1) rfl) ?_
  refine .as 35 (.int .i64 (Int.ofNat p)) rfl (congrArg (Value.int .i64) hp0) ?_
  iterate 2 refine .P ?_
  refine .K underlying47 sz132 ?_
  refine .F fa132_1 ?_
  refine .M ag3 (Off.sees rfl rfl _ _ ⟨hbB, hhB⟩) (cell_of_take hrg (k := 1) rfl) ?_
  refine .as 40 (.int .i64 (Int.ofNat q)) rfl (congrArg (Value.int .i64) hq0) ?_
  refine .callc (fun y : CmpY => EqA l M1 p q y.1 ∧ MetA y.1.2 y.2) (fun y => .bool y.1.1) (fun y => [(bm, .map y.2.1 y.2.2)]) .one rfl rfl (by kernel_rfl) (by kernel_rfl) rfl rfl rfl rfl rfl rfl (fun m2 g0 g2 gb gr => heq p q hpl hql m2 x1 M1 g0 g2 hM1 hB1 (hp.mono gb) hu1) (fun y hy => ?_)
  refine .p rfl rfl rfl rfl rfl (.p rfl rfl rfl rfl rfl (.of (.nil (.seq (.cond rfl (fun ht43 => ?_) fun ht43 => ?_)))))
  ·obtain ⟨hy, hyM⟩ := hy
   have hyf : y.1.1 = false := by cases h_ : y.1.1 with | false => rfl | true => rw [h_] at ht43; cases ht43
   refine .seq (.region (.P ?_))
   refine .nil (.seq (.ret (.blk (.seq (.loop (.blk (.seq ?_)))))))
   exact .end_ rfl rfl (fun m hm => ⟨((false, y.1.2), y.2), ⟨RelA.fail (hR.grown.trans hy.grown) (fun h => hy.bnd (hR.bnd h)) fun h => hy.no hyf (by have := (h.2 i f g_ hf hg).2; rw [hp0, hq0] at this; exact this.nat), hyM⟩, rfl, hm⟩)
  obtain ⟨hy, hyM⟩ := hy
  have hyt : y.1.1 = true := by cases h_ : y.1.1 with | true => rfl | false => rw [h_] at ht43; cases ht43
  refine .skip (.blk (.seq (.region (.P ?_))))
  refine .W 44 i ?_
  refine .P ?_
  refine .nil ?_
  exact .loop (i + 1, y.1.2, y.2) ⟨by omega, hR.more hy hyt (hR.all.succ hy.grown hf hg hnn ⟨p, q, hp0, hq0, (hy.yes hyt).1⟩), hyM⟩ (by show L.length - (i + 1) < L.length - i; omega) ⟨rfl, rfl, rfl, rfl, rfl, trivial⟩ (.refl _)
 try simp only [nz] at ht16
 refine .exit (.seq (.loop (.here (.seq (.seq (.region (.P ?_)))))))
 refine .nil (.seq (.ret ?_))
 exact .end_ rfl rfl (fun m hm => ⟨((true, M1), x1), ⟨RelA.good hR (hR.all.all hll (by omega)), hM1⟩, rfl, hm⟩)
theorem cmembers_ok {l : List Ty} {al : Option Addr} {cl bs bm n : Nat} {M : Prs} {x0 : List MapEntry × Nat} {L L2 : List Fld} {va vb : Value} {m : AW} (hm : m.lo ≤ m.next) (hk : Knows [bm] m m (MapC bm x0)) (hM : MetA M x0) (hB : Bnd l M) (hp : CmpPre l al cl bs bm m) (hn : unmet l.length M < n) (heq : ∀ p q : Nat, p < l.length → q < l.length → EqualC prog l al cl bs bm n p q) (hfa : Sl (Off [bm] m) 2 RFld L va) (hfb : Sl (Off [bm] m) 2 RFld L2 vb) (hL : ∀ (j : Nat) (f : Fld), L[j]? = some f → ∃ q : Nat, f.type = Int.ofNat q ∧ q < l.length) (hL2 : ∀ (j : Nat) (f : Fld), L2[j]? = some f → ∃ q : Nat, f.type = Int.ofNat q ∧ q < l.length) (hnd : (fnames L2).Nodup) : Fc prog 134 [ptr bs, va, vb] m fun v m' => RelQ l bm M (fun R => MemR R L L2) m v m' := by
 obtain ⟨aa, ca, rfl, hna, hfa⟩ := hfa
 obtain ⟨ab, cb, rfl, hnb, hfb⟩ := hfb
 have hM0 := hM
 have hB0 := hB
 have hn0 := hn
 refine Fc.bodyS (S := [bm]) (c := _) func134 rfl rfl rfl rfl hk ?_
 refine .seq (.region (.P ?_))
 refine .nil (.seq (.seq (.seq (.region (.P ?_)))))
 refine .G (ln47 ..) ?_
 refine .P ?_
 refine .G (ln47 ..) ?_
 refine .P ?_
 refine .nil (.seq (.cond rfl (fun ht18 => ?_) fun ht18 => ?_))
 ·try simp only [nz] at ht18
  refine .seq (.region (.P ?_))
  refine .nil (.seq (.ret (.seq ?_)))
  exact .end_ rfl rfl (fun m hm => ⟨((false, M), x0), ⟨RelA.fail (Grown.refl _) id fun h => absurd h.1 (by omega), hM⟩, rfl, hm⟩)
 try simp only [nz] at ht18
 have hll : L.length = L2.length := by omega
 refine .skip (.seq (.seq (.region ?_)))
 refine .makeMap rfl rfl rfl rfl (fun b19 hb19 => ?_)
 refine .P ?_
 refine .nil (.seq (.seq (.seq (.region (.P ?_)))))
 refine .G (ln47 ..) ?_
 refine .P ?_
 refine .nil (.seq (.block ?_))
 refine .loop (α := Nat × List MapEntry × Nat × List (ByteArray × Value)) (fun q => [(0, ptr bs), (1, .slice aa L.length ca), (7, .map (some b19)), (20, .slice ab L2.length cb), (21, .int .i64 (Int.ofNat (L2.length))), (22, .int .i64 (Int.ofNat (q.1)))]) (fun q => [(b19, .map q.2.1 q.2.2.1), (bm, .map x0.1 x0.2)]) (fun q => q.1 ≤ L2.length ∧ PairsK Value.string q.2.1 q.2.2.2 ∧ TypN (L2.take q.1) q.2.2.2) (fun q => L2.length - q.1) (0, [], 0, []) ⟨Nat.zero_le _, trivial, TypN.nil⟩ ⟨rfl, rfl, rfl, rfl, rfl, rfl, trivial⟩ (.refl _) (fun q hq0 => ?_)
 obtain ⟨i, es, c, lN⟩ := q
 obtain ⟨hi, hP, hN⟩ := hq0
 simp only at hi hP hN
 refine .seq (.region (.P ?_))
 refine .nil (.seq (.seq (.cond rfl (fun ht23 => ?_) fun ht23 => ?_)))
 ·try simp only [nz] at ht23
  have hltB : i < L2.length := by omega
  obtain ⟨g_, hg⟩ := gx hltB
  obtain ⟨bB, offB, csB, elB, gB, mdB, mateB, rfl, ⟨hbB, hhB⟩, hleB, hcB⟩ := so hfb hltB
  have hrg := hcB i g_ hg
  refine .skip (.seq (.seq (.block (.seq (.region (.K underlying47 sz132 ?_))))))
  refine .A ag132 sz132 (Off.sees rfl rfl _ _ ⟨hbB, hhB⟩) hrg ?_
  refine .alloc rfl rfl rfl rfl zr132 (fun b9 hb9 => ?_)
  refine .S sz132 ?_
  refine .nil (.seq (.region (.P ?_)))
  refine .F fa132_0 ?_
  refine .L ag9 ?_
  refine .F fa132_1 ?_
  refine .L ag3 ?_
  refine .mapUpdate (K := Value.string) (.tail .one) hP (KeyOk.string underlying9) rfl rfl rfl underlying206 rfl rfl rfl (fun es1 c1 hP1 => ?_)
  refine .nil (.blk (.seq (.region (.P ?_))))
  refine .W 31 i ?_
  refine .P ?_
  refine .nil ?_
  exact .loop (i + 1, es1, c1, _) ⟨hltB, hP1, hN.take hnd hg⟩ (by show L2.length - (i + 1) < L2.length - i; omega) ⟨rfl, rfl, rfl, rfl, rfl, rfl, trivial⟩ (.cons_cons _ (.cons _ (.refl _)))
 try simp only [nz] at ht23
 rw [List.take_of_length_le (show L2.length ≤ i by omega)] at hN
 refine .exit (.seq (.loop (.here (.seq (.seq (.seq (.region (.P ?_))))))))
 refine .G (ln47 ..) ?_
 refine .P ?_
 refine .nil (.seq (.block ?_))
 refine .swap (.swap _ _ _) (.loop (α := Nat × Prs × (List MapEntry × Nat)) (fun q => [(0, ptr bs), (7, .map (some b19)), (32, .slice aa L.length ca), (33, .int .i64 (Int.ofNat (L.length))), (34, .int .i64 (Int.ofNat (q.1)))]) (fun q => [(bm, .map q.2.2.1 q.2.2.2), (b19, .map es c)]) (fun q => q.1 ≤ L.length ∧ RowA l M q.2.1 (MemU (InM q.2.1) L L2 q.1) ∧ MetA q.2.1 q.2.2) (fun q => L.length - q.1) (0, M, x0) ⟨Nat.zero_le _, RowA.init (fun _ _ h => absurd h (Nat.not_lt_zero _)), hM0⟩ ⟨rfl, rfl, rfl, rfl, rfl, trivial⟩ (.refl _) (fun q hq0 => ?_))
 obtain ⟨k, M1, x1⟩ := q
 obtain ⟨hk, hR, hM1⟩ := hq0
 simp only at hk hR hM1
 have hB1 := hR.bnd hB0
 have hu1 := Nat.lt_of_le_of_lt (unmet_le (n := l.length) hR.grown) hn0
 refine .seq (.region (.P ?_))
 refine .nil (.seq (.seq (.cond rfl (fun ht35 => ?_) fun ht35 => ?_)))
 ·try simp only [nz] at ht35
  have hltA : k < L.length := by omega
  obtain ⟨f, hf⟩ := gx hltA
  obtain ⟨bA, offA, csA, elA, gA, mdA, mateA, rfl, ⟨hbA, hhA⟩, hleA, hcA⟩ := so hfa hltA
  have hrf := hcA k f hf
  obtain ⟨p, hp0, hpl⟩ := hL k f hf
  refine .skip (.seq (.seq (.block (.seq (.region (.K underlying47 sz132 ?_))))))
  refine .A ag132 sz132 (Off.sees rfl rfl _ _ ⟨hbA, hhA⟩) hrf ?_
  refine .alloc rfl rfl rfl rfl zr132 (fun b11 hb11 => ?_)
  refine .S sz132 ?_
  refine .nil (.seq (.seq (.region (.P ?_))))
  refine .F fa132_0 ?_
  refine .L ag9 ?_
  rcases hfnd : L2.find? (fun h => decide (h.name = f.name)) with _ | g_
  ·refine .lookupOk (K := Value.string) (.tail (.tail .one)) hP (KeyOk.string underlying9) rfl rfl rfl rfl underlying206 zr3 rfl rfl (v := .tuple ⟨[.int .i64 0, .bool false]⟩) (by rw [hN f.name, hfnd]; rfl) ?_
   iterate 5 refine .P ?_
   refine .nil (.seq (.seq (.region (.P3 ?_))))
   iterate 6 refine .O ?_
   refine .P ?_
   refine .nil (.seq (.cond_true rfl (.seq (.region (.P ?_)))))
   refine .nil (.seq (.ret (.blk (.seq (.loop (.blk (.seq ?_)))))))
   exact .end_ rfl rfl (by first | exact (fun m hm => ⟨((false, M1), x1), ⟨RelA.fail hR.grown hR.bnd fun h => (by obtain ⟨w, h1, h2, _⟩ := h.2 f (List.mem_of_getElem? hf); have := List.find?_eq_none.1 hfnd w h1; simp [h2] at this), hM1⟩, rfl, hm.sub (.cons _ (.cons_cons _ (List.nil_sublist _)))⟩) | exact (fun m hm => ⟨((false, y.1.2), y.2), ⟨RelA.fail (hR.grown.trans hy.grown) (fun h => hy.bnd (hR.bnd h)) fun h => hy.no hyf (by obtain ⟨w, h1, h2, h3⟩ := h.2 f (List.mem_of_getElem? hf); have he := mem_one hnd h1 hgm (h2.trans hgn.symm); subst he; rw [hp0, hq0] at h3; exact h3.nat), hyM⟩, rfl, hm.sub (.cons_cons _ (List.nil_sublist _))⟩) | exact (fun m hm => ⟨((true, M1), x1), ⟨RelA.good hR (hR.all.all hll (by omega)), hM1⟩, rfl, hm.sub (.cons_cons _ (List.nil_sublist _))⟩))
  obtain ⟨hgm, hgn⟩ := find_mem hfnd
  obtain ⟨jg, hjg⟩ := List.getElem?_of_mem hgm
  obtain ⟨q, hq0, hql⟩ := hL2 jg g_ hjg
  refine .lookupOk (K := Value.string) (.tail (.tail .one)) hP (KeyOk.string underlying9) rfl rfl rfl rfl underlying206 zr3 rfl rfl (v := .tuple ⟨[.int .i64 g_.type, .bool true]⟩) (by rw [hN f.name, hfnd]; rfl) ?_
  iterate 5 refine .P ?_
  refine .nil (.seq (.seq (.region ?_)))
  iterate 4 refine .P ?_
  refine .F fa132_1 ?_
  refine .L ag3 ?_
  refine .as 50 (.int .i64 (Int.ofNat p)) rfl (congrArg (Value.int .i64) hp0) ?_
  refine .P ?_
  refine .as 51 (.int .i64 (Int.ofNat q)) rfl (congrArg (Value.int .i64) hq0) ?_
  refine .callc (fun y : CmpY => EqA l M1 p q y.1 ∧ MetA y.1.2 y.2) (fun y => .bool y.1.1) (fun y => [(bm, .map y.2.1 y.2.2)]) (.tail .one) rfl rfl rfl rfl rfl rfl (fun m2 g1 g2 => heq p q hpl hql m2 x1 M1 g1.lole' g2 hM1 hB1 (hp.mono (Off.kr g1.kr)) hu1) (fun y hy => ?_)
  refine .P2 ?_
  refine .nil (.seq (.cond rfl (fun ht54 => ?_) fun ht54 => ?_))
  ·obtain ⟨hy, hyM⟩ := hy
   have hyf : y.1.1 = false := by cases h_ : y.1.1 with | false => rfl | true => rw [h_] at ht54; cases ht54
   refine .seq (.region (.P ?_))
   refine .nil (.seq (.ret (.blk (.seq (.loop (.blk (.seq ?_)))))))
   exact .end_ rfl rfl (by first | exact (fun m hm => ⟨((false, M1), x1), ⟨RelA.fail hR.grown hR.bnd fun h => (by obtain ⟨w, h1, h2, _⟩ := h.2 f (List.mem_of_getElem? hf); have := List.find?_eq_none.1 hfnd w h1; simp [h2] at this), hM1⟩, rfl, hm.sub (.cons _ (.cons_cons _ (List.nil_sublist _)))⟩) | exact (fun m hm => ⟨((false, y.1.2), y.2), ⟨RelA.fail (hR.grown.trans hy.grown) (fun h => hy.bnd (hR.bnd h)) fun h => hy.no hyf (by obtain ⟨w, h1, h2, h3⟩ := h.2 f (List.mem_of_getElem? hf); have he := mem_one hnd h1 hgm (h2.trans hgn.symm); subst he; rw [hp0, hq0] at h3; exact h3.nat), hyM⟩, rfl, hm.sub (.cons_cons _ (List.nil_sublist _))⟩) | exact (fun m hm => ⟨((true, M1), x1), ⟨RelA.good hR (hR.all.all hll (by omega)), hM1⟩, rfl, hm.sub (.cons_cons _ (List.nil_sublist _))⟩))
  obtain ⟨hy, hyM⟩ := hy
  have hyt : y.1.1 = true := by cases h_ : y.1.1 with | true => rfl | false => rw [h_] at ht54; cases ht54
  refine .skip (.blk (.seq (.region (.P ?_))))
  refine .W 55 k ?_
  refine .P ?_
  refine .nil ?_
  exact .loop (k + 1, y.1.2, y.2) ⟨by omega, hR.more hy hyt (hR.all.succ hy.grown hf hgm hgn ⟨p, q, hp0, hq0, (hy.yes hyt).1⟩), hyM⟩ (by show L.length - (k + 1) < L.length - k; omega) ⟨rfl, rfl, rfl, rfl, rfl, trivial⟩ (.cons_cons _ (.cons _ (.refl _)))
 try simp only [nz] at ht35
 refine .exit (.seq (.loop (.here (.seq (.seq (.region (.P ?_)))))))
 refine .nil (.seq (.ret ?_))
 exact .end_ rfl rfl (by first | exact (fun m hm => ⟨((false, M1), x1), ⟨RelA.fail hR.grown hR.bnd fun h => (by obtain ⟨w, h1, h2, _⟩ := h.2 f (List.mem_of_getElem? hf); have := List.find?_eq_none.1 hfnd w h1; simp [h2] at this), hM1⟩, rfl, hm.sub (.cons _ (.cons_cons _ (List.nil_sublist _)))⟩) | exact (fun m hm => ⟨((false, y.1.2), y.2), ⟨RelA.fail (hR.grown.trans hy.grown) (fun h => hy.bnd (hR.bnd h)) fun h => hy.no hyf (by obtain ⟨w, h1, h2, h3⟩ := h.2 f (List.mem_of_getElem? hf); have he := mem_one hnd h1 hgm (h2.trans hgn.symm); subst he; rw [hp0, hq0] at h3; exact h3.nat), hyM⟩, rfl, hm.sub (.cons_cons _ (List.nil_sublist _))⟩) | exact (fun m hm => ⟨((true, M1), x1), ⟨RelA.good hR (hR.all.all hll (by omega)), hM1⟩, rfl, hm.sub (.cons_cons _ (List.nil_sublist _))⟩))
theorem PT165 : PairT prog 165 3 .i64 := ⟨underlying165, underlying3, sz3, fun _ _ => by kernel_rfl, fun _ _ => by kernel_rfl⟩
theorem cequal_step {l : List Ty} {al : Option Addr} {cl bs bm n : Nat} {M : Prs} {x0 : List MapEntry × Nat} {a b_ : Nat} {m : AW} (hm : m.lo ≤ m.next) (hk : Knows [bm] m m (MapC bm x0)) (hM : MetA M x0) (hBd : Bnd l M) (hp : CmpPre l al cl bs bm m) (hn : unmet l.length M < n + 1) (hWl : Well l) (ha : a < l.length) (hb_ : b_ < l.length) (ih : ∀ p q : Nat, p < l.length → q < l.length → EqualC prog l al cl bs bm n p q) : Fc prog 105 [ptr bs, .int .i64 (Int.ofNat (a)), .int .i64 (Int.ofNat (b_))] m fun v m' => EqQ l bm M a b_ m v m' := by
 have hsS := hp.hs
 have hbsl := hsS.1
 have hsnd := hWl.sound
 obtain ⟨a_, cap_, he_, hnl, hl⟩ := hp.hl
 cases he_
 obtain ⟨x_, hx_⟩ := gx ha
 obtain ⟨y_, hy_⟩ := gx hb_
 rcases hl with ⟨e0, -⟩ | ⟨b, off, cs, el, g, md, mate, rfl, ⟨hb, hh⟩, hle, hc⟩
 ·rw [e0] at ha; simp at ha
 have hrX := hc a x_ hx_
 obtain ⟨veX, vfX, vaX, hrX, heX, hfX, hgX⟩ := hrX
 obtain ⟨aeX, ceX, rfl, hneX, heX⟩ := heX
 have hfSX := hfX
 obtain ⟨afX, cfX, rfl, hnfX, hfX⟩ := hfX
 obtain ⟨aaX, caX, rfl, hnaX, hgX⟩ := hgX
 have hrY := hc b_ y_ hy_
 obtain ⟨veY, vfY, vaY, hrY, heY, hfY, hgY⟩ := hrY
 obtain ⟨aeY, ceY, rfl, hneY, heY⟩ := heY
 have hfSY := hfY
 obtain ⟨afY, cfY, rfl, hnfY, hfY⟩ := hfY
 obtain ⟨aaY, caY, rfl, hnaY, hgY⟩ := hgY
 have hM0 := hM
 obtain ⟨lM, hP, hD⟩ := hM
 refine Fc.bodyS (S := [bm]) (c := _) func105 rfl rfl rfl rfl hk ?_
 refine .seq (.region (.P ?_))
 refine .nil (.seq (.seq (.seq (.region ?_))))
 iterate 4 refine .P ?_
 refine .splitB 14 rfl (fun hs_14 => ?_) (fun hs_14 => ?_)
 ·try simp only [nz] at hs_14
  have hab : a = b_ := by omega
  iterate 8 refine .O ?_
  refine .P ?_
  refine .nil (.seq (.cond_true rfl (.seq (.region (.P ?_)))))
  refine .nil (.seq (.ret (.seq ?_)))
  exact .end_ rfl rfl (fun m hm => ⟨((true, M), x0), ⟨EqA.here (.inl hab), hM0⟩, rfl, hm⟩)
 try simp only [nz] at hs_14
 refine .P2 ?_
 refine .F fa163_1 ?_
 refine .M ag161 (Off.sees rfl rfl _ _ hsS) rfl ?_
 refine .P2 ?_
 refine .p (v := pairV .i64 (Int.ofNat a, Int.ofNat b_)) rfl rfl rfl (by kernel_rfl) ?_
 refine .lookup (K := pairV .i64) (kv := (Int.ofNat a, Int.ofNat b_)) .one hP (KeyOk.pair PT165) rfl rfl rfl rfl underlying161 zr4 rfl rfl (MetA.look hD a b_) ?_
 refine .P ?_
 refine .nil (.seq (.cond rfl (fun ht23 => ?_) fun ht23 => ?_))
 ·have hin := of_decide_eq_true ht23
  refine .seq (.region (.P ?_))
  refine .nil (.seq (.ret (.seq ?_)))
  exact .end_ rfl rfl (fun m hm => ⟨((true, M), x0), ⟨EqA.here (.inr hin), hM0⟩, rfl, hm⟩)
 have hnm := of_decide_eq_false ht23
 refine .skip (.seq (.seq (.region (.P2 ?_))))
 refine .F fa163_1 ?_
 refine .M ag161 (Off.sees rfl rfl _ _ hsS) rfl ?_
 refine .P2 ?_
 refine .p (v := pairV .i64 (Int.ofNat a, Int.ofNat b_)) rfl rfl rfl (by kernel_rfl) ?_
 refine .mapUpdate (K := pairV .i64) (kv := (Int.ofNat a, Int.ofNat b_)) .one hP (KeyOk.pair PT165) rfl rfl rfl underlying161 rfl rfl rfl (fun es1 c1 hP1 => ?_)
 have hM0 := MetA.put (c := c1) hD hP1
 have hB0 := hBd.cons ha hb_
 have hn0 : unmet l.length ((a, b_) :: M) < n := by have := unmet_lt ha hb_ hnm (M' := (a, b_) :: M) (fun p hp => List.mem_cons_of_mem _ hp) List.mem_cons_self; omega
 refine .nil (.seq (.seq ?_))
 refine .D [(15, 0), (15, 1), (15, 3), (3, 7), (15, 0), (15, 31), (3, 63), (13, 0), (13, 128), (13, 384), (1, 896), (13, 0), (13, 3968), (1, 8064), (11, 0), (11, 0), (7, 49279), (7, 131071)] (by kernel_rfl) (by kernel_rfl) (fun base hbase hB => ?_)
 iterate 2 refine .P ?_
 refine .F fa163_0 ?_
 refine .M ag22 (Off.sees rfl rfl _ _ hsS) rfl ?_
 refine .P ?_
 refine .K underlying22 sz50 ?_
 refine .loadAgg rfl rfl rfl rfl rfl rfl rfl rfl ag50 sz50 (Off.sees rfl rfl _ _ ⟨hb, hh⟩) (by omega) hrX ?_
 iterate 2 refine .P ?_
 refine .F fa163_0 ?_
 refine .loadOld rfl rfl rfl rfl rfl rfl ag22 (Off.sees rfl rfl _ _ hsS) rfl (by first | exact hB _ _ (.head _) | exact hB _ _ (.tail _ (.head _)) | exact hB _ _ (.tail _ (.tail _ (.head _))) | exact hB _ _ (.tail _ (.tail _ (.tail _ (.head _)))) | exact hB _ _ (List.mem_append_right _ (.head _)) | exact hB _ _ (List.mem_append_right _ (.tail _ (.head _))) | exact Nat.lt_of_lt_of_le ‹_› hbase) ?_
 refine .P ?_
 refine .K underlying22 sz50 ?_
 refine .loadAggOld rfl rfl rfl rfl rfl rfl ag50 sz50 (Off.sees rfl rfl _ _ ⟨hb, hh⟩) (by omega) hrY (by first | exact hB _ _ (.head _) | exact hB _ _ (.tail _ (.head _)) | exact hB _ _ (.tail _ (.tail _ (.head _))) | exact hB _ _ (.tail _ (.tail _ (.tail _ (.head _)))) | exact hB _ _ (List.mem_append_right _ (.head _)) | exact hB _ _ (List.mem_append_right _ (.tail _ (.head _))) | exact Nat.lt_of_lt_of_le ‹_› hbase) ?_
 refine .alloc rfl rfl rfl rfl rfl zr50 (fun b7 hn7 hb7 => ?_)
 refine .alloc rfl rfl rfl rfl rfl zr50 (fun b8 hn8 hb8 => ?_)
 refine .storeNew rfl rfl (by kernel_rfl) hn7 rfl rfl rfl rfl rfl sz50 rfl (by first | exact .head | exact .tail .head | exact .tail (.tail .head) | exact .tail (.tail (.tail .head)) | exact updo) rfl ?_
 refine .storeNew rfl rfl (by kernel_rfl) hn8 rfl rfl rfl rfl rfl sz50 rfl (by first | exact .head | exact .tail .head | exact .tail (.tail .head) | exact .tail (.tail (.tail .head)) | exact updo) rfl ?_
 refine .nil (.seq ?_)
 refine .joinA (HeadR x_ y_) [] ?_ (fun hhd => ?_)
 ·refine .seq (.region (.F fa50_0 ?_))
  refine .L ag3 ?_
  refine .F fa50_0 ?_
  refine .L ag3 ?_
  refine .P2 ?_
  refine .splitB 50 rfl (fun hs_50 => ?_) (fun hs_50 => ?_)
  ·try simp only [nz] at hs_50
   iterate 7 refine .O ?_
   refine .P2 ?_
   iterate 7 refine .O ?_
   refine .P2 ?_
   iterate 10 refine .O ?_
   refine .P ?_
   refine .nil (.seq (.cond_true rfl (.seq (.region (.P ?_)))))
   refine .nil (.seq (.ret (.jn ?_)))
   exact .end_ rfl rfl (fun m hm => ⟨((false, (a, b_) :: M), (es1, c1)), ⟨EqA.fail (fun p hp => List.mem_cons_of_mem _ hp) (fun hM => hM.cons ha hb_) (fun h => (by obtain ⟨h1, h2, h3, h4⟩ := (h.ty hsnd hx_ hy_).head; first | omega | exact absurd (h4 (by omega)) (by assumption))), hM0⟩, rfl, hm.sub (.cons _ (.cons _ (.refl _)))⟩)
  try simp only [nz] at hs_50
  refine .F fa50_1 ?_
  refine .L ag32 ?_
  refine .G (ln32 ..) ?_
  refine .F fa50_1 ?_
  refine .L ag32 ?_
  refine .G (ln32 ..) ?_
  refine .P3 ?_
  refine .splitB 59 rfl (fun hs_59 => ?_) (fun hs_59 => ?_)
  ·try simp only [nz] at hs_59
   iterate 7 refine .O ?_
   refine .P2 ?_
   iterate 10 refine .O ?_
   refine .P ?_
   refine .nil (.seq (.cond_true rfl (.seq (.region (.P ?_)))))
   refine .nil (.seq (.ret (.jn ?_)))
   exact .end_ rfl rfl (fun m hm => ⟨((false, (a, b_) :: M), (es1, c1)), ⟨EqA.fail (fun p hp => List.mem_cons_of_mem _ hp) (fun hM => hM.cons ha hb_) (fun h => (by obtain ⟨h1, h2, h3, h4⟩ := (h.ty hsnd hx_ hy_).head; first | omega | exact absurd (h4 (by omega)) (by assumption))), hM0⟩, rfl, hm.sub (.cons _ (.cons _ (.refl _)))⟩)
  try simp only [nz] at hs_59
  refine .F fa50_4 ?_
  refine .L ag48 ?_
  refine .G (ln48 ..) ?_
  refine .F fa50_4 ?_
  refine .L ag48 ?_
  refine .G (ln48 ..) ?_
  refine .P3 ?_
  refine .splitB 68 rfl (fun hs_68 => ?_) (fun hs_68 => ?_)
  ·try simp only [nz] at hs_68
   iterate 10 refine .O ?_
   refine .P ?_
   refine .nil (.seq (.cond_true rfl (.seq (.region (.P ?_)))))
   refine .nil (.seq (.ret (.jn ?_)))
   exact .end_ rfl rfl (fun m hm => ⟨((false, (a, b_) :: M), (es1, c1)), ⟨EqA.fail (fun p hp => List.mem_cons_of_mem _ hp) (fun hM => hM.cons ha hb_) (fun h => (by obtain ⟨h1, h2, h3, h4⟩ := (h.ty hsnd hx_ hy_).head; first | omega | exact absurd (h4 (by omega)) (by assumption))), hM0⟩, rfl, hm.sub (.cons _ (.cons _ (.refl _)))⟩)
  try simp only [nz] at hs_68
  refine .F fa50_0 ?_
  refine .L ag3 ?_
  refine .P2 ?_
  refine .splitB 72 rfl (fun hs_72 => ?_) (fun hs_72 => ?_)
  ·try simp only [nz] at hs_72
   refine .F fa50_2 ?_
   refine .L ag9 ?_
   refine .F fa50_2 ?_
   refine .L ag9 ?_
   refine .P3 ?_
   refine .nil (.seq (.cond rfl (fun ht79 => ?_) fun ht79 => ?_))
   ·try simp only [nz] at ht79
    refine .seq (.region (.P ?_))
    refine .nil (.seq (.ret (.jn ?_)))
    exact .end_ rfl rfl (fun m hm => ⟨((false, (a, b_) :: M), (es1, c1)), ⟨EqA.fail (fun p hp => List.mem_cons_of_mem _ hp) (fun hM => hM.cons ha hb_) (fun h => (by obtain ⟨h1, h2, h3, h4⟩ := (h.ty hsnd hx_ hy_).head; first | omega | exact absurd (h4 (by omega)) (by assumption))), hM0⟩, rfl, hm.sub (.cons _ (.cons _ (.refl _)))⟩)
   try simp only [nz] at ht79
   refine .skip ?_
   exact .J (⟨by omega, by omega, by omega, fun h9 => (by first | assumption | omega)⟩)
  try simp only [nz] at hs_72
  iterate 5 refine .O ?_
  refine .P2 ?_
  refine .nil (.seq (.cond_false rfl (.skip ?_)))
  exact .J (⟨by omega, by omega, by omega, fun h9 => (by first | assumption | omega)⟩)
 refine .seq (.seq (.region (.F fa50_1 ?_)))
 refine .L ag32 ?_
 refine .G (ln32 ..) ?_
 refine .P ?_
 refine .nil (.seq (.block ?_))
 refine .swap (Pick.perm (.tail (.tail .one))) (.loop (α := Nat × Prs × (List MapEntry × Nat)) (fun q => [(0, ptr bs), (7, ptr b7), (8, ptr b8), (81, .slice aeX x_.elems.length ceX), (82, .int .i64 (Int.ofNat (x_.elems.length))), (83, .int .i64 (Int.ofNat (q.1)))]) (fun q => [(bm, .map q.2.2.1 q.2.2.2), (b8, .cells [.int .i64 y_.kind, .slice aeY y_.elems.length ceY, .string y_.name, .slice afY y_.fields.length cfY, .slice aaY y_.arms.length caY] 50 false .plain none), (b7, .cells [.int .i64 x_.kind, .slice aeX x_.elems.length ceX, .string x_.name, .slice afX x_.fields.length cfX, .slice aaX x_.arms.length caX] 50 false .plain none)]) (fun q => q.1 ≤ x_.elems.length ∧ RowA l ((a, b_) :: M) q.2.1 (ElsU (InM q.2.1) x_.elems y_.elems q.1) ∧ MetA q.2.1 q.2.2) (fun q => x_.elems.length - q.1) (0, ((a, b_) :: M), (es1, c1)) ⟨Nat.zero_le _, RowA.init (fun _ _ _ h => absurd h (Nat.not_lt_zero _)), hM0⟩ ⟨rfl, rfl, rfl, rfl, rfl, rfl, trivial⟩ (.refl _) (fun q hq0 => ?_))
 obtain ⟨i, M1, x1⟩ := q
 obtain ⟨hi, hR, hM1⟩ := hq0
 simp only at hi hR hM1
 have hB1 := hR.bnd hB0
 have hu1 := Nat.lt_of_le_of_lt (unmet_le (n := l.length) hR.grown) hn0
 refine .seq (.region (.P ?_))
 refine .nil (.seq (.seq (.cond rfl (fun ht84 => ?_) fun ht84 => ?_)))
 ·try simp only [nz] at ht84
  have hltE : i < x_.elems.length := by omega
  obtain ⟨p0, hp0⟩ := gx hltE
  obtain ⟨bE, offE, csE, elE, gE, mdE, mateE, rfl, ⟨hbE, hhE⟩, hleE, hcE⟩ := so heX hltE
  have hrp := hcE i p0 hp0
  have hltG : i < y_.elems.length := by have := hhd.2.1; omega
  obtain ⟨q0, hq0_⟩ := gx hltG
  obtain ⟨bG, offG, csG, elG, gG, mdG, mateG, rfl, ⟨hbG, hhG⟩, hleG, hcG⟩ := so heY hltG
  have hrq := hcG i q0 hq0_
  obtain ⟨p, rfl, hpl⟩ := parts_in (hsnd a x_ hx_) (parts_elem hp0)
  obtain ⟨q, rfl, hql⟩ := parts_in (hsnd b_ y_ hy_) (parts_elem hq0_)
  refine .skip (.seq (.seq (.block (.seq (.region (.P2 ?_))))))
  refine .nil (.seq (.seq ?_))
  refine .D [(15, 0), (15, 0), (3, 2), (15, 0), (15, 14), (3, 30), (15, 0), (3, 64), (15, 0), (15, 448), (3, 960), (7, 2047), (15, 4095)] (by kernel_rfl) (by kernel_rfl) (fun base hbase hB => ?_)
  refine .P ?_
  refine .F fa50_1 ?_
  refine .J ag32 ?_
  refine .P ?_
  refine .K underlying32 sz3 ?_
  refine .M ag3 (Off.sees rfl rfl _ _ ⟨hbE, hhE⟩) (cell_of_take hrp (k := 0) rfl) ?_
  refine .F fa50_1 ?_
  refine .J ag32 ?_
  refine .P ?_
  refine .K underlying32 sz3 ?_
  refine .M ag3 (Off.sees rfl rfl _ _ ⟨hbG, hhG⟩) (cell_of_take hrq (k := 0) rfl) ?_
  refine .callc (fun y : CmpY => EqA l M1 p q y.1 ∧ MetA y.1.2 y.2) (fun y => .bool y.1.1) (fun y => [(bm, .map y.2.1 y.2.2)]) .one rfl rfl (by kernel_rfl) (by kernel_rfl) rfl rfl rfl rfl rfl rfl (fun m2 g0 g2 gb gr => ih p q hpl hql m2 x1 M1 g0 g2 hM1 hB1 (hp.mono gb) hu1) (fun y hy => ?_)
  refine .p rfl rfl rfl rfl rfl (.of (.nil (.seq (.cond rfl (fun ht98 => ?_) fun ht98 => ?_))))
  ·obtain ⟨hy, hyM⟩ := hy
   have hyf : y.1.1 = false := by cases h_ : y.1.1 with | false => rfl | true => rw [h_] at ht98; cases ht98
   refine .seq (.region (.P ?_))
   refine .nil (.seq (.ret (.blk (.seq (.loop (.blk (.seq ?_)))))))
   exact .end_ rfl rfl (fun m hm => ⟨((false, y.1.2), y.2), ⟨EqA.stop hx_ hy_ hR hy.grown hy.bnd fun h => hy.no hyf (((h.ty hsnd hx_ hy_).els.2 i _ _ hp0 hq0_).nat), hyM⟩, rfl, hm.sub (.cons_cons _ (List.nil_sublist _))⟩)
  obtain ⟨hy, hyM⟩ := hy
  have hyt : y.1.1 = true := by cases h_ : y.1.1 with | true => rfl | false => rw [h_] at ht98; cases ht98
  refine .skip (.blk (.seq (.region (.P ?_))))
  refine .W 99 i ?_
  refine .P ?_
  refine .nil ?_
  exact .loop (i + 1, y.1.2, y.2) ⟨by omega, hR.more hy hyt (hR.all.succ hy.grown hp0 hq0_ ⟨p, q, rfl, rfl, (hy.yes hyt).1⟩), hyM⟩ (by show x_.elems.length - (i + 1) < x_.elems.length - i; omega) ⟨rfl, rfl, rfl, rfl, rfl, rfl, trivial⟩ (.refl _)
 try simp only [nz] at ht84
 have hels : ElsR (InM M1) x_.elems y_.elems := hR.all.all hhd.2.1 (by omega)
 refine .exit (.seq (.loop (.here (.seq (.seq (.seq (.region (.F fa50_0 ?_))))))))
 refine .L ag3 ?_
 refine .P ?_
 refine .nil (.seq (.cond rfl (fun ht102 => ?_) fun ht102 => ?_))
 ·try simp only [nz] at ht102
  have hk13 : x_.kind = 13 := by omega
  refine .seq (.region (.P ?_))
  refine .F fa50_3 ?_
  refine .L ag47 ?_
  refine .F fa50_3 ?_
  refine .L ag47 ?_
  refine .callc (fun y : CmpY => RelA l M1 (fun R => MemR R x_.fields y_.fields) y.1 ∧ MetA y.1.2 y.2) (fun y => .bool y.1.1) (fun y => [(bm, .map y.2.1 y.2.2)]) .one rfl rfl rfl rfl rfl rfl (fun m2 g1 g2 => cmembers_ok (x0 := x1) g1.lole' g2 hM1 hB1 (hp.mono (Off.kr g1.kr)) hu1 ih (hfSX.mono (Off.kr g1.kr) fun _ _ h => h) (hfSY.mono (Off.kr g1.kr) fun _ _ h => h) (parts_ok_fld (hsnd a x_ hx_) fun f_ hf_ => parts_fldm hf_) (parts_ok_fld (hsnd b_ y_ hy_) fun f_ hf_ => parts_fldm hf_) (nodup_fields (hWl.all b_ y_ hy_))) (fun y hy => ?_)
  refine .P ?_
  refine .nil (.seq (.ret (.seq ?_)))
  exact .end_ rfl rfl (fun m hm => ⟨y, ⟨EqA.mods hsnd hx_ hy_ hhd hk13 (single_zero (hWl.all a x_ hx_)).1 (single_zero (hWl.all b_ y_ hy_)).1 hR hels hy.1, hy.2⟩, rfl, hm.sub (.cons_cons _ (List.nil_sublist _))⟩)
 try simp only [nz] at ht102
 have hk13 : x_.kind ≠ 13 := by omega
 refine .skip (.seq (.seq (.seq (.region (.P ?_)))))
 refine .F fa50_3 ?_
 refine .L ag47 ?_
 refine .F fa50_3 ?_
 refine .L ag47 ?_
 refine .callc (fun y : CmpY => RelA l M1 (fun R => FldsR R x_.fields y_.fields) y.1 ∧ MetA y.1.2 y.2) (fun y => .bool y.1.1) (fun y => [(bm, .map y.2.1 y.2.2)]) .one rfl rfl rfl rfl rfl rfl (fun m2 g1 g2 => cfields_ok (x0 := x1) g1.lole' g2 hM1 hB1 (hp.mono (Off.kr g1.kr)) hu1 ih (hfSX.mono (Off.kr g1.kr) fun _ _ h => h) (hfSY.mono (Off.kr g1.kr) fun _ _ h => h) (parts_ok_fld (hsnd a x_ hx_) fun f_ hf_ => parts_fldm hf_) (parts_ok_fld (hsnd b_ y_ hy_) fun f_ hf_ => parts_fldm hf_)) (fun y hy => ?_)
 refine .P ?_
 refine .nil (.seq (.cond rfl (fun ht115 => ?_) fun ht115 => ?_))
 ·obtain ⟨hy, hyM⟩ := hy
  have hyf : y.1.1 = false := by cases h_ : y.1.1 with | false => rfl | true => rw [h_] at ht115; cases ht115
  refine .seq (.region (.P ?_))
  refine .nil (.seq (.ret (.seq ?_)))
  exact .end_ rfl rfl (fun m hm => ⟨((false, y.1.2), y.2), ⟨EqA.stop hx_ hy_ hR hy.grown hy.bnd fun h => hy.no hyf (by have := (h.ty hsnd hx_ hy_).flds; rw [if_neg hk13] at this; exact this), hyM⟩, rfl, hm.sub (.cons_cons _ (List.nil_sublist _))⟩)
 obtain ⟨hy, hyM⟩ := hy
 have hyt : y.1.1 = true := by cases h_ : y.1.1 with | true => rfl | false => rw [h_] at ht115; cases ht115
 refine .skip (.seq (.seq (.seq (.region (.F fa50_4 ?_)))))
 refine .L ag48 ?_
 refine .G (ln48 ..) ?_
 refine .P ?_
 refine .nil (.seq (.block ?_))
 have hR0 := hR.moreR hy hyt (P2 := ElsR (InM y.1.2) x_.elems y_.elems ∧ FldsR (InM y.1.2) x_.fields y_.fields) ⟨hels.mono (InM.mono hy.grown), (hy.yes hyt).2⟩
 have hM0 := hyM
 have hB0 := hR0.bnd (hBd.cons ha hb_)
 have hn0 := Nat.lt_of_le_of_lt (unmet_le (n := l.length) hR0.grown) hn0
 refine .loop (α := Nat × Prs × (List MapEntry × Nat)) (fun q => [(0, ptr bs), (7, ptr b7), (8, ptr b8), (117, .slice aaX x_.arms.length caX), (118, .int .i64 (Int.ofNat (x_.arms.length))), (119, .int .i64 (Int.ofNat (q.1)))]) (fun q => [(bm, .map q.2.2.1 q.2.2.2), (b8, .cells [.int .i64 y_.kind, .slice aeY y_.elems.length ceY, .string y_.name, .slice afY y_.fields.length cfY, .slice aaY y_.arms.length caY] 50 false .plain none), (b7, .cells [.int .i64 x_.kind, .slice aeX x_.elems.length ceX, .string x_.name, .slice afX x_.fields.length cfX, .slice aaX x_.arms.length caX] 50 false .plain none)]) (fun q => q.1 ≤ x_.arms.length ∧ RowA l y.1.2 q.2.1 (ArmsU (InM q.2.1) x_.arms y_.arms q.1) ∧ MetA q.2.1 q.2.2) (fun q => x_.arms.length - q.1) (0, y.1.2, y.2) ⟨Nat.zero_le _, RowA.init (fun _ _ _ h => absurd h (Nat.not_lt_zero _)), hM0⟩ ⟨rfl, rfl, rfl, rfl, rfl, rfl, trivial⟩ (.refl _) (fun q hq0 => ?_)
 obtain ⟨k, M1, x1⟩ := q
 obtain ⟨hk, hR, hM1⟩ := hq0
 simp only at hk hR hM1
 have hB1 := hR.bnd hB0
 have hu1 := Nat.lt_of_le_of_lt (unmet_le (n := l.length) hR.grown) hn0
 refine .seq (.region (.P ?_))
 refine .nil (.seq (.seq (.cond rfl (fun ht120 => ?_) fun ht120 => ?_)))
 ·try simp only [nz] at ht120
  have hltU : k < x_.arms.length := by omega
  obtain ⟨u, hu_⟩ := gx hltU
  obtain ⟨bU, offU, csU, elU, gU, mdU, mateU, rfl, ⟨hbU, hhU⟩, hleU, hcU⟩ := so hgX hltU
  have hru := hcU k u hu_
  have hltW : k < y_.arms.length := by have := hhd.2.2.1; omega
  obtain ⟨w, hw_⟩ := gx hltW
  obtain ⟨bW, offW, csW, elW, gW, mdW, mateW, rfl, ⟨hbW, hhW⟩, hleW, hcW⟩ := so hgY hltW
  have hrw := hcW k w hw_
  obtain ⟨vu, hru, hfu⟩ := hru
  obtain ⟨vw, hrw, hfw⟩ := hrw
  have hfuS := hfu
  have hfwS := hfw
  obtain ⟨au, cu, rfl, hnu, hfu⟩ := hfu
  obtain ⟨aw, cw, rfl, hnw, hfw⟩ := hfw
  refine .skip (.seq (.seq (.block (.seq (.region (.P2 ?_))))))
  refine .nil (.seq (.seq ?_))
  refine .D [(15, 0), (3, 1), (15, 0), (15, 7), (15, 15), (3, 31), (15, 0), (3, 64), (15, 0), (15, 448), (15, 960), (3, 1984), (15, 4095), (15, 8191), (15, 16383), (15, 16383), (3, 49151), (15, 16383), (15, 245759), (15, 507903), (3, 1032191), (15, 16383), (3, 2113535), (15, 16383), (15, 14696447), (15, 31473663), (3, 65028095), (7, 134217727), (15, 268435455), (15, 536870911)] (by kernel_rfl) (by kernel_rfl) (fun base hbase hB => ?_)
  refine .F fa50_4 ?_
  refine .J ag48 ?_
  refine .P ?_
  refine .K underlying48 sz55 ?_
  refine .F fa55_0 ?_
  refine .M ag9 (Off.sees rfl rfl _ _ ⟨hbU, hhU⟩) (cell_of_take hru (k := 0) rfl) ?_
  refine .F fa50_4 ?_
  refine .J ag48 ?_
  refine .P ?_
  refine .K underlying48 sz55 ?_
  refine .F fa55_0 ?_
  refine .M ag9 (Off.sees rfl rfl _ _ ⟨hbW, hhW⟩) (cell_of_take hrw (k := 0) rfl) ?_
  iterate 2 refine .P ?_
  refine .splitB 135 rfl (fun hs_135 => ?_) (fun hs_135 => ?_)
  ·try simp only [nz] at hs_135
   have hnn : u.name ≠ w.name := by assumption
   iterate 15 refine .O ?_
   refine .P ?_
   refine .nil (.seq (.cond_true rfl (.seq (.region (.P ?_)))))
   refine .nil (.seq (.ret (.blk (.seq (.loop (.blk (.seq ?_)))))))
   exact .end_ rfl rfl (fun m hm => ⟨((false, M1), x1), ⟨EqA.stop hx_ hy_ hR0 hR.grown hR.bnd fun h => hnn ((h.ty hsnd hx_ hy_).arms.2 k u w hu_ hw_).1, hM1⟩, rfl, hm.sub (.cons_cons _ (List.nil_sublist _))⟩)
  try simp only [nz] at hs_135
  have hnn : u.name = w.name := by assumption
  refine .P ?_
  refine .F fa50_4 ?_
  refine .J ag48 ?_
  refine .P ?_
  refine .K underlying48 sz55 ?_
  refine .F fa55_1 ?_
  refine .M ag47 (Off.sees rfl rfl _ _ ⟨hbU, hhU⟩) (cell_of_take hru (k := 1) rfl) ?_
  refine .F fa50_4 ?_
  refine .J ag48 ?_
  refine .P ?_
  refine .K underlying48 sz55 ?_
  refine .F fa55_1 ?_
  refine .M ag47 (Off.sees rfl rfl _ _ ⟨hbW, hhW⟩) (cell_of_take hrw (k := 1) rfl) ?_
  refine .callc (fun y : CmpY => RelA l M1 (fun R => FldsR R u.fields w.fields) y.1 ∧ MetA y.1.2 y.2) (fun y => .bool y.1.1) (fun y => [(bm, .map y.2.1 y.2.2)]) .one rfl rfl (by kernel_rfl) (by kernel_rfl) rfl rfl rfl rfl rfl rfl (fun m2 g0 g2 gb gr => cfields_ok (x0 := x1) g0 g2 hM1 hB1 (hp.mono gb) hu1 ih (hfuS.mono gb fun _ _ h => h) (hfwS.mono gb fun _ _ h => h) (parts_ok_fld (hsnd a x_ hx_) fun f_ hf_ => parts_armf (List.mem_of_getElem? hu_) hf_) (parts_ok_fld (hsnd b_ y_ hy_) fun f_ hf_ => parts_armf (List.mem_of_getElem? hw_) hf_)) (fun y hy => ?_)
  refine .p rfl rfl rfl rfl rfl (.p rfl rfl rfl rfl rfl (.of (.nil (.seq (.cond rfl (fun ht151 => ?_) fun ht151 => ?_)))))
  ·obtain ⟨hy, hyM⟩ := hy
   have hyf : y.1.1 = false := by cases h_ : y.1.1 with | false => rfl | true => rw [h_] at ht151; cases ht151
   refine .seq (.region (.P ?_))
   refine .nil (.seq (.ret (.blk (.seq (.loop (.blk (.seq ?_)))))))
   exact .end_ rfl rfl (fun m hm => ⟨((false, y.1.2), y.2), ⟨EqA.stop hx_ hy_ hR0 (hR.grown.trans hy.grown) (fun h => hy.bnd (hR.bnd h)) fun h => hy.no hyf ((h.ty hsnd hx_ hy_).arms.2 k u w hu_ hw_).2, hyM⟩, rfl, hm.sub (.cons_cons _ (List.nil_sublist _))⟩)
  obtain ⟨hy, hyM⟩ := hy
  have hyt : y.1.1 = true := by cases h_ : y.1.1 with | true => rfl | false => rw [h_] at ht151; cases ht151
  refine .skip (.blk (.seq (.region (.P ?_))))
  refine .W 152 k ?_
  refine .P ?_
  refine .nil ?_
  exact .loop (k + 1, y.1.2, y.2) ⟨by omega, hR.moreR hy hyt (hR.all.succ hy.grown hu_ hw_ hnn (hy.yes hyt).2), hyM⟩ (by show x_.arms.length - (k + 1) < x_.arms.length - k; omega) ⟨rfl, rfl, rfl, rfl, rfl, rfl, trivial⟩ (.refl _)
 try simp only [nz] at ht120
 refine .exit (.seq (.loop (.here (.seq (.seq (.region (.P ?_)))))))
 refine .nil (.seq (.ret ?_))
 exact .end_ rfl rfl (fun m hm => ⟨((true, M1), x1), ⟨EqA.close (P := True) hx_ hy_ ⟨hR0.grown.trans hR.grown, fun h => hR.bnd (hR0.bnd h), hR0.closed.trans hR.closed hR.grown, trivial⟩ ⟨hhd, hR0.all.1.mono (InM.mono hR.grown), by rw [if_neg hk13]; exact hR0.all.2.mono (InM.mono hR.grown), hR.all.all hhd.2.2.1 (by omega)⟩, hM1⟩, rfl, hm.sub (.cons_cons _ (List.nil_sublist _))⟩)

/-! What is asked about two types. -/
theorem equal_all {l : List Ty} {al : Option Addr} {cl bs bm : Nat} (hW : Well l) : ∀ (n a b : Nat), a < l.length → b < l.length → EqualC prog l al cl bs bm n a b
 | 0, _, _, _, _ => fun _ _ _ _ _ _ _ _ hlt => absurd hlt (Nat.not_lt_zero _)
 | n + 1, _, _, ha, hb => fun _ _ _ hm hk hM hB hp hn => cequal_step (n := n) hm hk hM hB hp hn hW ha hb (equal_all hW n)
theorem Bnd.nil (l : List Ty) : Bnd l [] := fun p hp => by cases hp
theorem Sl.two {b c : Nat} {t u : Int} {el : TypeId} {g : Bool} {md : CMode} {mate : Option Nat} (hc : 2 ≤ c := by decide) : Sl (InH [(b, .cells [.int .i64 t, .int .i64 u] el g md mate)]) 1 RInt [t, u] (.slice (some ⟨b, 0, none⟩) 2 c) :=
 ⟨some ⟨b, 0, none⟩, c, rfl, ⟨by simp, hc⟩, .inr ⟨b, 0, _, el, g, md, mate, rfl, List.mem_cons_self, by simp, fun i x hx => by
  match i with
  | 0 => cases hx; rfl
  | 1 => cases hx; rfl
  | i + 2 => cases hx⟩⟩
theorem AskP.at2 {l : List Ty} {t u : Int} (h : AskP l [t, u] 0) : ∃ p q : Nat, t = Int.ofNat p ∧ u = Int.ofNat q ∧ p < l.length ∧ q < l.length := by
 have h1 := h.well.2 0 t rfl
 have h2 := h.well.2 1 u rfl
 obtain ⟨p, rfl⟩ := Int.eq_ofNat_of_zero_le h1.1
 obtain ⟨q, rfl⟩ := Int.eq_ofNat_of_zero_le h2.1
 exact ⟨p, q, rfl, rfl, by omega, by omega⟩
/-- An error, or a fact on two types. -/
def TwoP (F : Nat → Nat → Prop) (l : List Ty) (t u : Int) (x : Bool × Int) : Prop := AskP l [t, u] x.2 ∧ (x.2 ≠ 0 → x.1 = false) ∧ (x.2 = 0 → ∃ p q : Nat, t = Int.ofNat p ∧ u = Int.ofNat q ∧ (x.1 = true ↔ F p q))
theorem TwoP.bad {F : Nat → Nat → Prop} {l : List Ty} {t u e : Int} (h : AskP l [t, u] e) (he : e ≠ 0) : TwoP F l t u (false, e) := ⟨h, fun _ => rfl, fun h0 => absurd h0 he⟩
theorem TwoP.good {F : Nat → Nat → Prop} {l : List Ty} {p q : Nat} {z : Bool} (h : AskP l [Int.ofNat p, Int.ofNat q] 0) (hz : z = true ↔ F p q) : TwoP F l (Int.ofNat p) (Int.ofNat q) (z, 0) := ⟨h, fun h0 => absurd rfl h0, fun _ => ⟨p, q, rfl, rfl, hz⟩⟩
theorem TwoP.err {F : Nat → Nat → Prop} {l : List Ty} {t u e : Int} {x : Bool × Int} (h : TwoP F l t u x) (he : AskP l [t, u] e) : x.2 = e := h.1.uniq he
theorem TwoP.no {F : Nat → Nat → Prop} {l : List Ty} {t u e : Int} {x : Bool × Int} (h : TwoP F l t u x) (he : AskP l [t, u] e) (hne : e ≠ 0) : x.1 = false := h.2.1 (by rw [h.err he]; exact hne)
def AsgX (l : List Ty) (p q : Nat) (x y : Ty) : Prop := (valueB x = true ∧ valueB y = true ∧ EqT l p q) ∨ (y.kind = 14 ∧ (x.kind = 6 ∨ x.kind = 7 ∨ x.kind = 8 ∨ x.kind = 9 ∨ x.kind = 13)) ∨ (y.kind ≠ 14 ∧ (x.kind = 9 ∧ y.kind = 9 ∧ x.name.size = 0 ∧ y.name.size ≠ 0) ∧ ∃ p' q' : Nat, x.elems[0]? = some (Int.ofNat p') ∧ y.elems[0]? = some (Int.ofNat q') ∧ EqT l p' q')
def AsgT (l : List Ty) (p q : Nat) : Prop := ∃ x y, l[p]? = some x ∧ l[q]? = some y ∧ AsgX l p q x y
theorem AsgT.of {l : List Ty} {p q : Nat} {x y : Ty} {z : Bool} (hx : l[p]? = some x) (hy : l[q]? = some y) (h : z = true ↔ AsgX l p q x y) : z = true ↔ AsgT l p q := by
 rw [h]
 constructor
 ·exact fun h => ⟨x, y, hx, hy, h⟩
 rintro ⟨x', y', h1, h2, h3⟩
 rw [hx] at h1
 rw [hy] at h2
 cases h1
 cases h2
 exact h3
theorem AsgX.any {l : List Ty} {p q : Nat} {x y : Ty} (h : y.kind = 14) : AsgX l p q x y ↔ (x.kind = 6 ∨ x.kind = 7 ∨ x.kind = 8 ∨ x.kind = 9 ∨ x.kind = 13) := by
 have hv : valueB y = false := by
  unfold valueB
  rw [decide_eq_false]
  omega
 unfold AsgX
 rw [hv]
 constructor
 ·rintro (h1 | h1 | h1)
  ·cases h1.2.1
  ·exact h1.2
  exact absurd h h1.1
 exact fun h1 => .inr (.inl ⟨h, h1⟩)
theorem AsgX.vals {l : List Ty} {p q : Nat} {x y : Ty} (h : valueB x = true ∧ valueB y = true ∧ EqT l p q) : AsgX l p q x y := .inl h
theorem AsgX.other {l : List Ty} {p q : Nat} {x y : Ty} (h : ¬ (valueB x = true ∧ valueB y = true ∧ EqT l p q)) (hk : y.kind ≠ 14) (hn : ¬ (x.kind = 9 ∧ y.kind = 9 ∧ x.name.size = 0 ∧ y.name.size ≠ 0)) : ¬ AsgX l p q x y := by
 rintro (h1 | h1 | h1)
 ·exact h h1
 ·exact hk h1.1
 exact hn h1.2.1
theorem AsgX.ref {l : List Ty} {p q p' q' : Nat} {x y : Ty} {z : Bool} (h : ¬ (valueB x = true ∧ valueB y = true ∧ EqT l p q)) (hk : y.kind ≠ 14) (hn : x.kind = 9 ∧ y.kind = 9 ∧ x.name.size = 0 ∧ y.name.size ≠ 0) (hx : x.elems[0]? = some (Int.ofNat p')) (hy : y.elems[0]? = some (Int.ofNat q')) (hz : z = true ↔ EqT l p' q') : z = true ↔ AsgX l p q x y := by
 rw [hz]
 constructor
 ·exact fun h1 => .inr (.inr ⟨hk, hn, p', q', hx, hy, h1⟩)
 rintro (h1 | h1 | h1)
 ·exact absurd h1 h
 ·exact absurd h1.1 hk
 obtain ⟨p2, q2, g1, g2, g3⟩ := h1.2.2
 rw [hx] at g1
 rw [hy] at g2
 cases g1
 cases g2
 exact g3
theorem joinF1 {a b z : Bool} {E : Prop} (h : a = false) (hz : z = true ↔ (a = true ∧ b = true ∧ E)) : false = z := by
 cases z with
 | false => rfl
 | true =>
  have := (hz.1 rfl).1
  rw [h] at this
  cases this
theorem joinF2 {a b z : Bool} {E : Prop} (h : b = false) (hz : z = true ↔ (a = true ∧ b = true ∧ E)) : false = z := by
 cases z with
 | false => rfl
 | true =>
  have := (hz.1 rfl).2.1
  rw [h] at this
  cases this
theorem joinT {a b y z : Bool} {E : Prop} (h1 : a = true) (h2 : b = true) (hy : y = true ↔ E) (hz : z = true ↔ (a = true ∧ b = true ∧ E)) : y = z := by
 rw [Bool.eq_iff_iff, hz, hy]
 exact ⟨fun h => ⟨h1, h2, h⟩, fun h => h.2.2⟩
theorem equal_ok {l : List Ty} {vl : Value} {a b_ : Nat} {m : AW} (hm : m.lo ≤ m.next) (hlS : Sl (Mem m) 5 (RTy (Mem m)) l vl) (hWl : Well l) (ha : a < l.length) (hb_ : b_ < l.length) : Fc prog 64 [vl, .int .i64 (Int.ofNat (a)), .int .i64 (Int.ofNat (b_))] m fun v m' => ∃ z : Bool, (z = true ↔ EqT l a b_) ∧ v = .bool z ∧ Ext m m' ∧ News m m' [] := by
 have hlS0 := hlS
 obtain ⟨al, cl, rfl, hnl, hl⟩ := hlS
 refine Fc.body (c := _) func64 rfl rfl rfl rfl hm ?_
 refine .seq (.region (.P ?_))
 refine .nil (.seq (.seq (.region (.P ?_))))
 refine .makeMap rfl rfl rfl rfl (fun b9 hb9 => ?_)
 refine .p (v := .agg ⟨[.slice al l.length cl, .map (some b9)]⟩) rfl rfl rfl (by kernel_rfl) ?_
 refine .box rfl rfl rfl rfl rfl (fun b11 hb11 => ?_)
 refine .P ?_
 refine .nil (.seq (.seq (.region (.P3 ?_))))
 refine .callc (fun y : CmpY => EqA l [] a b_ y.1 ∧ MetA y.1.2 y.2) (fun y => .bool y.1.1) (fun y => [(b9, .map y.2.1 y.2.2)]) (.tail .one) rfl rfl rfl rfl rfl rfl (fun m2 g1 g2 => equal_all hWl _ a b_ ha hb_ m2 ([], 0) [] g1.lole' g2 (MetA.nil 0) (Bnd.nil l) ⟨Off.known g1 (.head _), hlS0.mono (Off.old g1) (RTy.mono (Off.old g1))⟩ (Nat.lt_succ_self _)) (fun y hy => ?_)
 refine .P ?_
 refine .nil (.seq (.ret ?_))
 exact .end_ rfl rfl (fun m hm => ⟨y.1.1, hy.1.top, rfl, hm.ext, News.nil _ _⟩)
theorem Equal_ok {l : List Ty} {vl : Value} {t u : Int} {m : AW} (hm : m.lo ≤ m.next) (hlS : Sl (Mem m) 5 (RTy (Mem m)) l vl) (hwl : ∀ (i : Nat) (a : Ty), l[i]? = some a → FewT a) (hn14 : l.length ≤ 14) : Fc prog 20 [vl, .int .i64 t, .int .i64 u] m fun v m' => ∃ x : Bool × Int, TwoP (EqT l) l t u x ∧ v = .tuple ⟨[.bool x.1, .int .i64 x.2]⟩ ∧ Ext m m' ∧ News m m' [] := by
 have hlS0 := hlS
 obtain ⟨al, cl, rfl, hnl, hl⟩ := hlS
 refine Fc.body (c := _) func20 rfl rfl rfl rfl hm ?_
 refine .seq (.region (.P2 ?_))
 refine .nil (.seq (.seq (.seq (.region (.P3 ?_)))))
 refine .buildSlice rfl rfl rfl rfl rfl (bs32_2 ..) (fun b12 hb12 => ?_)
 refine .calln _ _ _ rfl rfl rfl rfl rfl rfl (fun m hm => asked_ok hm.lole (hlS0.mono (Mem.kr hm) (RTy.mono (Mem.kr hm))) hwl hn14 ((Sl.two (b := b12) (c := 2) (el := 3) (g := false) (md := .plain) (mate := none)).mono (InH.kr (l := [(b12, .cells [.int .i64 t, .int .i64 u] 3 false .plain none)]) hm (fun p_ hp_ => by rw [List.mem_singleton.1 hp_]; exact List.mem_cons_self)) fun _ _ h => h)) (fun e he => ?_)
 refine .P ?_
 refine .nil (.seq (.seq (.region (.P2 ?_))))
 refine .nil (.seq (.cond rfl (fun ht15 => ?_) fun ht15 => ?_))
 ·try simp only [nz] at ht15
  have hne : e ≠ 0 := by omega
  refine .seq (.region (.P3 ?_))
  refine .nil (.seq (.ret (.seq ?_)))
  exact .end_ rfl rfl (fun m hm => ⟨(false, e), TwoP.bad he hne, rfl, hm.ext, News.nil _ _⟩)
 try simp only [nz] at ht15
 have he0 : e = 0 := by omega
 subst he0
 obtain ⟨p, q, rfl, rfl, hp, hq⟩ := he.at2
 have hFi := he.fine
 have hWl := hFi.well
 refine .skip (.seq (.seq (.region (.P3 ?_))))
 refine .calln _ _ _ rfl rfl rfl rfl rfl rfl (fun m hm => equal_ok hm.lole (hlS0.mono (Mem.kr hm) (RTy.mono (Mem.kr hm))) hWl hp hq) (fun z hz => ?_)
 refine .P2 ?_
 refine .nil (.seq (.ret ?_))
 exact .end_ rfl rfl (fun m hm => ⟨(z, 0), TwoP.good he hz, rfl, hm.ext, News.nil _ _⟩)
theorem Assignable_ok {l : List Ty} {vl : Value} {t u : Int} {m : AW} (hm : m.lo ≤ m.next) (hlS : Sl (Mem m) 5 (RTy (Mem m)) l vl) (hwl : ∀ (i : Nat) (a : Ty), l[i]? = some a → FewT a) (hn14 : l.length ≤ 14) : Fc prog 21 [vl, .int .i64 t, .int .i64 u] m fun v m' => ∃ x : Bool × Int, TwoP (AsgT l) l t u x ∧ v = .tuple ⟨[.bool x.1, .int .i64 x.2]⟩ ∧ Ext m m' ∧ News m m' [] := by
 have hlS0 := hlS
 obtain ⟨al, cl, rfl, hnl, hl⟩ := hlS
 refine Fc.body (c := _) func21 rfl rfl rfl rfl hm ?_
 refine .seq (.region (.P2 ?_))
 refine .nil (.seq (.seq (.seq (.region (.P3 ?_)))))
 refine .buildSlice rfl rfl rfl rfl rfl (bs32_2 ..) (fun b14 hb14 => ?_)
 refine .calln _ _ _ rfl rfl rfl rfl rfl rfl (fun m hm => asked_ok hm.lole (hlS0.mono (Mem.kr hm) (RTy.mono (Mem.kr hm))) hwl hn14 ((Sl.two (b := b14) (c := 2) (el := 3) (g := false) (md := .plain) (mate := none)).mono (InH.kr (l := [(b14, .cells [.int .i64 t, .int .i64 u] 3 false .plain none)]) hm (fun p_ hp_ => by rw [List.mem_singleton.1 hp_]; exact List.mem_cons_self)) fun _ _ h => h)) (fun e he => ?_)
 refine .P ?_
 refine .nil (.seq (.seq (.region (.P2 ?_))))
 refine .nil (.seq (.cond rfl (fun ht17 => ?_) fun ht17 => ?_))
 ·(try simp only [nz] at ht17); try simp only [nq] at ht17
  have hne : e ≠ 0 := by omega
  refine .seq (.region (.P3 ?_))
  refine .nil (.seq (.ret (.seq ?_)))
  exact .end_ rfl rfl (fun m hm => ⟨(false, e), TwoP.bad he hne, rfl, hm.ext, News.nil _ _⟩)
 (try simp only [nz] at ht17); try simp only [nq] at ht17
 have he0 : e = 0 := by omega
 subst he0
 obtain ⟨p, q, rfl, rfl, hp, hq⟩ := he.at2
 have hFi := he.fine
 have hWl := hFi.well
 have hsnd := hWl.sound
 obtain ⟨x_, hx_⟩ := gx hp
 obtain ⟨y_, hy_⟩ := gx hq
 rcases hl with ⟨e0, -⟩ | ⟨b, off, cs, el, g, md, mate, rfl, ⟨hb, hh⟩, hle, hc⟩
 ·rw [e0] at hp; simp at hp
 have hrX := hc p x_ hx_
 obtain ⟨veX, vfX, vaX, hrX, heX, hfX, hgX⟩ := hrX
 obtain ⟨aeX, ceX, rfl, hneX, heX⟩ := heX
 have hfSX := hfX
 obtain ⟨afX, cfX, rfl, hnfX, hfX⟩ := hfX
 obtain ⟨aaX, caX, rfl, hnaX, hgX⟩ := hgX
 have hrY := hc q y_ hy_
 obtain ⟨veY, vfY, vaY, hrY, heY, hfY, hgY⟩ := hrY
 obtain ⟨aeY, ceY, rfl, hneY, heY⟩ := heY
 have hfSY := hfY
 obtain ⟨afY, cfY, rfl, hnfY, hfY⟩ := hfY
 obtain ⟨aaY, caY, rfl, hnaY, hgY⟩ := hgY
 obtain ⟨z0, hz0⟩ : ∃ z0 : Bool, z0 = true ↔ (valueB x_ = true ∧ valueB y_ = true ∧ EqT l p q) := ⟨@decide _ (Classical.propDecidable _), @decide_eq_true_iff _ (Classical.propDecidable _)⟩
 refine .skip (.seq (.seq ?_))
 refine .D [(15, 0), (15, 0), (15, 3), (3, 7), (13, 0), (13, 0), (13, 48), (1, 112), (11, 0), (11, 0), (7, 783), (7, 2047)] (by kernel_rfl) (by kernel_rfl) (fun base hbase hB => ?_)
 iterate 2 refine .P ?_
 refine .K underlying22 sz50 ?_
 refine .loadAgg rfl rfl rfl rfl rfl rfl rfl rfl ag50 sz50 (.base hh hb (by simp)) (by omega) hrX ?_
 iterate 2 refine .P ?_
 refine .K underlying22 sz50 ?_
 refine .loadAggOld rfl rfl rfl rfl rfl rfl ag50 sz50 (.base hh hb (by simp)) (by omega) hrY (by first | exact hB _ _ (.head _) | exact hB _ _ (.tail _ (.head _)) | exact hB _ _ (.tail _ (.tail _ (.head _))) | exact hB _ _ (.tail _ (.tail _ (.tail _ (.head _)))) | exact hB _ _ (List.mem_append_right _ (.head _)) | exact hB _ _ (List.mem_append_right _ (.tail _ (.head _))) | exact Nat.lt_of_lt_of_le ‹_› hbase) ?_
 refine .alloc rfl rfl rfl rfl rfl zr50 (fun b9 hn9 hb9 => ?_)
 refine .alloc rfl rfl rfl rfl rfl zr50 (fun b10 hn10 hb10 => ?_)
 refine .storeNew rfl rfl (by kernel_rfl) hn9 rfl rfl rfl rfl rfl sz50 rfl (by first | exact .head | exact .tail .head | exact .tail (.tail .head) | exact .tail (.tail (.tail .head)) | exact updo) rfl ?_
 refine .storeNew rfl rfl (by kernel_rfl) hn10 rfl rfl rfl rfl rfl sz50 rfl (by first | exact .head | exact .tail .head | exact .tail (.tail .head) | exact .tail (.tail (.tail .head)) | exact updo) rfl ?_
 refine .nil (.seq (.seq (.block ?_)))
 refine .joinA (True) [(27, .bool z0)] ?_ (fun _ => ?_)
 ·refine .region (.P2 ?_)
  refine .call _ rfl rfl rfl rfl rfl rfl (fun m hm => value_ok hm.lole (hlS0.mono (Mem.kr hm) (RTy.mono (Mem.kr hm))) hx_) ?_
  refine .P ?_
  refine .splitB 31 rfl (fun hs_31 => ?_) (fun hs_31 => ?_)
  ·(try simp only [nz] at hs_31); try simp only [nq] at hs_31
   refine .P2 ?_
   refine .call _ rfl rfl rfl rfl rfl rfl (fun m hm => value_ok hm.lole (hlS0.mono (Mem.kr hm) (RTy.mono (Mem.kr hm))) hy_) ?_
   refine .P2 ?_
   refine .splitB 36 rfl (fun hs_36 => ?_) (fun hs_36 => ?_)
   ·(try simp only [nz] at hs_36); try simp only [nq] at hs_36
    refine .P3 ?_
    refine .calln _ _ _ rfl rfl rfl rfl rfl rfl (fun m hm => equal_ok hm.lole (hlS0.mono (Mem.kr hm) (RTy.mono (Mem.kr hm))) hWl hp hq) (fun z1 hz1 => ?_)
    refine .P2 ?_
    refine .nil ?_
    refine .as 27 (.bool z0) rfl (congrArg Value.bool (by first | exact joinF1 hs_31 hz0 | exact joinF2 hs_36 hz0 | exact joinT hs_31 hs_36 hz1 hz0)) ?_
    exact .J (trivial)
   (try simp only [nz] at hs_36); try simp only [nq] at hs_36
   iterate 4 refine .O ?_
   refine .P2 ?_
   refine .nil ?_
   refine .as 27 (.bool z0) rfl (congrArg Value.bool (by first | exact joinF1 hs_31 hz0 | exact joinF2 hs_36 hz0 | exact joinT hs_31 hs_36 hz1 hz0)) ?_
   exact .J (trivial)
  (try simp only [nz] at hs_31); try simp only [nq] at hs_31
  iterate 3 refine .O ?_
  refine .P2 ?_
  iterate 4 refine .O ?_
  refine .P2 ?_
  refine .nil ?_
  refine .as 27 (.bool z0) rfl (congrArg Value.bool (by first | exact joinF1 hs_31 hz0 | exact joinF2 hs_36 hz0 | exact joinT hs_31 hs_36 hz1 hz0)) ?_
  exact .J (trivial)
 refine .cond rfl (fun ht27 => ?_) (fun ht27 => ?_)
 ·refine .seq (.region (.P2 ?_))
  refine .nil (.seq (.ret (.blk (.seq ?_))))
  exact .end_ rfl rfl (fun m hm => ⟨(_, 0), TwoP.good he (AsgT.of hx_ hy_ (⟨fun _ => AsgX.vals (hz0.1 ht27), fun _ => rfl⟩)), rfl, hm.ext, News.nil _ _⟩)
 refine .seq (.region (.F fa50_0 ?_))
 refine .L ag3 ?_
 refine .P2 ?_
 refine .nil (.seq (.cond rfl (fun ht42 => ?_) fun ht42 => ?_))
 ·(try simp only [nz] at ht42); try simp only [nq] at ht42
  refine .seq (.region (.F fa50_0 ?_))
  refine .L ag3 ?_
  refine .P2 ?_
  refine .splitB 49 rfl (fun hs_49 => ?_) (fun hs_49 => ?_)
  ·(try simp only [nz] at hs_49); try simp only [nq] at hs_49
   iterate 3 refine .O ?_
   refine .P2 ?_
   iterate 3 refine .O ?_
   refine .P2 ?_
   iterate 3 refine .O ?_
   refine .P2 ?_
   iterate 3 refine .O ?_
   refine .P3 ?_
   refine .nil (.seq (.ret (.blk (.seq ?_))))
   exact .end_ rfl rfl (fun m hm => ⟨(_, 0), TwoP.good he (AsgT.of hx_ hy_ (by rw [AsgX.any (by omega)]; simp only [nrm_eq, true_iff]; omega)), rfl, hm.ext, News.nil _ _⟩)
  (try simp only [nz] at hs_49); try simp only [nq] at hs_49
  refine .F fa50_0 ?_
  refine .L ag3 ?_
  refine .P3 ?_
  refine .splitB 54 rfl (fun hs_54 => ?_) (fun hs_54 => ?_)
  ·(try simp only [nz] at hs_54); try simp only [nq] at hs_54
   iterate 3 refine .O ?_
   refine .P2 ?_
   iterate 3 refine .O ?_
   refine .P2 ?_
   iterate 3 refine .O ?_
   refine .P3 ?_
   refine .nil (.seq (.ret (.blk (.seq ?_))))
   exact .end_ rfl rfl (fun m hm => ⟨(_, 0), TwoP.good he (AsgT.of hx_ hy_ (by rw [AsgX.any (by omega)]; simp only [nrm_eq, true_iff]; omega)), rfl, hm.ext, News.nil _ _⟩)
  (try simp only [nz] at hs_54); try simp only [nq] at hs_54
  refine .F fa50_0 ?_
  refine .L ag3 ?_
  refine .P3 ?_
  refine .splitB 59 rfl (fun hs_59 => ?_) (fun hs_59 => ?_)
  ·(try simp only [nz] at hs_59); try simp only [nq] at hs_59
   iterate 3 refine .O ?_
   refine .P2 ?_
   iterate 3 refine .O ?_
   refine .P3 ?_
   refine .nil (.seq (.ret (.blk (.seq ?_))))
   exact .end_ rfl rfl (fun m hm => ⟨(_, 0), TwoP.good he (AsgT.of hx_ hy_ (by rw [AsgX.any (by omega)]; simp only [nrm_eq, true_iff]; omega)), rfl, hm.ext, News.nil _ _⟩)
  (try simp only [nz] at hs_59); try simp only [nq] at hs_59
  refine .F fa50_0 ?_
  refine .L ag3 ?_
  refine .P3 ?_
  refine .splitB 64 rfl (fun hs_64 => ?_) (fun hs_64 => ?_)
  ·(try simp only [nz] at hs_64); try simp only [nq] at hs_64
   iterate 3 refine .O ?_
   refine .P3 ?_
   refine .nil (.seq (.ret (.blk (.seq ?_))))
   exact .end_ rfl rfl (fun m hm => ⟨(_, 0), TwoP.good he (AsgT.of hx_ hy_ (by rw [AsgX.any (by omega)]; simp only [nrm_eq, true_iff]; omega)), rfl, hm.ext, News.nil _ _⟩)
  (try simp only [nz] at hs_64); try simp only [nq] at hs_64
  refine .F fa50_0 ?_
  refine .L ag3 ?_
  iterate 4 refine .P ?_
  refine .nil (.seq (.ret (.blk (.seq ?_))))
  exact .end_ rfl rfl (fun m hm => ⟨(eqI x_.kind 13, 0), TwoP.good he (AsgT.of hx_ hy_ (by rw [AsgX.any (by omega)]; simp only [nrm_eq]; omega)), rfl, hm.ext, News.nil _ _⟩)
 (try simp only [nz] at ht42); try simp only [nq] at ht42
 refine .skip (.blk (.seq (.seq ?_)))
 refine .D [(15, 0), (3, 1), (15, 3), (15, 7), (15, 15), (3, 31), (15, 63), (15, 127), (15, 255), (15, 511), (3, 1023), (15, 2047), (15, 4095), (15, 8191), (15, 16383), (3, 32767), (15, 65535), (15, 131071), (15, 262143), (15, 524287), (15, 524287), (3, 1572863), (15, 3670015), (3, 7864319), (15, 524287), (3, 17301503), (15, 50855935), (3, 117964799), (7, 268435455), (15, 536870911), (15, 1073741823), (15, 2147483647)] (by kernel_rfl) (by kernel_rfl) (fun base hbase hB => ?_)
 refine .F fa50_0 ?_
 refine .J ag3 ?_
 iterate 2 refine .P ?_
 refine .splitB 72 rfl (fun hs_72 => ?_) (fun hs_72 => ?_)
 ·(try simp only [nz] at hs_72); try simp only [nq] at hs_72
  refine .F fa50_0 ?_
  refine .J ag3 ?_
  iterate 3 refine .P ?_
  refine .splitB 77 rfl (fun hs_77 => ?_) (fun hs_77 => ?_)
  ·(try simp only [nz] at hs_77); try simp only [nq] at hs_77
   refine .F fa50_2 ?_
   refine .J ag9 ?_
   iterate 3 refine .P ?_
   refine .splitB 82 rfl (fun hs_82 => ?_) (fun hs_82 => ?_)
   ·(try simp only [nz] at hs_82); try simp only [nq] at hs_82
    refine .F fa50_2 ?_
    refine .J ag9 ?_
    iterate 3 refine .P ?_
    refine .splitB 87 rfl (fun hs_87 => ?_) (fun hs_87 => ?_)
    ·(try simp only [nz] at hs_87); try simp only [nq] at hs_87
     have hshx := (single_zero (hWl.all p x_ hx_)).1
     have hshy := (single_zero (hWl.all q y_ hy_)).1
     unfold shapedB at hshx hshy
     have hshx := (of_decide_eq_true hshx).1
     have hshy := (of_decide_eq_true hshy).1
     unfold shapeP at hshx hshy
     have hltE : 0 < x_.elems.length := by omega
     have hltG : 0 < y_.elems.length := by omega
     obtain ⟨p0, hp0⟩ := gx hltE
     obtain ⟨bE, offE, csE, elE, gE, mdE, mateE, rfl, ⟨hbE, hhE⟩, hleE, hcE⟩ := so heX hltE
     have hrp := hcE 0 p0 hp0
     obtain ⟨q0, hq0_⟩ := gx hltG
     obtain ⟨bG, offG, csG, elG, gG, mdG, mateG, rfl, ⟨hbG, hhG⟩, hleG, hcG⟩ := so heY hltG
     have hrq := hcG 0 q0 hq0_
     obtain ⟨p2, rfl, hpl⟩ := parts_in (hsnd p x_ hx_) (parts_elem hp0)
     obtain ⟨q2, rfl, hql⟩ := parts_in (hsnd q y_ hy_) (parts_elem hq0_)
     refine .P ?_
     refine .F fa50_1 ?_
     refine .J ag32 ?_
     refine .K underlying32 sz3 ?_
     refine .M ag3 (.base hhE hbE (by simp)) (cell_of_take hrp (k := 0) rfl) ?_
     refine .F fa50_1 ?_
     refine .J ag32 ?_
     refine .K underlying32 sz3 ?_
     refine .M ag3 (.base hhG hbG (by simp)) (cell_of_take hrq (k := 0) rfl) ?_
     refine .calln _ _ _ rfl rfl rfl rfl rfl rfl rfl rfl rfl (fun m hm => equal_ok hm.lole (hlS0.mono (Mem.kr hm) (RTy.mono (Mem.kr hm))) hWl hpl hql) (fun z2 hz2 => ?_)
     iterate 3 refine .P ?_
     refine .nil (.seq (.ret ?_))
     exact .end_ rfl rfl (fun m hm => ⟨(_, 0), TwoP.good he (AsgT.of hx_ hy_ (AsgX.ref (fun h => (by rw [hz0.2 h] at ht27; cases ht27)) (by omega) ⟨by omega, by omega, by omega, by omega⟩ hp0 hq0_ hz2)), rfl, hm.ext, News.nil _ _⟩)
    (try simp only [nz] at hs_87); try simp only [nq] at hs_87
    iterate 10 refine .O ?_
    iterate 3 refine .P ?_
    refine .nil (.seq (.ret ?_))
    exact .end_ rfl rfl (fun m hm => ⟨(_, 0), TwoP.good he (AsgT.of hx_ hy_ ((by constructor; (intro h_; cases h_); exact fun h_ => absurd h_ (AsgX.other (fun h => (by rw [hz0.2 h] at ht27; cases ht27)) (by omega) (by omega))))), rfl, hm.ext, News.nil _ _⟩)
   (try simp only [nz] at hs_82); try simp only [nq] at hs_82
   iterate 3 refine .O ?_
   iterate 2 refine .P ?_
   iterate 10 refine .O ?_
   iterate 3 refine .P ?_
   refine .nil (.seq (.ret ?_))
   exact .end_ rfl rfl (fun m hm => ⟨(_, 0), TwoP.good he (AsgT.of hx_ hy_ ((by constructor; (intro h_; cases h_); exact fun h_ => absurd h_ (AsgX.other (fun h => (by rw [hz0.2 h] at ht27; cases ht27)) (by omega) (by omega))))), rfl, hm.ext, News.nil _ _⟩)
  (try simp only [nz] at hs_77); try simp only [nq] at hs_77
  iterate 3 refine .O ?_
  iterate 2 refine .P ?_
  iterate 3 refine .O ?_
  iterate 2 refine .P ?_
  iterate 10 refine .O ?_
  iterate 3 refine .P ?_
  refine .nil (.seq (.ret ?_))
  exact .end_ rfl rfl (fun m hm => ⟨(_, 0), TwoP.good he (AsgT.of hx_ hy_ ((by constructor; (intro h_; cases h_); exact fun h_ => absurd h_ (AsgX.other (fun h => (by rw [hz0.2 h] at ht27; cases ht27)) (by omega) (by omega))))), rfl, hm.ext, News.nil _ _⟩)
 (try simp only [nz] at hs_72); try simp only [nq] at hs_72
 iterate 3 refine .O ?_
 iterate 2 refine .P ?_
 iterate 3 refine .O ?_
 iterate 2 refine .P ?_
 iterate 3 refine .O ?_
 iterate 2 refine .P ?_
 iterate 10 refine .O ?_
 iterate 3 refine .P ?_
 refine .nil (.seq (.ret ?_))
 exact .end_ rfl rfl (fun m hm => ⟨(_, 0), TwoP.good he (AsgT.of hx_ hy_ ((by constructor; (intro h_; cases h_); exact fun h_ => absurd h_ (AsgX.other (fun h => (by rw [hz0.2 h] at ht27; cases ht27)) (by omega) (by omega))))), rfl, hm.ext, News.nil _ _⟩)

/-! The reference's comparison: the pairs that were met lie in a slice. -/
def RPr (x : Nat × Nat) (cs : List Value) : Prop := cs = [.int .i64 (Int.ofNat x.1), .int .i64 (Int.ofNat x.2)]
theorem RPr.flats : ∀ x cs, RPr x cs → flats cs = true := fun _ _ h => by rw [h]; rfl
abbrev PrSt := Gro × List Value × Prs
structure MetS (n : Nat) (M : Prs) (x : PrSt) : Prop where
 flat : Flat 2 RPr x.2.2 x.2.1
 ok : x.1.Ok x.2.2.length
 mem : ∀ p, p ∈ x.2.2 ↔ p ∈ M
 few : x.2.2.length + unmet n M ≤ n * n
theorem unmet_nil (n : Nat) : unmet n [] = n * n := by
 unfold unmet
 rw [List.filter_eq_self.2 (fun _ _ => by simp), List.length_range]
theorem MetS.nil (n : Nat) : MetS n [] (.no, [], []) := ⟨Flat.nil, rfl, fun p => by simp, by rw [unmet_nil]; simp⟩
theorem MetS.put {n : Nat} {M : Prs} {g : Gro} {cs : List Value} {L : Prs} {x : PrSt} {a b : Nat} (h : MetS n M x) (ha : a < n) (hb : b < n) (hn : (a, b) ∉ M) (hL : x.2.2 ++ [(a, b)] = L) (hF : Flat 2 RPr L cs) (hO : g.Ok L.length) : MetS n ((a, b) :: M) (g, cs, L) := by
 subst hL
 refine ⟨hF, hO, fun p => ?_, ?_⟩
 ·show p ∈ x.2.2 ++ [(a, b)] ↔ _
  rw [List.mem_append, h.mem, List.mem_singleton, List.mem_cons]
  exact Or.comm
 have h1 := unmet_lt ha hb hn (M' := (a, b) :: M) (fun p hp => List.mem_cons_of_mem _ hp) List.mem_cons_self
 have h2 := h.few
 show (x.2.2 ++ [(a, b)]).length + _ ≤ _
 rw [List.length_append, List.length_singleton]
 omega
theorem MetS.small {n : Nat} {M : Prs} {x : PrSt} (h : MetS n M x) (hn : n ≤ 28) : x.2.2.length ≤ 784 := by
 have h1 := h.few
 have h2 : n * n ≤ 28 * 28 := Nat.mul_le_mul hn hn
 omega
/-- The members or fields are compared last. -/
theorem EqA.last {l : List Ty} {M M1 : Prs} {a b : Nat} {x y : Ty} {P : Prop} {z : Bool × Prs} {Py : (Nat → Nat → Prop) → Prop} (hb8 : Sound8 l) (hx : l[a]? = some x) (hy : l[b]? = some y) (hh : HeadR x y) (hR : RowA l ((a, b) :: M) M1 P) (he : ElsR (InM M1) x.elems y.elems) (hA : ArmsR (InM M1) x.arms y.arms) (hz : RelA l M1 Py z) (hPy : ∀ R, Py R ↔ (if x.kind = 13 then MemR R x.fields y.fields else FldsR R x.fields y.fields)) : EqA l M a b z := by
 obtain ⟨zb, M2⟩ := z
 cases zb with
 | true =>
  obtain ⟨h1, h2⟩ := hz.yes rfl
  exact EqA.close (P := True) hx hy ⟨hR.grown.trans hz.grown, fun h => hz.bnd (hR.bnd h), hR.closed.trans h1 hz.grown, trivial⟩ ⟨hh, he.mono (InM.mono hz.grown), (hPy _).1 h2, hA.mono (InM.mono hz.grown)⟩
 | false =>
  refine EqA.fail (fun p hp => hz.grown _ (hR.grown _ (List.mem_cons_of_mem _ hp))) (fun hM => hz.bnd (hR.bnd fun p hp => ?_)) fun h => hz.no rfl ((hPy _).2 (h.ty hb8 hx hy).flds)
  rcases List.mem_cons.1 hp with rfl | hp
  ·exact ⟨(List.getElem?_eq_some_iff.1 hx).1, (List.getElem?_eq_some_iff.1 hy).1⟩
  exact hM p hp
/-! Fields that are sorted by their names. -/
theorem lt_irrefl : ∀ l : List UInt8, ltBytes l l = false
 | [] => rfl
 | a :: l => by
  unfold ltBytes
  rw [nblt, nbeq, decide_eq_false (Nat.lt_irrefl _), decide_eq_true rfl]
  exact lt_irrefl l
theorem lt_trans : ∀ a b c : List UInt8, ltBytes a b = true → ltBytes b c = true → ltBytes a c = true
 | [], [], [], h, _ => h
 | [], _ :: _, [], _, h => by cases h
 | [], [], _ :: _, h, _ => by cases h
 | [], _ :: _, _ :: _, _, _ => rfl
 | _ :: _, [], _, h, _ => by cases h
 | _ :: _, _ :: _, [], _, h => by cases h
 | a :: x, b :: y, c :: z, h1, h2 => by
  unfold ltBytes at h1 h2 ⊢
  rw [nblt, nbeq] at h1 h2 ⊢
  by_cases e : a.toNat < c.toNat
  ·rw [decide_eq_true e]
   rfl
  by_cases e1 : a.toNat < b.toNat
  ·by_cases e2 : b.toNat < c.toNat
   ·omega
   rw [decide_eq_false e2] at h2
   by_cases e3 : b.toNat = c.toNat
   ·omega
   rw [decide_eq_false e3] at h2
   cases h2
  rw [decide_eq_false e1] at h1
  by_cases e3 : a.toNat = b.toNat
  ·rw [decide_eq_true e3] at h1
   by_cases e2 : b.toNat < c.toNat
   ·omega
   rw [decide_eq_false e2] at h2
   by_cases e4 : b.toNat = c.toNat
   ·rw [decide_eq_true e4] at h2
    rw [decide_eq_false e, decide_eq_true (e3.trans e4)]
    exact lt_trans x y z h1 h2
   rw [decide_eq_false e4] at h2
   cases h2
  rw [decide_eq_false e3] at h1
  cases h1
theorem Gro.len {g : Gro} {n : Nat} (h : g.Ok n) : ∃ a c, g.V n = .slice a n c := by
 cases g with
 | no =>
  have : n = 0 := h
  subst this
  exact ⟨none, 0, rfl⟩
 | emp b =>
  have : n = 0 := h
  subst this
  exact ⟨_, 0, rfl⟩
 | one b => exact ⟨_, _, rfl⟩
 | two b b0 old => exact ⟨_, _, rfl⟩

/-! Tables whose types were moved. -/
def mvF (n : Nat) (f : Fld) : Fld := ⟨f.name, f.type + Int.ofNat n⟩
def mvA (n : Nat) (a : Arm) : Arm := ⟨a.name, a.fields.map (mvF n)⟩
def mvT (n : Nat) (t : Ty) : Ty := ⟨t.kind, t.elems.map (· + Int.ofNat n), t.name, t.fields.map (mvF n), t.arms.map (mvA n)⟩
theorem mv_wr {p : Int} {q n : Nat} (h : p = Int.ofNat q) (hq : q + n ≤ 9223372036854775807) : wr .i64 (p + Int.ofNat n) = p + Int.ofNat n := by
 subst h
 show (bif Nat.ble (q + n) 9223372036854775807 then Int.ofNat (q + n) else _) = _
 rw [nble, decide_eq_true hq]
 rfl
theorem mv_perm {G R : Hp} {x y : Nat × AObj} : (G ++ (x :: (y :: R))).Perm (y :: (G ++ (x :: R))) := by
 have h1 : (G ++ (x :: (y :: R))).Perm (x :: (y :: (G ++ R))) := List.perm_middle.trans (List.Perm.cons _ List.perm_middle)
 exact (h1.trans (List.Perm.swap _ _ _)).trans (List.Perm.cons _ List.perm_middle.symm)
theorem mv_perm3 {A B C D : Hp} {x y z : Nat × AObj} : (A ++ (x :: (B ++ (y :: (z :: (C ++ D)))))).Perm (x :: (y :: (z :: (A ++ ((B ++ C) ++ D))))) := by
 refine List.perm_middle.trans (List.Perm.cons _ ?_)
 rw [← List.append_assoc]
 refine List.perm_middle.trans (List.Perm.cons _ ?_)
 refine List.perm_middle.trans (List.Perm.cons _ ?_)
 exact List.Perm.of_eq (by simp [List.append_assoc])
def InR (L : List Fld) : Prop := ∀ (j : Nat) (f : Fld), L[j]? = some f → ∃ q : Nat, f.type = Int.ofNat q ∧ q < 1000
theorem map_take_succ {α β : Type} {f : α → β} {l : List α} {i : Nat} {x : α} (h : l[i]? = some x) : (l.take (i + 1)).map f = (l.take i).map f ++ [f x] := by
 rw [take_succ' h, List.map_append]
 rfl
theorem InR.parts {N : Nat} {t : Ty} (hb : badB N t = false) (hN : N ≤ 1000) {L : List Fld} (hL : ∀ x, x ∈ L → x.type ∈ partsL t) : InR L := fun j x hx => by
 obtain ⟨q, e, h⟩ := parts_ok_fld hb hL j x hx
 exact ⟨q, e, by omega⟩
theorem mv_sub {A B C D E : Hp} {x : Nat × AObj} : (A ++ (B ++ (C ++ D))).Sublist (x :: (A ++ (B ++ (C ++ (D ++ E))))) := by
 refine .cons _ ?_
 refine (List.Sublist.refl _).append ?_
 refine (List.Sublist.refl _).append ?_
 exact (List.Sublist.refl _).append (List.sublist_append_left _ _)
theorem mvd1_ok {L : List Fld} {vl : Value} {bn n : Nat} {m : AW} (hm : m.lo ≤ m.next) (hlS : Sl (Mem m) 2 RFld L vl) (hL : L.length ≤ 1000) (hin : InR L) (hn : n ≤ 1000) (hbn : Mem m bn (.cells [.int .i64 (Int.ofNat n)] 3 false .plain none)) : Fc prog 117 [vl, ptr bn] m fun v m' => ∃ z : Gro × List Value, (Flat 2 RFld (L.map (mvF n)) z.2 ∧ z.1.Ok (L.map (mvF n)).length) ∧ v = z.1.V (L.map (mvF n)).length ∧ Ext m m' ∧ News m m' (z.1.H 132 z.2) := by
 obtain ⟨aL, cL, rfl, hnL, hl⟩ := hlS
 refine Fc.body (c := _) func117 rfl rfl rfl rfl hm ?_
 refine .seq (.region (.P ?_))
 refine .nil (.seq (.seq (.region (.P ?_))))
 refine .nil (.seq (.seq (.seq (.region (.P ?_)))))
 refine .G (ln47 ..) ?_
 refine .P ?_
 refine .nil (.seq (.block ?_))
 refine .loop (α := Nat × Gro × List Value × List Fld) (fun q => [(1, ptr bn), (4, q.2.1.V q.2.2.2.length), (7, .slice aL L.length cL), (8, .int .i64 (Int.ofNat (L.length))), (9, .int .i64 (Int.ofNat (q.1)))]) (fun q => q.2.1.H 132 q.2.2.1) (fun q => q.1 ≤ L.length ∧ q.2.2.2 = (L.take q.1).map (mvF n) ∧ Flat 2 RFld q.2.2.2 q.2.2.1 ∧ q.2.1.Ok q.2.2.2.length) (fun q => L.length - q.1) (0, .no, [], []) ⟨Nat.zero_le _, rfl, Flat.nil, rfl⟩ ⟨rfl, rfl, rfl, rfl, rfl, trivial⟩ (List.nil_sublist _) (fun q hq0 => ?_)
 obtain ⟨i, g_, cs_, out⟩ := q
 obtain ⟨hi, he, hF, hO⟩ := hq0
 simp only at hi he hF hO
 have hlo : out.length = i := by rw [he, List.length_map, List.length_take]; omega
 refine .seq (.region (.P ?_))
 refine .nil (.seq (.seq (.cond rfl (fun ht10 => ?_) fun ht10 => ?_)))
 ·try simp only [nz] at ht10
  have hltA : i < L.length := by omega
  obtain ⟨f, hf⟩ := gx hltA
  obtain ⟨bA, offA, csA, elA, gA, mdA, mateA, rfl, ⟨hbA, hhA⟩, hleA, hcA⟩ := so hl hltA
  have hrf := hcA i f hf
  obtain ⟨qf, hqf, hql⟩ := hin i f hf
  refine .skip (.seq (.seq (.block (.seq (.region (.K underlying47 sz132 ?_))))))
  refine .A ag132 sz132 (.base hhA hbA (by simp)) hrf ?_
  refine .alloc rfl rfl rfl rfl zr132 (fun b6 hb6 => ?_)
  refine .S sz132 ?_
  refine .nil (.seq (.region (.P ?_)))
  refine .F fa132_0 ?_
  refine .L ag9 ?_
  refine .F fa132_1 ?_
  refine .L ag3 ?_
  refine .M ag3 (Mem.sees rfl rfl _ _ hbn) rfl ?_
  refine .P ?_
  refine .as 19 (.int .i64 (f.type + Int.ofNat n)) rfl (congrArg (Value.int .i64) (mv_wr hqf (by omega))) ?_
  refine .p (v := .agg ⟨[.string f.name, .int .i64 (f.type + Int.ofNat n)]⟩) rfl rfl rfl (by kernel_rfl) ?_
  refine .buildSlice rfl rfl rfl rfl rfl (bs47_1 ..) (fun b21 hb21 => ?_)
  refine .appendSl (R := RFld) (l0 := out) (l := [mvF n f]) (L := (out ++ [mvF n f])) (g := g_) (cs := cs_) rfl (.tail (.tail .all)) hF hO (Sl.single (R := RFld) (x := mvF n f) (b := b21) (c := 1) (el := 132) (g := false) (md := .plain) (mate := none) rfl rfl) ((InH.sees (by intro p_ hp_; rw [List.mem_singleton.1 hp_]; exact List.mem_cons_self))) RFld.flats (by simp; omega) rfl rfl rfl rfl underlying47 underlying47 ap132 rfl rfl (fun g1 cs1 hF1 hO1 => ?_)
  refine .P ?_
  refine .nil (.blk (.seq (.region (.P ?_))))
  refine .W 23 i ?_
  refine .P ?_
  refine .nil ?_
  exact .loop (i + 1, g1, cs1, out ++ [mvF n f]) ⟨hltA, by rw [he, map_take_succ hf], hF1, hO1⟩ (by show L.length - (i + 1) < L.length - i; omega) ⟨rfl, rfl, rfl, rfl, rfl, trivial⟩ (List.sublist_append_left _ _)
 try simp only [nz] at ht10
 have hie : i = L.length := by omega
 subst hie
 rw [List.take_length] at he
 subst he
 refine .exit (.seq (.loop (.here (.seq (.seq (.region (.P2 ?_)))))))
 refine .nil (.seq (.ret ?_))
 exact .end_ rfl rfl (fun m hm => ⟨(g_, cs_), ⟨hF, hO⟩, rfl, hm.ext, hm.news (.refl _)⟩)
theorem mvd_ok {t : Ty} {cs : List Value} {n N : Nat} {m : AW} (hm : m.lo ≤ m.next) (ht : RTy (Mem m) t cs) (hw : FewT t) (hbd : badB N t = false) (hN : N ≤ 1000) (hn : n ≤ 1000) : Fc prog 68 [.agg ⟨cs⟩, .int .i64 (Int.ofNat (n))] m fun v m' => ∃ x : Hp × List Value, RTy (InH x.1) (mvT n t) x.2 ∧ v = .agg ⟨x.2⟩ ∧ Ext m m' ∧ News m m' x.1 := by
 obtain ⟨ve, vf, va, rfl, he, hf, ha⟩ := ht
 have heS := he
 have hfS := hf
 have haS := ha
 obtain ⟨ae, ce, rfl, hne, he⟩ := he
 obtain ⟨af, cf, rfl, hnf, hf⟩ := hf
 obtain ⟨aa, ca, rfl, hna, ha⟩ := ha
 have k1 := hw.elems
 have k2 := hw.fields
 have k3 := hw.arms
 refine Fc.body (c := _) func68 rfl rfl rfl rfl hm ?_
 refine .seq (.region ?_)
 refine .box rfl rfl rfl rfl rfl (fun b2 hb2 => ?_)
 refine .box rfl rfl rfl rfl rfl (fun b3 hb3 => ?_)
 refine .alloc rfl rfl rfl rfl zr50 (fun b4 hb4 => ?_)
 refine .nil (.seq (.seq (.region (.P2 ?_))))
 refine .nil (.seq (.seq ?_))
 refine .D [(13, 0), (1, 1), (13, 0), (1, 4), (15, 0), (15, 0), (3, 32), (7, 112), (15, 255), (8, 0), (7, 1023)] (by kernel_rfl) (by kernel_rfl) (fun base hbase hB => ?_)
 refine .F fa50_0 ?_
 refine .R ag3 hB ?_
 refine .F fa50_2 ?_
 refine .R ag9 hB ?_
 refine .P ?_
 refine .F fa50_3 ?_
 refine .J ag47 ?_
 refine .calln _ _ _ rfl rfl rfl rfl rfl rfl rfl rfl rfl (fun m hm => mvd1_ok (n := n) hm.lole (hfS.mono (Mem.kr hm) fun _ _ h => h) (by omega) (InR.parts hbd hN fun x_ hx_ => parts_fldm hx_) hn (⟨(hm.has b3 _ (.tail _ (.head _))).2, (hm.has b3 _ (.tail _ (.head _))).1⟩ : Mem m b3 _)) (fun z hz => ?_)
 obtain ⟨zg, zc⟩ := z
 obtain ⟨hzF, hzO⟩ := hz
 simp only at hzF hzO
 have hS2 := Gro.sl (el := 132) hzF hzO (by first | omega | (simp; omega))
 obtain ⟨a2, c2, hh19, -, -⟩ := id hS2
 rw [hh19] at hS2
 refine .as 19 (.slice a2 (t.fields.map (mvF n)).length c2) rfl hh19 ?_
 refine .p (v := .agg ⟨[.int .i64 t.kind, .slice none 0 0, .string t.name, .slice a2 (t.fields.map (mvF n)).length c2, .slice none 0 0]⟩) rfl rfl rfl rfl (by kernel_rfl) ?_
 refine .alloc rfl rfl rfl rfl rfl zr50 (fun b6 hn6 hb6 => ?_)
 refine .store rfl rfl (by kernel_rfl) (by kernel_rfl) rfl rfl rfl rfl rfl sz50 rfl (by first | exact .head | exact .tail .head | exact .tail (.tail .head) | exact .tail (.tail (.tail .head)) | exact updo) rfl ?_
 refine .nil (.seq (.seq (.seq (.region (.F fa50_1 ?_)))))
 refine .M ag32 (.tail (.app (.tail (.tail .head)))) rfl ?_
 refine .G (ln32 ..) ?_
 refine .P ?_
 refine .nil (.seq (.block ?_))
 refine .loop (α := Nat × Gro × List Value × List Int × Value) (fun q => [(2, ptr b2), (3, ptr b3), (4, ptr b4), (5, .func (.func 117) ⟨[]⟩ ⟨[ptr b3]⟩), (6, ptr b6), (22, .slice ae t.elems.length ce), (23, .int .i64 (Int.ofNat (t.elems.length))), (24, .int .i64 (Int.ofNat (q.1)))]) (fun q => (b6, .cells [.int .i64 t.kind, q.2.2.2.2, .string t.name, .slice a2 (t.fields.map (mvF n)).length c2, .slice none 0 0] 50 false .plain none) :: (q.2.1.H 3 q.2.2.1 ++ (zg.H 132 zc ++ [(b4, .cells [.int .i64 0, .slice none 0 0, .string ⟨⟨[]⟩⟩, .slice none 0 0, .slice none 0 0] 50 false .plain none), (b3, .cells [.int .i64 (Int.ofNat n)] 3 false .plain none), (b2, .cells [.int .i64 t.kind, .slice ae t.elems.length ce, .string t.name, .slice af t.fields.length cf, .slice aa t.arms.length ca] 50 false .plain none)]))) (fun q => q.1 ≤ t.elems.length ∧ q.2.2.2.1 = (t.elems.take q.1).map (· + Int.ofNat n) ∧ Flat 1 RInt q.2.2.2.1 q.2.2.1 ∧ q.2.1.Ok q.2.2.2.1.length ∧ q.2.2.2.2 = q.2.1.V q.2.2.2.1.length) (fun q => t.elems.length - q.1) (0, .no, [], [], .slice none 0 0) ⟨Nat.zero_le _, rfl, Flat.nil, rfl, rfl⟩ ⟨rfl, rfl, rfl, rfl, rfl, rfl, rfl, rfl, trivial⟩ (.refl _) (fun q hq0 => ?_)
 obtain ⟨i, g_, cs_, out, w⟩ := q
 obtain ⟨hi, hout, hF, hO, hwE⟩ := hq0
 simp only at hi hout hF hO hwE
 have hlo : out.length = i := by rw [hout, List.length_map, List.length_take]; omega
 refine .seq (.region (.P ?_))
 refine .nil (.seq (.seq (.cond rfl (fun ht25 => ?_) fun ht25 => ?_)))
 ·try simp only [nz] at ht25
  have hltE : i < t.elems.length := by omega
  obtain ⟨p, hp0⟩ := gx hltE
  obtain ⟨bE, offE, csE, elE, gE, mdE, mateE, rfl, ⟨hbE, hhE⟩, hleE, hcE⟩ := so he hltE
  have hrp := hcE i p hp0
  obtain ⟨qp, hqp, hqpl⟩ := parts_in hbd (parts_elem hp0)
  refine .skip (.seq (.seq (.block (.seq (.region (.K underlying32 sz3 ?_))))))
  refine .M ag3 (.base hhE hbE (by simp)) (cell_of_take hrp (k := 0) rfl) ?_
  refine .P ?_
  refine .nil (.seq (.region (.F fa50_1 ?_)))
  refine .L ag32 ?_
  refine .as 29 (g_.V out.length) rfl hwE ?_
  refine .P ?_
  refine .M ag3 (.tail (.app (.app (.tail .head)))) rfl ?_
  refine .P ?_
  refine .as 32 (.int .i64 (p + Int.ofNat n)) rfl (congrArg (Value.int .i64) (mv_wr hqp (by omega))) ?_
  refine .buildSlice rfl rfl rfl rfl rfl (bs32_1 ..) (fun b33 hb33 => ?_)
  refine .appendSl (R := RInt) (l0 := out) (l := [p + Int.ofNat n]) (L := (out ++ [p + Int.ofNat n])) (g := g_) (cs := cs_) rfl (.tail (.tail .here)) hF hO (Sl.single (R := RInt) (x := p + Int.ofNat n) (b := b33) (c := 1) (el := 3) (g := false) (md := .plain) (mate := none) rfl rfl) ((InH.sees (by intro p_ hp_; rw [List.mem_singleton.1 hp_]; exact List.mem_cons_self))) RInt.flats (by simp; omega) rfl rfl rfl rfl underlying32 underlying32 ap3 rfl rfl (fun g5 cs5 hF5 hO5 => ?_)
  obtain ⟨a5, c5, hw5⟩ := Gro.len hO5
  refine .as 34 (.slice a5 (out ++ [p + Int.ofNat n]).length c5) rfl hw5 ?_
  refine .F fa50_1 ?_
  refine .store rfl rfl rfl rfl rfl sz32 rfl (Upd.app (.tail .head)) rfl ?_
  refine .nil (.blk (.seq (.region (.P ?_))))
  refine .W 36 i ?_
  refine .P ?_
  refine .nil (.swap mv_perm ?_)
  exact .loop (i + 1, g5, cs5, out ++ [p + Int.ofNat n], _) ⟨by omega, by rw [hout]; exact (map_take_succ (f := (· + Int.ofNat n)) hp0).symm, hF5, hO5, hw5.symm⟩ (by show t.elems.length - (i + 1) < t.elems.length - i; omega) ⟨rfl, rfl, rfl, rfl, rfl, rfl, rfl, rfl, trivial⟩ (.cons_cons _ ((List.Sublist.refl _).append (.cons _ (.refl _))))
 try simp only [nz] at ht25
 have hie : i = t.elems.length := by omega
 subst hie
 rw [List.take_length] at hout
 subst hout
 have hSe : Sl (InH (g_.H 3 cs_)) 1 RInt (t.elems.map (· + Int.ofNat n)) w := by rw [hwE]; exact Gro.sl hF hO (by simp; omega)
 obtain ⟨a7, c7, rfl, -, -⟩ := id hSe
 refine .exit (.seq (.loop (.here (.seq (.seq (.seq (.region (.F fa50_4 ?_))))))))
 refine .M ag48 (.tail (.app (.app (.tail (.tail .head))))) rfl ?_
 refine .G (ln48 ..) ?_
 refine .P ?_
 refine .nil (.seq (.block ?_))
 refine .loop (α := Nat × Gro × List Value × List Arm × Hp × Value) (fun q => [(2, ptr b2), (3, ptr b3), (4, ptr b4), (5, .func (.func 117) ⟨[]⟩ ⟨[ptr b3]⟩), (6, ptr b6), (38, .slice aa t.arms.length ca), (39, .int .i64 (Int.ofNat (t.arms.length))), (40, .int .i64 (Int.ofNat (q.1)))]) (fun q => (b6, .cells [.int .i64 t.kind, .slice a7 (t.elems.map (· + Int.ofNat n)).length c7, .string t.name, .slice a2 (t.fields.map (mvF n)).length c2, q.2.2.2.2.2] 50 false .plain none) :: (q.2.1.H 55 q.2.2.1 ++ (q.2.2.2.2.1 ++ (g_.H 3 cs_ ++ (zg.H 132 zc ++ [(b4, .cells [.int .i64 0, .slice none 0 0, .string ⟨⟨[]⟩⟩, .slice none 0 0, .slice none 0 0] 50 false .plain none), (b3, .cells [.int .i64 (Int.ofNat n)] 3 false .plain none), (b2, .cells [.int .i64 t.kind, .slice ae t.elems.length ce, .string t.name, .slice af t.fields.length cf, .slice aa t.arms.length ca] 50 false .plain none)]))))) (fun q => q.1 ≤ t.arms.length ∧ q.2.2.2.1 = (t.arms.take q.1).map (mvA n) ∧ Flat 2 (RArm (InH q.2.2.2.2.1)) q.2.2.2.1 q.2.2.1 ∧ q.2.1.Ok q.2.2.2.1.length ∧ q.2.2.2.2.2 = q.2.1.V q.2.2.2.1.length) (fun q => t.arms.length - q.1) (0, .no, [], [], [], .slice none 0 0) ⟨Nat.zero_le _, rfl, Flat.nil, rfl, rfl⟩ ⟨rfl, rfl, rfl, rfl, rfl, rfl, rfl, rfl, trivial⟩ (.refl _) (fun q hq0 => ?_)
 obtain ⟨k, g3, cs3, L3, F2, wa⟩ := q
 obtain ⟨hk, hL3, hF3, hO3, hw3⟩ := hq0
 simp only at hk hL3 hF3 hO3 hw3
 have hL3l : L3.length = k := by rw [hL3, List.length_map, List.length_take]; omega
 refine .seq (.region (.P ?_))
 refine .nil (.seq (.seq (.cond rfl (fun ht41 => ?_) fun ht41 => ?_)))
 ·try simp only [nz] at ht41
  have hltX : k < t.arms.length := by omega
  obtain ⟨x, hx⟩ := gx hltX
  obtain ⟨bX, offX, csX, elX, gX, mdX, mateX, rfl, ⟨hbX, hhX⟩, hleX, hcX⟩ := so ha hltX
  have hrx := hcX k x hx
  obtain ⟨vx, hrx, hxS⟩ := hrx
  obtain ⟨axf, cxf, rfl, hnxf, hxf⟩ := id hxS
  have k4 := hw.afields k x hx
  refine .skip (.seq (.seq (.block (.seq (.region (.K underlying48 sz55 ?_))))))
  refine .A ag55 sz55 (.base hhX hbX (by simp)) hrx ?_
  refine .alloc rfl rfl rfl rfl zr55 (fun b10 hb10 => ?_)
  refine .S sz55 ?_
  refine .nil (.seq ?_)
  refine .D [(13, 0), (1, 1), (13, 0), (1, 4), (15, 0), (15, 0), (3, 32), (7, 112), (15, 252), (11, 508), (7, 1023), (15, 2047), (7, 4095)] (by kernel_rfl) (by kernel_rfl) (fun base hbase hB => ?_)
  refine .F fa50_4 ?_
  refine .R ag48 hB ?_
  refine .as 45 (g3.V L3.length) rfl hw3 ?_
  refine .F fa55_0 ?_
  refine .R ag9 hB ?_
  refine .P ?_
  refine .F fa55_1 ?_
  refine .J ag47 ?_
  refine .calln _ _ _ rfl rfl rfl rfl rfl rfl rfl rfl rfl (fun m hm => mvd1_ok (n := n) hm.lole (hxS.mono (Mem.kr hm) fun _ _ h => h) (by omega) (InR.parts hbd hN fun x_ hx_ => parts_armf (List.mem_of_getElem? hx) hx_) hn (⟨(hm.has b3 _ (.tail _ (.tail _ (List.mem_append_right _ (List.mem_append_right _ (List.mem_append_right _ (List.mem_append_right _ (.tail _ (.head _))))))))).2, (hm.has b3 _ (.tail _ (.tail _ (List.mem_append_right _ (List.mem_append_right _ (List.mem_append_right _ (List.mem_append_right _ (.tail _ (.head _))))))))).1⟩ : Mem m b3 _)) (fun z4 hz4 => ?_)
  obtain ⟨z4g, z4c⟩ := z4
  obtain ⟨hz4F, hz4O⟩ := hz4
  simp only at hz4F hz4O
  have hS4 := Gro.sl (el := 132) hz4F hz4O (by first | omega | (simp; omega))
  obtain ⟨a4, c4, hh51, -, -⟩ := id hS4
  rw [hh51] at hS4
  refine .as 51 (.slice a4 (x.fields.map (mvF n)).length c4) rfl hh51 ?_
  refine .p (v := .agg ⟨[.string x.name, .slice a4 (x.fields.map (mvF n)).length c4]⟩) rfl rfl rfl rfl (by kernel_rfl) ?_
  refine .buildSlice rfl rfl rfl rfl rfl rfl (bs48_1 ..) (fun b53 hn53 hb53 => ?_)
  refine .appendSl (R := RArm (InH (z4g.H 132 z4c ++ F2))) (l0 := L3) (l := [mvA n x]) (L := (L3 ++ [mvA n x])) (g := g3) (cs := cs3) rfl (.tail (.over (.tail (.tail .here)))) (flat_mono hF3 (RArm.mono inB)) hO3 (Sl.single (R := RArm (InH (z4g.H 132 z4c ++ F2))) (x := mvA n x) (b := b53) (c := 1) (el := 55) (g := false) (md := .plain) (mate := none) ⟨_, rfl, hS4.mono inA fun _ _ h => h⟩ rfl) ((InH.sees (by intro p_ hp_; rw [List.mem_singleton.1 hp_]; exact List.mem_cons_self))) RArm.flats (by simp; omega) rfl rfl (by kernel_rfl) (by kernel_rfl) rfl rfl rfl rfl underlying48 underlying48 ap55 rfl rfl (fun g6 cs6 hF6 hO6 => ?_)
  obtain ⟨a6, c6, hw6⟩ := Gro.len hO6
  refine .as 54 (.slice a6 (L3 ++ [mvA n x]).length c6) rfl hw6 ?_
  refine .F fa50_4 ?_
  refine .store rfl rfl (by kernel_rfl) (by kernel_rfl) rfl rfl rfl rfl rfl sz48 rfl (Upd.app (.tail (Upd.app (.tail .head)))) rfl ?_
  refine .nil (.blk (.seq (.region (.P ?_))))
  refine .W 56 k ?_
  refine .P ?_
  refine .nil (.swap mv_perm3 ?_)
  exact .loop (k + 1, g6, cs6, L3 ++ [mvA n x], z4g.H 132 z4c ++ F2, _) ⟨by omega, by rw [hL3]; exact (map_take_succ hx).symm, hF6, hO6, hw6.symm⟩ (by show t.arms.length - (k + 1) < t.arms.length - k; omega) ⟨rfl, rfl, rfl, rfl, rfl, rfl, rfl, rfl, trivial⟩ (.cons _ (.cons _ (.refl _)))
 try simp only [nz] at ht41
 have hke : k = t.arms.length := by omega
 subst hke
 rw [List.take_length] at hL3
 subst hL3
 have hSa : Sl (InH (g3.H 55 cs3)) 2 (RArm (InH F2)) (t.arms.map (mvA n)) wa := by rw [hw3]; exact Gro.sl hF3 hO3 (by simp; omega)
 obtain ⟨a8, c8, rfl, -, -⟩ := id hSa
 refine .exit (.seq (.loop (.here (.seq (.seq (.region (.E ag50 sz50 ?_)))))))
 refine .store rfl rfl rfl rfl rfl sz50 rfl (.tail (Upd.app (Upd.app (Upd.app (Upd.app .head))))) rfl ?_
 refine .nil (.seq (.ret ?_))
 refine .endH rfl (.agg rfl ag50 sz50 (by exact .tail (.app (.app (.app (.app .head))))) (by exact Nat.le_of_ble_eq_true rfl) rfl .nil) ?_
 exact fun m hm => ⟨(g3.H 55 cs3 ++ (F2 ++ (g_.H 3 cs_ ++ zg.H 132 zc)), [.int .i64 t.kind, .slice a7 (t.elems.map (· + Int.ofNat n)).length c7, .string t.name, .slice a2 (t.fields.map (mvF n)).length c2, .slice a8 (t.arms.map (mvA n)).length c8]), ⟨_, _, _, rfl, hSe.mono (fun b o h => inB b o (inB b o (inA b o h))) fun _ _ h => h, hS2.mono (fun b o h => inB b o (inB b o (inB b o h))) fun _ _ h => h, hSa.mono inA (RArm.mono fun b o h => inB b o (inA b o h))⟩, rfl, hm.ext, hm.news mv_sub⟩

/-! A table behind another one. -/
def joinL (l l2 : List Ty) : List Ty := l ++ l2.map (mvT l.length)
theorem joinL_left {l l2 : List Ty} {i : Nat} (h : i < l.length) : (joinL l l2)[i]? = l[i]? := List.getElem?_append_left h
theorem joinL_right {l l2 : List Ty} {i : Nat} : (joinL l l2)[l.length + i]? = (l2[i]?).map (mvT l.length) := by
 unfold joinL
 rw [List.getElem?_append_right (by omega), Nat.add_sub_cancel_left, List.getElem?_map]
abbrev KJ (F : Hp) (K0 : Kn) : Kn := fun b o => InH F b o ∨ K0 b o
theorem KJ.mono {F F' : Hp} {K0 : Kn} (k : ∀ b o, InH F b o → InH F' b o) : ∀ b o, KJ F K0 b o → KJ F' K0 b o := fun b o h => h.imp (k b o) id
theorem RTy.flats {K : Kn} : ∀ x cs, RTy K x cs → flats cs = true := by
 rintro x cs ⟨ve, vf, va, rfl, ⟨ae, ce, rfl, _⟩, ⟨af, cf, rfl, _⟩, ⟨aa, ca, rfl, _⟩⟩
 rfl

/-! What is asked of two tables. -/
def AcrP (l l2 : List Ty) (t u : Int) (x : Bool × Int) : Prop := ∃ e1, ChkP l e1 ∧ ((e1 ≠ 0 ∧ x = (false, e1)) ∨ (e1 = 0 ∧ ∃ e2, ChkP l2 e2 ∧ ((e2 ≠ 0 ∧ x = (false, e2)) ∨ (e2 = 0 ∧ ((¬ (0 ≤ t ∧ t < l.length ∧ 0 ≤ u ∧ u < l2.length) ∧ x = (false, 11)) ∨ ∃ p q : Nat, t = Int.ofNat p ∧ u = Int.ofNat q ∧ p < l.length ∧ q < l2.length ∧ x.2 = 0 ∧ (x.1 = true ↔ EqT (joinL l l2) p (q + l.length)))))))
theorem AcrP.good {l l2 : List Ty} {p q : Nat} {z : Bool} (h : ChkP l 0) (h2 : ChkP l2 0) (hp : p < l.length) (hq : q < l2.length) (hz : z = true ↔ EqT (joinL l l2) p (q + l.length)) : AcrP l l2 (Int.ofNat p) (Int.ofNat q) (z, 0) := ⟨0, h, .inr ⟨rfl, 0, h2, .inr ⟨rfl, .inr ⟨p, q, rfl, rfl, hp, hq, rfl, hz⟩⟩⟩⟩
theorem AcrP.at2 {l l2 : List Ty} {t u e : Int} {x : Bool × Int} (h : AcrP l l2 t u x) (h0 : ChkP l 0) (he : ChkP l2 e) (hne : e ≠ 0) : x = (false, e) := by
 obtain ⟨e1, h1, h2⟩ := h
 have := h1.uniq h0
 subst this
 rcases h2 with ⟨h2, _⟩ | ⟨_, e2, h3, h4⟩
 ·exact absurd rfl h2
 have := h3.uniq he
 subst this
 rcases h4 with ⟨_, h4⟩ | ⟨h4, _⟩
 ·exact h4
 exact absurd h4 hne
/-! A table among others, its indices moved. -/
theorem mvF_zero (f : Fld) : mvF 0 f = f := by
 cases f
 simp [mvF]
theorem mvA_zero (a : Arm) : mvA 0 a = a := by
 cases a
 simp only [mvA, Arm.mk.injEq, true_and]
 exact (List.map_congr_left fun f _ => mvF_zero f).trans (List.map_id _)
theorem mvT_zero (t : Ty) : mvT 0 t = t := by
 cases t
 simp only [mvT, Ty.mk.injEq, true_and]
 exact ⟨(List.map_congr_left (g := id) fun p _ => by simp).trans (List.map_id _), (List.map_congr_left fun f _ => mvF_zero f).trans (List.map_id _), (List.map_congr_left fun f _ => mvA_zero f).trans (List.map_id _)⟩
theorem parts_mem_in {n : Nat} {t : Ty} (hb : badB n t = false) {L : List Int} (hL : ∀ {p}, p ∈ L → p ∈ partsL t) (p : Int) (hp : p ∈ L) : ∃ q : Nat, p = Int.ofNat q ∧ q < n := by
 obtain ⟨j, hj⟩ := List.getElem?_of_mem (hL hp)
 exact parts_in hb hj
structure Emb (l L : List Ty) (k : Nat) : Prop where
 snd : Sound8 l
 at_ : ∀ (u : Nat) (t : Ty), l[u]? = some t → L[k + u]? = some (mvT k t)
section
variable {l L : List Ty} {k : Nat} (e : Emb l L k)
include e
end
def SzE (n k : Nat) (sz sz' : List Int) : Prop := ∀ q, q < n → sz'[k + q]? = sz[q]?
section
variable {n k : Nat} {sz sz' : List Int} (e : SzE n k sz sz')
include e
end
/-! A table with a moved copy of itself. -/
theorem Emb.rightE {l l2 : List Ty} (hb : Sound8 l2) : Emb l2 (joinL l l2) l.length := ⟨hb, fun u t h => by
 rw [joinL_right, h]
 rfl⟩
theorem RI.mvE {R : Nat → Nat → Prop} {n k : Nat} {t : Ty} (hR : ∀ q, q < n → R q (q + k)) (hb : badB n t = false) {p : Int} (hp : p ∈ partsL t) : RI R p (p + Int.ofNat k) := by
 obtain ⟨q, rfl, hq⟩ := parts_mem_in hb (fun h => h) p hp
 exact ⟨q, q + k, rfl, rfl, hR q hq⟩
theorem FldsR.mvE {R : Nat → Nat → Prop} {n k : Nat} {t : Ty} (hR : ∀ q, q < n → R q (q + k)) (hb : badB n t = false) {L : List Fld} (hL : ∀ x, x ∈ L → x.type ∈ partsL t) : FldsR R L (L.map (mvF k)) := ⟨(List.length_map _).symm, fun i f g hf hg => by
 rw [List.getElem?_map, hf] at hg
 cases hg
 exact ⟨rfl, RI.mvE hR hb (hL f (List.mem_of_getElem? hf))⟩⟩
theorem TyR.mvE {R : Nat → Nat → Prop} {n k : Nat} {t : Ty} (hR : ∀ q, q < n → R q (q + k)) (hb : badB n t = false) : TyR R t (mvT k t) where
 head := ⟨rfl, (List.length_map _).symm, (List.length_map _).symm, fun _ => rfl⟩
 els := ⟨(List.length_map _).symm, fun i p q hp hq => by
  rw [show (mvT k t).elems = t.elems.map (· + Int.ofNat k) from rfl, List.getElem?_map, hp] at hq
  cases hq
  exact RI.mvE hR hb (parts_elems (List.mem_of_getElem? hp))⟩
 flds := by
  split
  ·exact ⟨(List.length_map _).symm, fun f hf => ⟨mvF k f, List.mem_map.2 ⟨f, hf, rfl⟩, rfl, RI.mvE hR hb (parts_fldm hf)⟩⟩
  exact FldsR.mvE hR hb fun x hx => parts_fldm hx
 arms := ⟨(List.length_map _).symm, fun i f g hf hg => by
  rw [show (mvT k t).arms = t.arms.map (mvA k) from rfl, List.getElem?_map, hf] at hg
  cases hg
  exact ⟨rfl, FldsR.mvE hR hb fun x hx => parts_armf (List.mem_of_getElem? hf) hx⟩⟩
section
variable {l : List Ty} (h : ChkP l 0)
include h
theorem ChkP.bigE : ∃ r sz, Ranked l r ∧ SzFix l sz ∧ allN (bigAt sz l) l.length = true := by
 rcases h with ⟨h1, h2⟩ | ⟨_, h1, h2⟩ | ⟨h1, h2, hb, h3⟩
 ·exact absurd h2.symm h1
 ·exact absurd h2.symm h1
 rcases h3 with ⟨_, h3⟩ | ⟨r, sz, hr, hz, h4⟩
 ·cases h3
 refine ⟨r, sz, hr, hz, ?_⟩
 split at h4
 ·assumption
 cases h4
theorem EqT.copy {i : Nat} (hi : i < l.length) : EqT (joinL l l) i (i + l.length) := ⟨fun a b => a < l.length ∧ b = a + l.length, fun a b ⟨ha, e⟩ => .inr (by
 subst e
 have hb := h.fine.well.sound
 have h1 := List.getElem?_eq_getElem ha
 exact ⟨_, _, (joinL_left ha).trans h1, by rw [Nat.add_comm]; exact (Emb.rightE hb).at_ a _ h1, TyR.mvE (fun q hq => ⟨hq, rfl⟩) (hb a _ h1)⟩), hi, rfl⟩
end
theorem AskP.oneE {l : List Ty} {p : Nat} (h : ChkP l 0) (hp : p < l.length) : AskP l [Int.ofNat p] 0 := AskP.ok h fun j t hj ht => by
 obtain ⟨rfl⟩ : j = 0 := by simpa using hj
 cases ht
 exact ⟨Int.natCast_nonneg _, Int.ofNat_lt.2 hp⟩
theorem AskP.twoE {l : List Ty} {p q : Nat} (h : ChkP l 0) (hp : p < l.length) (hq : q < l.length) : AskP l [Int.ofNat p, Int.ofNat q] 0 := AskP.ok h fun j t hj ht => by
 have hj : j < 2 := hj
 obtain rfl | rfl : j = 0 ∨ j = 1 := by omega
 ·cases ht
  exact ⟨Int.natCast_nonneg _, Int.ofNat_lt.2 hp⟩
 cases ht
 exact ⟨Int.natCast_nonneg _, Int.ofNat_lt.2 hq⟩
/-! Equality of types is an equivalence. -/
theorem RI.symm {R R' : Nat → Nat → Prop} (k : ∀ a b, R a b → R' b a) {p q : Int} (h : RI R p q) : RI R' q p := by
 obtain ⟨a, b, h1, h2, h3⟩ := h
 exact ⟨b, a, h2, h1, k a b h3⟩
theorem RI.comp {R R' R2 : Nat → Nat → Prop} (k : ∀ a b c, R a b → R' b c → R2 a c) {p q s : Int} (h : RI R p q) (h' : RI R' q s) : RI R2 p s := by
 obtain ⟨a, b, h1, h2, h3⟩ := h
 obtain ⟨b', c, g1, g2, g3⟩ := h'
 rw [h2] at g1
 cases g1
 exact ⟨a, c, h1, g2, k a b c h3 g3⟩
theorem at_same {α β : Type} {L : List α} {L' : List β} (h : L.length = L'.length) {i : Nat} {x : α} (hx : L[i]? = some x) : ∃ y, L'[i]? = some y := ⟨_, List.getElem?_eq_getElem (by have := (List.getElem?_eq_some_iff.1 hx).1; omega)⟩
theorem FldsR.symm {R R' : Nat → Nat → Prop} (k : ∀ a b, R a b → R' b a) {L L' : List Fld} (h : FldsR R L L') : FldsR R' L' L := ⟨h.1.symm, fun i f g hf hg => ⟨(h.2 i g f hg hf).1.symm, (h.2 i g f hg hf).2.symm k⟩⟩
theorem FldsR.comp {R R' R2 : Nat → Nat → Prop} (k : ∀ a b c, R a b → R' b c → R2 a c) {L L' L2 : List Fld} (h : FldsR R L L') (h' : FldsR R' L' L2) : FldsR R2 L L2 := ⟨h.1.trans h'.1, fun i f g hf hg => by
 obtain ⟨u, hu⟩ := at_same h.1 hf
 exact ⟨(h.2 i f u hf hu).1.trans (h'.2 i u g hu hg).1, (h.2 i f u hf hu).2.comp k (h'.2 i u g hu hg).2⟩⟩
theorem nodup_at {L : List Fld} (h : (fnames L).Nodup) {f g : Fld} (hf : f ∈ L) (hg : g ∈ L) (hn : f.name = g.name) : f = g := by
 unfold fnames at h
 induction L with
 | nil => cases hf
 | cons x L ih =>
  rw [List.map_cons, List.nodup_cons] at h
  rcases List.mem_cons.1 hf with e | hf2
  ·rcases List.mem_cons.1 hg with e' | hg2
   ·exact e.trans e'.symm
   exact absurd (List.mem_map.2 ⟨g, hg2, hn.symm.trans (congrArg _ e)⟩) h.1
  rcases List.mem_cons.1 hg with e' | hg2
  ·exact absurd (List.mem_map.2 ⟨f, hf2, hn.trans (congrArg _ e')⟩) h.1
  exact ih h.2 hf2 hg2
theorem nodup_sub {α : Type} : ∀ {L L' : List α}, L.Nodup → (∀ x, x ∈ L → x ∈ L') → L.length ≤ L'.length
 | [], _, _, _ => Nat.zero_le _
 | x :: L, L', h, hs => by
  rw [List.nodup_cons] at h
  obtain ⟨A, B, rfl⟩ := List.append_of_mem (hs x List.mem_cons_self)
  have := nodup_sub (L' := A ++ B) h.2 fun y hy => by
   have hne : y ≠ x := fun e => h.1 (e ▸ hy)
   have := hs y (List.mem_cons_of_mem _ hy)
   simp only [List.mem_append, List.mem_cons] at this ⊢
   rcases this with h | h | h
   ·exact .inl h
   ·exact absurd h hne
   exact .inr h
  simp only [List.length_append, List.length_cons] at this ⊢
  omega
/-- Members that agree one way, without two of a name, agree the other way too. -/
theorem MemR.symm {R R' : Nat → Nat → Prop} (k : ∀ a b, R a b → R' b a) {L L' : List Fld} (hL : (fnames L).Nodup) (hL' : (fnames L').Nodup) (h : MemR R L L') : MemR R' L' L := ⟨h.1.symm, fun g hg => by
 have hin : g.name ∈ fnames L := by
  apply Classical.byContradiction
  intro hn
  have h1 : ∀ x, x ∈ g.name :: fnames L → x ∈ fnames L' := fun x hx => by
   rcases List.mem_cons.1 hx with rfl | hx
   ·exact List.mem_map.2 ⟨g, hg, rfl⟩
   obtain ⟨f, hf, rfl⟩ := List.mem_map.1 hx
   obtain ⟨g', hg', e, _⟩ := h.2 f hf
   exact List.mem_map.2 ⟨g', hg', e⟩
  have := nodup_sub (List.nodup_cons.2 ⟨hn, hL⟩) h1
  simp only [List.length_cons, fnames, List.length_map] at this
  have := h.1
  omega
 obtain ⟨f, hf, hfn⟩ := List.mem_map.1 hin
 obtain ⟨g', hg', e, hr⟩ := h.2 f hf
 have := nodup_at hL' hg' hg (e.trans hfn)
 subst this
 exact ⟨f, hf, hfn, hr.symm k⟩⟩
theorem MemR.comp {R R' R2 : Nat → Nat → Prop} (k : ∀ a b c, R a b → R' b c → R2 a c) {L L' L2 : List Fld} (h : MemR R L L') (h' : MemR R' L' L2) : MemR R2 L L2 := ⟨h.1.trans h'.1, fun f hf => by
 obtain ⟨g, hg, e, hr⟩ := h.2 f hf
 obtain ⟨u, hu, e', hr'⟩ := h'.2 g hg
 exact ⟨u, hu, e'.trans e, hr.comp k hr'⟩⟩
theorem ArmsR.symm {R R' : Nat → Nat → Prop} (k : ∀ a b, R a b → R' b a) {L L' : List Arm} (h : ArmsR R L L') : ArmsR R' L' L := ⟨h.1.symm, fun i f g hf hg => ⟨(h.2 i g f hg hf).1.symm, (h.2 i g f hg hf).2.symm k⟩⟩
theorem ArmsR.comp {R R' R2 : Nat → Nat → Prop} (k : ∀ a b c, R a b → R' b c → R2 a c) {L L' L2 : List Arm} (h : ArmsR R L L') (h' : ArmsR R' L' L2) : ArmsR R2 L L2 := ⟨h.1.trans h'.1, fun i f g hf hg => by
 obtain ⟨u, hu⟩ := at_same h.1 hf
 exact ⟨(h.2 i f u hf hu).1.trans (h'.2 i u g hu hg).1, (h.2 i f u hf hu).2.comp k (h'.2 i u g hu hg).2⟩⟩
theorem TyR.symm {R R' : Nat → Nat → Prop} (k : ∀ a b, R a b → R' b a) {x y : Ty} (hx : (fnames x.fields).Nodup) (hy : (fnames y.fields).Nodup) (h : TyR R x y) : TyR R' y x where
 head := ⟨h.head.1.symm, h.head.2.1.symm, h.head.2.2.1.symm, fun e => (h.head.2.2.2 (h.head.1.trans e)).symm⟩
 els := ⟨h.els.1.symm, fun i p q hp hq => (h.els.2 i q p hq hp).symm k⟩
 flds := by
  have := h.flds
  rw [← h.head.1]
  split
  ·rename_i e
   rw [if_pos e] at this
   exact this.symm k hx hy
  rename_i e
  rw [if_neg e] at this
  exact this.symm k
 arms := h.arms.symm k
theorem TyR.comp {R R' R2 : Nat → Nat → Prop} (k : ∀ a b c, R a b → R' b c → R2 a c) {x y z : Ty} (h : TyR R x y) (h' : TyR R' y z) : TyR R2 x z where
 head := ⟨h.head.1.trans h'.head.1, h.head.2.1.trans h'.head.2.1, h.head.2.2.1.trans h'.head.2.2.1, fun e => (h.head.2.2.2 e).trans (h'.head.2.2.2 (h.head.1.symm.trans e))⟩
 els := ⟨h.els.1.trans h'.els.1, fun i p q hp hq => by
  obtain ⟨u, hu⟩ := at_same h.els.1 hp
  exact (h.els.2 i p u hp hu).comp k (h'.els.2 i u q hu hq)⟩
 flds := by
  have h1 := h.flds
  have h2 := h'.flds
  rw [← h.head.1] at h2
  split
  ·rename_i e
   rw [if_pos e] at h1 h2
   exact h1.comp k h2
  rename_i e
  rw [if_neg e] at h1 h2
  exact h1.comp k h2
 arms := h.arms.comp k h'.arms
theorem EqT.symm {l : List Ty} (hW : Well l) {a b : Nat} (h : EqT l a b) : EqT l b a := by
 obtain ⟨R, hR, h1⟩ := h
 refine ⟨fun x y => R y x, fun x y hxy => ?_, h1⟩
 rcases hR y x hxy with rfl | ⟨u, w, hu, hw, hr⟩
 ·exact .inl rfl
 exact .inr ⟨w, u, hw, hu, hr.symm (fun _ _ h => h) (nodup_fields (hW.all _ _ hu)) (nodup_fields (hW.all _ _ hw))⟩
theorem EqT.trans {l : List Ty} (hW : Well l) {a b c : Nat} (h : EqT l a b) (h' : EqT l b c) : EqT l a c := by
 refine ⟨fun x z => ∃ y, EqT l x y ∧ EqT l y z, fun x z hxz => ?_, b, h, h'⟩
 obtain ⟨y, h1, h2⟩ := hxz
 have hs := hW.sound
 have step : ∀ {p q : Nat}, EqT l p q → p = q ∨ EqStep l (EqT l) p q := fun h => by
  obtain ⟨R, hR, h1⟩ := h
  rcases hR _ _ h1 with rfl | h2
  ·exact .inl rfl
  exact .inr (h2.mono fun a b h => ⟨R, hR, h⟩)
 rcases step h1 with rfl | ⟨u, w, hu, hw, hr⟩
 ·rcases step h2 with rfl | h3
  ·exact .inl rfl
  exact .inr (h3.mono fun a b h => ⟨a, EqT.refl l a, h⟩)
 rcases step h2 with rfl | ⟨w', v, hw', hv, hr'⟩
 ·exact .inr ⟨u, w, hu, hw, hr.mono fun a b h => ⟨b, h, EqT.refl l b⟩⟩
 rw [hw] at hw'
 cases hw'
 exact .inr ⟨u, v, hu, hv, hr.comp (fun _ b _ h k => ⟨b, h, k⟩) hr'⟩

/-! Layouts: what is given to descriptors, and how. -/
structure Giv where
 t : Nat
 arm : ByteArray
 rcd : Bool
deriving DecidableEq
abbrev SlV := Int × Int
structure Lay where
 keys : List Giv
 descs : List (List SlV)
 mods : List Nat
def GivEq (l : List Ty) (g k : Giv) : Prop := k.rcd = g.rcd ∧ k.arm = g.arm ∧ EqT l k.t g.t
noncomputable def givIdx (l : List Ty) (K : List Giv) (g : Giv) : Option Nat := K.findIdx? fun k => @decide (GivEq l g k) (Classical.propDecidable _)
noncomputable def modIdx (l : List Ty) (M : List Nat) (t : Nat) : Option Nat := M.findIdx? fun k => @decide (EqT l k t) (Classical.propDecidable _)
def givTys (l : List Ty) (g : Giv) : List Int := if g.rcd = true then (match l[g.t]? with
 | some a => ftypes ((withL a g.arm).getD [])
 | none => []) else [Int.ofNat g.t]
def givTag (l : List Ty) (g : Giv) : List SlV := if g.rcd = true then (match l[g.t]? with
 | some a => if 0 < a.arms.length then [(0, 0)] else []
 | none => []) else []
inductive LTask where
 | num (g : Giv)
 | slo (t : Nat)
 | slos (ps : List Int)
def Lay.push (S : Lay) (g : Giv) : Lay := ⟨S.keys ++ [g], S.descs ++ [[]], S.mods⟩
def Lay.put (S : Lay) (n : Nat) (d : List SlV) : Lay := ⟨S.keys, S.descs.set n d, S.mods⟩
abbrev LOut := List SlV × Nat × Lay
/-- The number that is asked for, as a slot of a kind. -/
def asSlot (k : Int) : Option LOut → Option LOut
 | some (_, n, S) => some ([(k, Int.ofNat n)], 0, S)
 | none => none
noncomputable def layF (l : List Ty) : Nat → LTask → Lay → Option LOut
 | 0, _, _ => none
 | f + 1, .num g, S => match givIdx l S.keys g with
  | some i => some ([], i + 1, S)
  | none => match layF l f (.slos (givTys l g)) (S.push g) with
   | some (o, _, S') => some ([], S.descs.length, S'.put S.descs.length (givTag l g ++ o))
   | none => none
 | f + 1, .slo t, S => match l[t]? with
  | none => none
  | some a =>
   if a.kind = 5 then some ([(1, 0)], 0, S)
   else if a.kind = 6 ∨ a.kind = 7 ∨ a.kind = 8 then (match a.elems with
    | p :: _ => asSlot (a.kind - 4) (layF l f (.num ⟨p.toNat, ⟨#[]⟩, false⟩) S)
    | [] => none)
   else if a.kind = 9 then (match a.elems with
    | p :: _ => asSlot 5 (layF l f (.num ⟨p.toNat, a.name, true⟩) S)
    | [] => none)
   else if a.kind = 13 then (match modIdx l S.mods t with
    | some i => some ([(6, Int.ofNat i)], 0, S)
    | none => some ([(6, Int.ofNat S.mods.length)], 0, ⟨S.keys, S.descs, S.mods ++ [t]⟩))
   else if a.kind = 11 then layF l f (.slos a.elems) S
   else if a.kind = 10 then layF l f (.slos (ftypes a.fields)) S
   else some ([(0, 0)], 0, S)
 | _ + 1, .slos [], S => some ([], 0, S)
 | f + 1, .slos (p :: ps), S => match layF l f (.slo p.toNat) S with
  | some (o, _, S1) => match layF l f (.slos ps) S1 with
   | some (o2, _, S2) => some (o ++ o2, 0, S2)
   | none => none
  | none => none
def RunL (l : List Ty) (k : LTask) (S : Lay) (x : LOut) : Prop := ∃ f, layF l f k S = some x
section
variable {l : List Ty}
theorem asSlot_mono {k : Int} {a b : Option LOut} (h : ∀ x, a = some x → b = some x) {x : LOut} (hx : asSlot k a = some x) : asSlot k b = some x := by
 cases ha : a with
 | none => rw [ha] at hx; cases hx
 | some y => rw [h y ha]; rw [ha] at hx; exact hx
theorem layF_succ : ∀ (f : Nat) (k : LTask) (S : Lay) (x : LOut), layF l f k S = some x → layF l (f + 1) k S = some x
 | 0, _, _, _, h => by cases h
 | f + 1, .num g, S, x, h => by
  unfold layF at h ⊢
  cases hi : givIdx l S.keys g with
  | some i => rw [hi] at h; exact h
  | none =>
   rw [hi] at h
   simp only at h ⊢
   cases hr : layF l f (.slos (givTys l g)) (S.push g) with
   | none => rw [hr] at h; cases h
   | some y => rw [hr] at h; rw [layF_succ f _ _ y hr]; exact h
 | f + 1, .slo t, S, x, h => by
  unfold layF at h ⊢
  cases ht : l[t]? with
  | none => rw [ht] at h; cases h
  | some a =>
   rw [ht] at h
   simp only at h ⊢
   split at h
   ·rename_i h5; rw [if_pos h5]; exact h
   rename_i h5
   rw [if_neg h5]
   split at h
   ·rename_i h6
    rw [if_pos h6]
    cases he : a.elems with
    | nil => rw [he] at h; cases h
    | cons p ps => rw [he] at h; exact asSlot_mono (fun y => layF_succ f _ _ y) h
   rename_i h6
   rw [if_neg h6]
   split at h
   ·rename_i h9
    rw [if_pos h9]
    cases he : a.elems with
    | nil => rw [he] at h; cases h
    | cons p ps => rw [he] at h; exact asSlot_mono (fun y => layF_succ f _ _ y) h
   rename_i h9
   rw [if_neg h9]
   split at h
   ·rename_i h13; rw [if_pos h13]; exact h
   rename_i h13
   rw [if_neg h13]
   split at h
   ·rename_i h11; rw [if_pos h11]; exact layF_succ f _ _ _ h
   rename_i h11
   rw [if_neg h11]
   split at h
   ·rename_i h10; rw [if_pos h10]; exact layF_succ f _ _ _ h
   rename_i h10; rw [if_neg h10]; exact h
 | f + 1, .slos [], S, x, h => h
 | f + 1, .slos (p :: ps), S, x, h => by
  unfold layF at h ⊢
  cases h1 : layF l f (.slo p.toNat) S with
  | none => rw [h1] at h; cases h
  | some y =>
   rw [h1] at h
   rw [layF_succ f _ _ y h1]
   simp only at h ⊢
   cases h2 : layF l f (.slos ps) y.2.2 with
   | none => rw [h2] at h; cases h
   | some z => rw [h2] at h; rw [layF_succ f _ _ z h2]; exact h
theorem layF_le {f f' : Nat} {k : LTask} {S : Lay} {x : LOut} (h : layF l f k S = some x) (hf : f ≤ f') : layF l f' k S = some x := by
 obtain ⟨d, rfl⟩ := Nat.le.dest hf
 induction d with
 | zero => exact h
 | succ d ih => exact layF_succ _ _ _ _ (ih (Nat.le_add_right _ _))
theorem RunL.uniq {k : LTask} {S : Lay} {x y : LOut} (h : RunL l k S x) (h' : RunL l k S y) : x = y := by
 obtain ⟨f, h⟩ := h
 obtain ⟨g, h'⟩ := h'
 have h1 := layF_le h (Nat.le_max_left f g)
 rw [layF_le h' (Nat.le_max_right f g)] at h1
 exact (Option.some.inj h1).symm
/-! The steps. -/
theorem RunL.old {S : Lay} {g : Giv} {i : Nat} (h : givIdx l S.keys g = some i) : RunL l (.num g) S ([], i + 1, S) := ⟨1, by unfold layF; rw [h]⟩
theorem RunL.new {S S' : Lay} {g : Giv} {o : List SlV} {n : Nat} (h : givIdx l S.keys g = none) (hr : RunL l (.slos (givTys l g)) (S.push g) (o, n, S')) : RunL l (.num g) S ([], S.descs.length, S'.put S.descs.length (givTag l g ++ o)) := by
 obtain ⟨f, hr⟩ := hr
 exact ⟨f + 1, by unfold layF; rw [h]; simp only; rw [hr]⟩
theorem RunL.nil {S : Lay} : RunL l (.slos []) S ([], 0, S) := ⟨1, rfl⟩
theorem RunL.cons {S S1 S2 : Lay} {p : Int} {ps : List Int} {o o2 : List SlV} {n n2 : Nat} (h : RunL l (.slo p.toNat) S (o, n, S1)) (h2 : RunL l (.slos ps) S1 (o2, n2, S2)) : RunL l (.slos (p :: ps)) S (o ++ o2, 0, S2) := by
 obtain ⟨f, h⟩ := h
 obtain ⟨g, h2⟩ := h2
 refine ⟨max f g + 1, ?_⟩
 unfold layF
 rw [layF_le h (Nat.le_max_left f g)]
 simp only
 rw [layF_le h2 (Nat.le_max_right f g)]
theorem RunL.uncons {S : Lay} {p : Int} {ps : List Int} {x : LOut} (h : RunL l (.slos (p :: ps)) S x) : ∃ o n S1 o2 n2 S2, RunL l (.slo p.toNat) S (o, n, S1) ∧ RunL l (.slos ps) S1 (o2, n2, S2) ∧ x = (o ++ o2, 0, S2) := by
 obtain ⟨f, h⟩ := h
 cases f with
 | zero => cases h
 | succ f =>
  unfold layF at h
  cases h1 : layF l f (.slo p.toNat) S with
  | none => rw [h1] at h; cases h
  | some y =>
   rw [h1] at h
   simp only at h
   cases h2 : layF l f (.slos ps) y.2.2 with
   | none => rw [h2] at h; cases h
   | some z => rw [h2] at h; cases h; exact ⟨_, _, _, _, _, _, ⟨f, h1⟩, ⟨f, h2⟩, rfl⟩
theorem RunL.app {S1 S2 : Lay} {qs : List Int} {o2 : List SlV} {n2 : Nat} : ∀ {ps : List Int} {S : Lay} {o : List SlV} {n : Nat}, RunL l (.slos ps) S (o, n, S1) → RunL l (.slos qs) S1 (o2, n2, S2) → RunL l (.slos (ps ++ qs)) S (o ++ o2, 0, S2)
 | [], S, o, n, h, h2 => by
  have := h.uniq RunL.nil
  cases this
  have hn : n2 = 0 := by
   cases qs with
   | nil => have := h2.uniq RunL.nil; cases this; rfl
   | cons p ps => obtain ⟨_, _, _, _, _, _, _, _, e⟩ := h2.uncons; cases e; rfl
  subst hn
  exact h2
 | p :: ps, S, o, n, h, h2 => by
  obtain ⟨oa, na, Sa, ob, nb, Sb, h3, h4, e⟩ := h.uncons
  cases e
  have := RunL.cons h3 (RunL.app h4 h2)
  rw [List.append_assoc]
  exact this
theorem RunL.snoc {S S1 S2 : Lay} {p : Int} {ps : List Int} {o o2 : List SlV} {n n2 : Nat} (h : RunL l (.slos ps) S (o, n, S1)) (h2 : RunL l (.slo p.toNat) S1 (o2, n2, S2)) : RunL l (.slos (ps ++ [p])) S (o ++ o2, 0, S2) := by
 have := h.app (RunL.cons h2 RunL.nil)
 rwa [List.append_nil] at this
section
variable {t : Nat} {a : Ty} (ht : l[t]? = some a)
include ht
theorem RunL.str {S : Lay} (h : a.kind = 5) : RunL l (.slo t) S ([(1, 0)], 0, S) := ⟨1, by unfold layF; rw [ht]; simp only; rw [if_pos h]⟩
theorem RunL.elem {S S' : Lay} {p : Int} {ps : List Int} {o : List SlV} {n : Nat} (h : a.kind = 6 ∨ a.kind = 7 ∨ a.kind = 8) (he : a.elems = p :: ps) (hr : RunL l (.num ⟨p.toNat, ⟨#[]⟩, false⟩) S (o, n, S')) : RunL l (.slo t) S ([(a.kind - 4, Int.ofNat n)], 0, S') := by
 obtain ⟨f, hr⟩ := hr
 exact ⟨f + 1, by unfold layF; rw [ht]; simp only; rw [if_neg (by omega), if_pos h, he]; simp only; rw [hr]; rfl⟩
theorem RunL.ref {S S' : Lay} {p : Int} {ps : List Int} {o : List SlV} {n : Nat} (h : a.kind = 9) (he : a.elems = p :: ps) (hr : RunL l (.num ⟨p.toNat, a.name, true⟩) S (o, n, S')) : RunL l (.slo t) S ([(5, Int.ofNat n)], 0, S') := by
 obtain ⟨f, hr⟩ := hr
 exact ⟨f + 1, by unfold layF; rw [ht]; simp only; rw [if_neg (by omega), if_neg (by omega), if_pos h, he]; simp only; rw [hr]; rfl⟩
theorem RunL.modO {S : Lay} {i : Nat} (h : a.kind = 13) (hi : modIdx l S.mods t = some i) : RunL l (.slo t) S ([(6, Int.ofNat i)], 0, S) := ⟨1, by unfold layF; rw [ht]; simp only; rw [if_neg (by omega), if_neg (by omega), if_neg (by omega), if_pos h, hi]⟩
theorem RunL.modN {S : Lay} (h : a.kind = 13) (hi : modIdx l S.mods t = none) : RunL l (.slo t) S ([(6, Int.ofNat S.mods.length)], 0, ⟨S.keys, S.descs, S.mods ++ [t]⟩) := ⟨1, by unfold layF; rw [ht]; simp only; rw [if_neg (by omega), if_neg (by omega), if_neg (by omega), if_pos h, hi]⟩
theorem RunL.tup {S : Lay} {x : LOut} (h : a.kind = 11) (hr : RunL l (.slos a.elems) S x) : RunL l (.slo t) S x := by
 obtain ⟨f, hr⟩ := hr
 exact ⟨f + 1, by unfold layF; rw [ht]; simp only; rw [if_neg (by omega), if_neg (by omega), if_neg (by omega), if_neg (by omega), if_pos h, hr]⟩
theorem RunL.adt {S : Lay} {x : LOut} (h : a.kind = 10) (hr : RunL l (.slos (ftypes a.fields)) S x) : RunL l (.slo t) S x := by
 obtain ⟨f, hr⟩ := hr
 exact ⟨f + 1, by unfold layF; rw [ht]; simp only; rw [if_neg (by omega), if_neg (by omega), if_neg (by omega), if_neg (by omega), if_neg (by omega), if_pos h, hr]⟩
theorem RunL.plain {S : Lay} (h : a.kind < 5 ∨ a.kind = 12 ∨ a.kind > 13) : RunL l (.slo t) S ([(0, 0)], 0, S) := ⟨1, by unfold layF; rw [ht]; simp only; rw [if_neg (by omega), if_neg (by omega), if_neg (by omega), if_neg (by omega), if_neg (by omega), if_neg (by omega)]⟩
end
end

/-! What may be given a descriptor, and how much of it is left. -/
def GivV (l : List Ty) (g : Giv) : Prop := ∃ a, l[g.t]? = some a ∧ if g.rcd = true then a.kind = 10 ∧ (withL a g.arm).isSome = true else g.arm = ⟨#[]⟩ ∧ valueB a = true
def allK (l : List Ty) : List Giv := (List.range l.length).flatMap fun t => ⟨t, ⟨#[]⟩, false⟩ :: ⟨t, ⟨#[]⟩, true⟩ :: (match l[t]? with
 | some a => a.arms.map fun x => ⟨t, x.name, true⟩
 | none => [])
theorem size_nil {s : ByteArray} (h : s.size = 0) : s = ⟨#[]⟩ := by
 cases s with
 | mk d => cases d with
  | mk L => cases L with
   | nil => rfl
   | cons x L => simp [ByteArray.size] at h
theorem GivV.mem {l : List Ty} {g : Giv} (h : GivV l g) : g ∈ allK l := by
 obtain ⟨t, s, b⟩ := g
 obtain ⟨a, ha, h⟩ := h
 simp only at ha h
 unfold allK
 refine List.mem_flatMap.2 ⟨t, List.mem_range.2 (List.getElem?_eq_some_iff.1 ha).1, ?_⟩
 rw [ha]
 cases b with
 | false =>
  rw [if_neg (by decide)] at h
  rw [h.1]
  exact .head _
 | true =>
  rw [if_pos rfl] at h
  obtain ⟨_, h⟩ := h
  unfold withL at h
  split at h
  ·rename_i hs
   rw [size_nil hs]
   exact .tail _ (.head _)
  rw [Option.isSome_map] at h
  obtain ⟨x, hx⟩ := Option.isSome_iff_exists.1 h
  have h1 := List.find?_some hx
  simp only [decide_eq_true_eq] at h1
  exact .tail _ (.tail _ (List.mem_map.2 ⟨x, List.mem_of_find?_eq_some hx, by rw [h1]⟩))
theorem flat_len {α β : Type} {f : α → List β} {n : Nat} : ∀ {L : List α}, (∀ x, x ∈ L → (f x).length ≤ n) → (L.flatMap f).length ≤ L.length * n
 | [], _ => by simp
 | x :: L, h => by
  have h1 := h x List.mem_cons_self
  have h2 := flat_len (L := L) fun y hy => h y (List.mem_cons_of_mem _ hy)
  rw [List.flatMap_cons, List.length_append, List.length_cons, Nat.add_mul]
  omega
theorem allK_few {l : List Ty} (hw : ∀ (i : Nat) (a : Ty), l[i]? = some a → FewT a) : (allK l).length ≤ l.length * 8 := by
 have := flat_len (L := List.range l.length) (n := 8) (f := fun t => (⟨t, ⟨#[]⟩, false⟩ :: ⟨t, ⟨#[]⟩, true⟩ :: (match l[t]? with
  | some a => a.arms.map fun x => ⟨t, x.name, true⟩
  | none => []) : List Giv)) fun t _ => by
   simp only [List.length_cons]
   cases ht : l[t]? with
   | none => simp
   | some a =>
    have := (hw t a ht).arms
    simp only [List.length_map]
    omega
 rwa [List.length_range] at this
def unm (l : List Ty) (K : List Giv) : Nat := ((allK l).filter fun k => decide (k ∉ K)).length
theorem filter_leG {α : Type} {p q : α → Bool} (h : ∀ x, p x = true → q x = true) : ∀ L : List α, (L.filter p).length ≤ (L.filter q).length
 | [] => Nat.le_refl _
 | x :: L => by
  have ih := filter_leG h L
  rw [List.filter_cons, List.filter_cons]
  cases hp : p x with
  | true =>
   rw [h x hp]
   simpa using ih
  | false =>
   cases hq : q x with
   | true =>
    simp only [Bool.false_eq_true, if_false, if_true, List.length_cons]
    omega
   | false => simpa using ih
theorem filter_ltG {α : Type} {p q : α → Bool} (h : ∀ x, p x = true → q x = true) {y : α} (h1 : p y = false) (h2 : q y = true) : ∀ L : List α, y ∈ L → (L.filter p).length < (L.filter q).length
 | [], hy => by cases hy
 | x :: L, hy => by
  have hle := filter_leG h L
  rw [List.filter_cons, List.filter_cons]
  rcases List.mem_cons.1 hy with e | hy
  ·subst e
   rw [h1, h2]
   simp only [Bool.false_eq_true, if_false, if_true, List.length_cons]
   omega
  have ih := filter_ltG h h1 h2 L hy
  cases hp : p x with
  | true =>
   rw [h x hp]
   simpa using ih
  | false =>
   cases hq : q x with
   | true =>
    simp only [Bool.false_eq_true, if_false, if_true, List.length_cons]
    omega
   | false => simpa using ih
theorem unm_push {l : List Ty} {K : List Giv} {g : Giv} (h : GivV l g) (hn : g ∉ K) : unm l (K ++ [g]) < unm l K := by
 unfold unm
 refine filter_ltG (fun x hx => ?_) (y := g) (by simp) (by simpa using hn) _ h.mem
 simp only [decide_eq_true_eq, List.mem_append, List.mem_singleton, not_or] at hx ⊢
 exact hx.1
theorem GivEq.refl (l : List Ty) (g : Giv) : GivEq l g g := ⟨rfl, rfl, EqT.refl l _⟩
theorem givIdx_none {l : List Ty} {K : List Giv} {g : Giv} (h : givIdx l K g = none) : ∀ k, k ∈ K → ¬ GivEq l g k := fun k hk => by
 unfold givIdx at h
 rw [List.findIdx?_eq_none_iff] at h
 have := h k hk
 simpa using this
theorem givIdx_some {l : List Ty} {K : List Giv} {g : Giv} {i : Nat} (h : givIdx l K g = some i) : ∃ k, K[i]? = some k ∧ GivEq l g k := by
 unfold givIdx at h
 rw [List.findIdx?_eq_some_iff_getElem] at h
 obtain ⟨hi, h1, _⟩ := h
 exact ⟨K[i], List.getElem?_eq_getElem hi, by simpa using h1⟩
theorem givIdx_app {l : List Ty} {K K' : List Giv} {g : Giv} {i : Nat} (h : givIdx l K g = some i) : givIdx l (K ++ K') g = some i := by
 unfold givIdx at h ⊢
 rw [List.findIdx?_append, h]
 rfl
theorem givIdx_new {l : List Ty} {K : List Giv} {g : Giv} (h : givIdx l K g = none) : givIdx l (K ++ [g]) g = some K.length := by
 unfold givIdx at h ⊢
 rw [List.findIdx?_append, h]
 rw [List.findIdx?_cons, if_pos (by simpa using GivEq.refl l g)]
 simp
theorem givIdx_congr {l : List Ty} {g g' : Giv} (h : ∀ k, GivEq l g k ↔ GivEq l g' k) (K : List Giv) : givIdx l K g = givIdx l K g' := by
 unfold givIdx
 congr 1
 funext k
 exact decide_eq_decide.2 (h k)
theorem modIdx_app {l : List Ty} {M M' : List Nat} {t i : Nat} (h : modIdx l M t = some i) : modIdx l (M ++ M') t = some i := by
 unfold modIdx at h ⊢
 rw [List.findIdx?_append, h]
 rfl
theorem modIdx_new {l : List Ty} {M : List Nat} {t : Nat} (h : modIdx l M t = none) : modIdx l (M ++ [t]) t = some M.length := by
 unfold modIdx at h ⊢
 rw [List.findIdx?_append, h]
 rw [List.findIdx?_cons, if_pos (by simpa using EqT.refl l t)]
 simp
theorem modIdx_congr {l : List Ty} {t t' : Nat} (h : ∀ k, EqT l k t ↔ EqT l k t') (M : List Nat) : modIdx l M t = modIdx l M t' := by
 unfold modIdx
 congr 1
 funext k
 exact decide_eq_decide.2 (h k)
structure LayOk (l : List Ty) (S : Lay) : Prop where
 vals : ∀ k, k ∈ S.keys → GivV l k
 few : S.keys.length + unm l S.keys ≤ (allK l).length
 len : S.descs.length = S.keys.length + 1
 mods : ∀ k, k ∈ S.mods → k < l.length
 once : S.mods.Nodup
theorem LayOk.start (l : List Ty) : LayOk l ⟨[], [[]], []⟩ := ⟨fun _ h => (by cases h), by
 simp only [List.length_nil, Nat.zero_add]
 exact List.length_filter_le _ _, rfl, fun _ h => (by cases h), List.nodup_nil⟩
theorem LayOk.push {l : List Ty} {S : Lay} (h : LayOk l S) {g : Giv} (hg : GivV l g) (hn : givIdx l S.keys g = none) : LayOk l (S.push g) := ⟨fun k hk => by
 rcases List.mem_append.1 hk with hk | hk
 ·exact h.vals k hk
 ·rw [List.mem_singleton.1 hk]
  exact hg, by
 have h1 := unm_push (K := S.keys) hg fun hm => givIdx_none hn g hm (GivEq.refl l g)
 have h2 := h.few
 show (S.keys ++ [g]).length + unm l (S.keys ++ [g]) ≤ _
 rw [List.length_append, List.length_singleton]
 omega, by
 show (S.descs ++ [[]]).length = (S.keys ++ [g]).length + 1
 have := h.len
 simp only [List.length_append, List.length_singleton]
 omega, h.mods, h.once⟩
theorem LayOk.put {l : List Ty} {S : Lay} (h : LayOk l S) (n : Nat) (d : List SlV) : LayOk l (S.put n d) := ⟨h.vals, h.few, by
 show (S.descs.set n d).length = _
 rw [List.length_set]
 exact h.len, h.mods, h.once⟩
theorem LayOk.modN {l : List Ty} {S : Lay} (h : LayOk l S) {t : Nat} (ht : t < l.length) (hn : modIdx l S.mods t = none) : LayOk l ⟨S.keys, S.descs, S.mods ++ [t]⟩ := ⟨h.vals, h.few, h.len, fun k hk => by
 rcases List.mem_append.1 hk with hk | hk
 ·exact h.mods k hk
 ·rw [List.mem_singleton.1 hk]
  exact ht, by
 refine List.nodup_append.2 ⟨h.once, by simp, fun a ha b hb => ?_⟩
 rw [List.mem_singleton.1 hb]
 rintro rfl
 unfold modIdx at hn
 rw [List.findIdx?_eq_none_iff] at hn
 have := hn a ha
 simp only [decide_eq_false_iff_not] at this
 exact this (EqT.refl l a)⟩
theorem LayOk.keys_few {l : List Ty} {S : Lay} (h : LayOk l S) (hw : ∀ (i : Nat) (a : Ty), l[i]? = some a → FewT a) (hl : l.length ≤ 14) : S.keys.length ≤ 112 := by
 have := h.few
 have := allK_few hw
 omega
theorem LayOk.mods_few {l : List Ty} {S : Lay} (h : LayOk l S) : S.mods.length ≤ l.length := by
 have := nodup_sub (L' := List.range l.length) h.once fun x hx => List.mem_range.2 (h.mods x hx)
 rwa [List.length_range] at this

/-! The parts of values are values; how many slots there are. -/
def ValT (l : List Ty) (t : Nat) : Prop := ∃ a, l[t]? = some a ∧ valueB a = true
theorem valAt_T {l : List Ty} {q : Nat} (h : valAt l (Int.ofNat q) = true) : ValT l q := by
 unfold valAt at h
 rw [show (Int.ofNat q).toNat = q from rfl] at h
 cases hq : l[q]? with
 | none => rw [hq] at h; cases h
 | some a => rw [hq] at h; exact ⟨a, hq, h⟩
theorem allN_at {f : Nat → Bool} : ∀ {n : Nat}, allN f n = true → ∀ i, i < n → f i = true
 | 0, _, _, hi => absurd hi (Nat.not_lt_zero _)
 | n + 1, h, i, hi => by
  rw [allN_succ, Bool.and_eq_true] at h
  by_cases e : i = n
  ·rw [e]
   exact h.2
  exact allN_at h.1 i (by omega)
theorem Fine.part {l : List Ty} (hF : Fine l) {t : Nat} {a : Ty} (ha : l[t]? = some a) (h1 : a.kind ≠ 9) (h2 : a.kind ≠ 12) (h3 : a.kind ≠ 13) {p : Int} (hp : p ∈ partsL a) : ∃ q : Nat, p = Int.ofNat q ∧ ValT l q := by
 obtain ⟨j, hj⟩ := List.getElem?_of_mem hp
 obtain ⟨q, rfl, _⟩ := parts_in (hF.well.sound t a ha) hj
 refine ⟨q, rfl, ?_⟩
 have h := hF.fit t a ha
 rw [fit_else h1 h3 h2] at h
 split at h
 ·rename_i h0
  have := allN_at h0 j (List.getElem?_eq_some_iff.1 hj).1
  unfold partF at this
  rw [hj] at this
  exact valAt_T this
 cases h
theorem Fine.ref {l : List Ty} (hF : Fine l) {t : Nat} {a : Ty} (ha : l[t]? = some a) (h1 : a.kind = 9) : ∃ q b, a.elems = [Int.ofNat q] ∧ l[q]? = some b ∧ b.kind = 10 ∧ (withL b a.name).isSome = true := by
 have hs := (single_zero (hF.well.all t a ha)).1
 unfold shapedB at hs
 have hs := of_decide_eq_true hs
 simp only [shapeP] at hs
 have hl : a.elems.length = 1 := by omega
 obtain ⟨p, he⟩ : ∃ p, a.elems = [p] := by
  cases hh : a.elems with
  | nil => rw [hh] at hl; cases hl
  | cons p ps => cases ps with
   | nil => exact ⟨p, rfl⟩
   | cons _ _ => rw [hh] at hl; simp at hl
 obtain ⟨j, hj⟩ := List.getElem?_of_mem (parts_elems (t := a) (p := p) (by rw [he]; exact .head _))
 obtain ⟨q, rfl, hq⟩ := parts_in (hF.well.sound t a ha) hj
 have hb := List.getElem?_eq_getElem hq
 have h := hF.fit t a ha
 rw [fit_ref (q := q) h1 (by rw [he]; rfl) hb] at h
 split at h
 ·cases h
 rename_i hk
 split at h
 ·rename_i hw
  exact ⟨q, _, he, hb, by simpa using hk, hw⟩
 cases h
theorem Fine.elem {l : List Ty} (hF : Fine l) {t : Nat} {a : Ty} (ha : l[t]? = some a) (h1 : a.kind = 6 ∨ a.kind = 7 ∨ a.kind = 8) : ∃ q, a.elems = [Int.ofNat q] ∧ ValT l q ∧ Edge l t q := by
 have hs := (single_zero (hF.well.all t a ha)).1
 unfold shapedB at hs
 have hs := of_decide_eq_true hs
 simp only [shapeP] at hs
 have hl : a.elems.length = 1 := by omega
 obtain ⟨p, he⟩ : ∃ p, a.elems = [p] := by
  cases hh : a.elems with
  | nil => rw [hh] at hl; cases hl
  | cons p ps => cases ps with
   | nil => exact ⟨p, rfl⟩
   | cons _ _ => rw [hh] at hl; simp at hl
 have hm : p ∈ partsL a := parts_elems (by rw [he]; exact .head _)
 obtain ⟨q, rfl, hv⟩ := hF.part ha (by omega) (by omega) (by omega) hm
 exact ⟨q, he, hv, a, ha, by omega, hm⟩
theorem Fine.with_ {l : List Ty} (hF : Fine l) {t : Nat} {a : Ty} (ha : l[t]? = some a) (h1 : a.kind = 10) {s : ByteArray} {L : List Fld} (hL : withL a s = some L) {x : Fld} (hx : x ∈ L) : ∃ q : Nat, x.type = Int.ofNat q ∧ ValT l q := hF.part ha (by omega) (by omega) (by omega) (withL_parts hL hx)
theorem asSlot_len {k : Int} {a : Option LOut} {x : LOut} (h : asSlot k a = some x) : x.1.length = 1 := by
 cases a with
 | none => cases h
 | some y => cases h; rfl
theorem cap_cap {n m : Int} (hn : 0 ≤ n) (hm : 0 ≤ m) : cap257 (cap257 n + cap257 m) = cap257 (n + m) := by
 simp only [cap257]
 repeat' split
 all_goals omega
theorem cap_idem (n : Int) : cap257 (cap257 n) = cap257 n := by
 simp only [cap257]
 repeat' split
 all_goals omega
/-- Tables whose types are small. -/
def Sml (l : List Ty) : Prop := ∃ sz, SzFix l sz ∧ ∀ u, u < l.length → szAt sz (Int.ofNat u) ≤ 256
theorem ChkP.sml {l : List Ty} (h : ChkP l 0) : Sml l := by
 obtain ⟨r, sz, _, hz, hb⟩ := h.bigE
 refine ⟨sz, hz, fun u hu => ?_⟩
 have := allN_at hb u hu
 rw [bigAt_get (List.getElem?_eq_getElem hu)] at this
 unfold largeB at this
 simp only [Bool.not_eq_true', Bool.or_eq_false_iff, decide_eq_false_iff_not] at this
 omega
theorem layF_cap {l : List Ty} (hF : Fine l) {sz : List Int} (hz : SzFix l sz) : ∀ (f : Nat), (∀ t S x, ValT l t → layF l f (.slo t) S = some x → cap257 x.1.length = szAt sz (Int.ofNat t)) ∧ (∀ ps S x (n : Int), 0 ≤ n → (∀ p, p ∈ ps → ∃ q : Nat, p = Int.ofNat q ∧ ValT l q) → layF l f (.slos ps) S = some x → ps.foldl (fun n p => cap257 (n + szAt sz p)) (cap257 n) = cap257 (n + x.1.length))
 | 0 => ⟨fun _ _ _ _ h => (by cases h), fun _ _ _ _ _ _ h => (by cases h)⟩
 | f + 1 => by
  obtain ⟨h1, h2⟩ := layF_cap hF hz f
  have hall : ∀ ps S x, (∀ p, p ∈ ps → ∃ q : Nat, p = Int.ofNat q ∧ ValT l q) → layF l f (.slos ps) S = some x → foldS sz ps = cap257 x.1.length := fun ps S x hp hx => by
   have := h2 ps S x 0 (Int.le_refl _) hp hx
   rw [Int.zero_add] at this
   exact this
  refine ⟨fun t S x hv h => ?_, fun ps S x n hn hps h => ?_⟩
  ·obtain ⟨a, ha, hv⟩ := hv
   have hv := of_decide_eq_true hv
   have hs : szAt sz (Int.ofNat t) = szStep sz a := szAt_get (hz.fix_ t a ha)
   rw [hs]
   have one : ∀ k : Nat, k = 1 → a.kind ≠ 10 → a.kind ≠ 11 → cap257 (k : Int) = szStep sz a := fun k hk h10 h11 => by
    subst hk
    unfold szStep
    rw [if_neg (by omega), if_neg h11, if_neg h10]
    rfl
   unfold layF at h
   rw [ha] at h
   simp only at h
   split at h
   ·cases h; exact one _ rfl (by omega) (by omega)
   split at h
   ·split at h
    ·exact one _ (asSlot_len h) (by omega) (by omega)
    cases h
   split at h
   ·split at h
    ·exact one _ (asSlot_len h) (by omega) (by omega)
    cases h
   split at h
   ·split at h <;> (cases h; exact one _ rfl (by omega) (by omega))
   split at h
   ·rename_i h11
    unfold szStep
    rw [if_neg (by omega), if_pos h11]
    exact (hall _ S x (fun p hp => hF.part ha (by omega) (by omega) (by omega) (parts_elems hp)) h).symm
   split at h
   ·rename_i h11 h10
    unfold szStep
    rw [if_neg (by omega), if_neg h11, if_pos h10, if_neg (by omega), Int.zero_add, sumF_foldS, hall _ S x (fun p hp => hF.part ha (by omega) (by omega) (by omega) (parts_fields hp)) h]
    exact (cap_idem _).symm
   cases h; exact one _ rfl (by omega) (by omega)
  cases ps with
  | nil =>
   unfold layF at h
   cases h
   simp
  | cons p ps =>
   unfold layF at h
   cases h3 : layF l f (.slo p.toNat) S with
   | none => rw [h3] at h; cases h
   | some y =>
    rw [h3] at h
    simp only at h
    cases h4 : layF l f (.slos ps) y.2.2 with
    | none => rw [h4] at h; cases h
    | some z =>
     rw [h4] at h
     cases h
     obtain ⟨q, rfl, hq⟩ := hps p (.head _)
     have e1 := h1 _ _ _ hq h3
     have e2 := h2 ps y.2.2 z (n + y.1.length) (by omega) (fun p hp => hps p (List.mem_cons_of_mem _ hp)) h4
     rw [List.foldl_cons]
     have e1' : szAt sz (Int.ofNat q) = cap257 (y.1.length : Int) := e1.symm
     rw [e1', cap_cap hn (Int.natCast_nonneg _), e2, List.length_append]
     congr 1
     omega
theorem RunL.short {l : List Ty} (hF : Fine l) (hS : Sml l) {t : Nat} (ht : ValT l t) {S : Lay} {x : LOut} (h : RunL l (.slo t) S x) : x.1.length ≤ 256 := by
 obtain ⟨f, h⟩ := h
 obtain ⟨sz, hz, hs⟩ := hS
 have h1 := (layF_cap hF hz f).1 t S x ht h
 obtain ⟨a, ha, _⟩ := ht
 have h2 := hs t (List.getElem?_eq_some_iff.1 ha).1
 rw [← h1] at h2
 unfold cap257 at h2
 split at h2 <;> omega
theorem RunL.shorts {l : List Ty} (hF : Fine l) (hS : Sml l) : ∀ {ps : List Int} {S : Lay} {x : LOut}, (∀ p, p ∈ ps → ∃ q : Nat, p = Int.ofNat q ∧ ValT l q) → RunL l (.slos ps) S x → x.1.length ≤ ps.length * 256
 | [], S, x, _, h => by
  have := h.uniq RunL.nil
  subst this
  simp
 | p :: ps, S, x, hp, h => by
  obtain ⟨o, n, S1, o2, n2, S2, h1, h2, rfl⟩ := h.uncons
  obtain ⟨q, rfl, hq⟩ := hp p (.head _)
  have e1 := RunL.short hF hS hq h1
  have e2 := RunL.shorts hF hS (fun p hp' => hp p (List.mem_cons_of_mem _ hp')) h2
  simp only [List.length_append, List.length_cons, Nat.add_mul] at e1 e2 ⊢
  omega

/-! Layouts in memory. -/
def givV (g : Giv) : Value := .agg ⟨[.int .i64 (Int.ofNat g.t), .string g.arm, .bool g.rcd]⟩
theorem giv_int (d : Nat) (a b : Int) : eqA prog (d + 1) 3 (.int .i64 a) (.int .i64 b) = some (decide (a = b)) := by
 unfold eqA
 simp only [underlying3]
 show eqBase _ _ = _
 unfold eqBase
 simp [eqI_eq]
theorem giv_str (d : Nat) (a b : ByteArray) : eqA prog (d + 1) 9 (.string a) (.string b) = some (decide (a = b)) := by
 have h := (KeyOk.string (P := prog) (t := 9) underlying9).eq a b
 have e : ∀ n, eqA prog (n + 1) 9 (.string a) (.string b) = eqBase (.string a) (.string b) := fun n => by
  unfold eqA
  simp only [underlying9]
 rw [e]
 rw [show (10000 : Nat) = 9999 + 1 from rfl, e] at h
 exact h
theorem giv_bool (d : Nat) (a b : Bool) : eqA prog (d + 1) 4 (.bool a) (.bool b) = some (decide (a = b)) := by
 unfold eqA
 simp only [underlying4]
 show eqBase _ _ = _
 unfold eqBase
 cases a <;> cases b <;> rfl
theorem giv_part (a : Int) (s : ByteArray) (c : Bool) : partA prog 3 [.int .i64 a, .string s, .bool c] 0 = some (.int .i64 a) ∧ partA prog 9 [.int .i64 a, .string s, .bool c] 1 = some (.string s) ∧ partA prog 4 [.int .i64 a, .string s, .bool c] 2 = some (.bool c) := ⟨by kernel_rfl, by kernel_rfl, by kernel_rfl⟩
theorem giv_held : prog.stoodInHeld 124 = false := by kernel_rfl
theorem KG : KeyOk prog 124 givV where
 eq := fun a b => by
  obtain ⟨a1, a2, a3⟩ := a
  obtain ⟨b1, b2, b3⟩ := b
  obtain ⟨p0, p1, p2⟩ := giv_part (Int.ofNat a1) a2 a3
  obtain ⟨q0, q1, q2⟩ := giv_part (Int.ofNat b1) b2 b3
  rw [show (10000 : Nat) = 9998 + 1 + 1 from rfl]
  unfold eqA
  simp only [underlying124, giv_held, cond_false, givV]
  simp only [eqFields, p0, p1, p2, q0, q1, q2, giv_int, giv_str, giv_bool]
  by_cases e1 : a1 = b1
  ·by_cases e2 : a2 = b2
   ·by_cases e3 : a3 = b3
    ·simp [e1, e2, e3]
    simp [e1, e2, e3]
   simp [e1, e2]
  have e2 : ¬ Int.ofNat a1 = Int.ofNat b1 := fun h => e1 (Int.ofNat.inj h)
  simp only [decide_eq_false e2]
  simp [e1]
 ok := fun a => by
  obtain ⟨a1, a2, a3⟩ := a
  obtain ⟨p0, p1, p2⟩ := giv_part (Int.ofNat a1) a2 a3
  have k1 : ∀ d, keyV prog (d + 1) 3 (.int .i64 (Int.ofNat a1)) = true := fun d => by unfold keyV; simp only [underlying3]
  have k2 : ∀ d, keyV prog (d + 1) 9 (.string a2) = true := fun d => by unfold keyV; simp only [underlying9]
  have k3 : ∀ d, keyV prog (d + 1) 4 (.bool a3) = true := fun d => by unfold keyV; simp only [underlying4]
  have h2 : keyV prog (18 + 1 + 1) 124 (givV ⟨a1, a2, a3⟩) = true := by
   unfold keyV
   simp only [underlying124, givV]
   simp only [List.all_cons, List.all_nil, p0, p1, p2, k1, k2, k3, Bool.and_self]
  rw [show (20 : Nat) = 18 + 1 + 1 from rfl, h2]
  rfl
 same := fun a => by
  obtain ⟨a1, a2, a3⟩ := a
  show sameKey (18 + 1 + 1) (givV _) (givV _) = true
  have k1 : sameKey (18 + 1) (.int .i64 (Int.ofNat a1)) (.int .i64 (Int.ofNat a1)) = true := by unfold sameKey; simp [eqI_eq]
  have k2 : sameKey (18 + 1) (.string a2) (.string a2) = true := by unfold sameKey; exact eqBytes_same _
  have k3 : sameKey (18 + 1) (.bool a3) (.bool a3) = true := by unfold sameKey; simp
  unfold sameKey
  simp only [givV, sameKeys, k1, k2, k3]
  rfl
def RSlot (s : SlV) (cs : List Value) : Prop := cs = [.int .i64 s.1, .int .i64 s.2]
theorem RSlot.flats : ∀ x cs, RSlot x cs → flats cs = true := by
 rintro x cs rfl
 rfl
def RDesc (K : Kn) (d : List SlV) (cs : List Value) : Prop := ∃ v, cs = [v] ∧ Sl K 2 RSlot d v
theorem RDesc.flats {K : Kn} : ∀ x cs, RDesc K x cs → flats cs = true := by
 rintro x cs ⟨v, rfl, a, c, rfl, _⟩
 rfl
theorem RDesc.mono {K K' : Kn} (k : ∀ b o, K b o → K' b o) : ∀ x cs, RDesc K x cs → RDesc K' x cs := fun x cs ⟨v, h1, h2⟩ => ⟨v, h1, h2.mono k fun _ _ h => h⟩
def RNat (n : Nat) (cs : List Value) : Prop := cs = [.int .i64 (Int.ofNat n)]
theorem RNat.flats : ∀ x cs, RNat x cs → flats cs = true := by
 rintro x cs rfl
 rfl
/-- The first type that is equal to a type. -/
def ClsP (l : List Ty) (t c : Nat) : Prop := c ≤ t ∧ EqT l c t ∧ ∀ i, i < c → ¬ EqT l i t
theorem ClsP.uniq {l : List Ty} {t c c' : Nat} (h : ClsP l t c) (h' : ClsP l t c') : c = c' := by
 rcases Nat.lt_trichotomy c c' with e | e | e
 ·exact absurd h.2.1 (h'.2.2 c e)
 ·exact e
 exact absurd h'.2.1 (h.2.2 c' e)
theorem ClsP.eq {l : List Ty} (hW : Well l) {t u c d : Nat} (h : ClsP l t c) (h' : ClsP l u d) : c = d ↔ EqT l t u := by
 constructor
 ·rintro rfl
  exact (h.2.1.symm hW).trans hW h'.2.1
 intro e
 rcases Nat.lt_trichotomy c d with x | x | x
 ·exact absurd (h.2.1.trans hW e) (h'.2.2 c x)
 ·exact x
 exact absurd (h'.2.1.trans hW (e.symm hW)) (h.2.2 d x)
/-- What the map holds. -/
def MapL (l : List Ty) (K : List Giv) (ps : List (Giv × Value)) : Prop := ∀ (g : Giv) (c : Nat), ClsP l g.t c → getP ⟨c, g.arm, g.rcd⟩ ps = (givIdx l K g).map fun i => .int .i64 (Int.ofNat (i + 1))
theorem MapL.nil (l : List Ty) : MapL l [] [] := fun _ _ _ => rfl
theorem MapL.put {l : List Ty} (hW : Well l) {K : List Giv} {ps : List (Giv × Value)} (h : MapL l K ps) {g : Giv} {c : Nat} (hc : ClsP l g.t c) (hn : givIdx l K g = none) : MapL l (K ++ [g]) (putP ⟨c, g.arm, g.rcd⟩ (.int .i64 (Int.ofNat (K.length + 1))) ps) := fun g' c' hc' => by
 rw [getP_put]
 split
 ·rename_i e
  obtain ⟨e1, e2, e3⟩ := Giv.mk.inj e
  have hE : EqT l g'.t g.t := (hc'.eq hW hc).1 e1
  have h1 : givIdx l (K ++ [g]) g' = givIdx l (K ++ [g]) g := givIdx_congr (fun k => ⟨fun ⟨a, b, d⟩ => ⟨a.trans e3, b.trans e2, d.trans hW hE⟩, fun ⟨a, b, d⟩ => ⟨a.trans e3.symm, b.trans e2.symm, d.trans hW (hE.symm hW)⟩⟩) _
  rw [h1, givIdx_new hn]
  rfl
 rename_i e
 rw [h g' c' hc']
 cases hi : givIdx l K g' with
 | some i => rw [givIdx_app hi]
 | none =>
  unfold givIdx at hi ⊢
  rw [List.findIdx?_append, hi, List.findIdx?_cons, if_neg]
  ·rfl
  intro hg
  have hg : GivEq l g' g := by simpa using hg
  exact e (by rw [(hc'.eq hW hc).2 (hg.2.2.symm hW), hg.1, hg.2.1])
structure LySt where
 gd : Dro
 cd : List Value
 gm : Gro
 cm : List Value
 es : List MapEntry
 c : Nat
 F : Hp
 S : Lay
abbrev LyX (bx bm : Nat) (lv : Value) (gd : Dro) (cd : List Value) (gm : Gro) (cm : List Value) (es : List MapEntry) (c : Nat) (F : Hp) (S : Lay) : Hp := (bx, .cells [lv, gd.V S.descs.length, gm.V S.mods.length, .map (some bm)] 120 false .plain none) :: (gd.H 58 cd ++ (gm.H 3 cm ++ ((bm, .map es c) :: F)))
abbrev LyH (bx bm : Nat) (lv : Value) (y : LySt) : Hp := LyX bx bm lv y.gd y.cd y.gm y.cm y.es y.c y.F y.S
abbrev LyS (bx bm : Nat) (lv : Value) (y : LySt) : List Nat := (LyH bx bm lv y).map Prod.fst
structure LyM (l : List Ty) (y : LySt) : Prop where
 descs : Flat 1 (RDesc (InH y.F)) y.S.descs y.cd
 okd : y.gd.Ok y.S.descs.length
 mods : Flat 1 RNat y.S.mods y.cm
 okm : y.gm.Ok y.S.mods.length
 map_ : ∃ ps, PairsK givV y.es ps ∧ MapL l y.S.keys ps
 ok : LayOk l y.S
abbrev TabL (l : List Ty) (lv : Value) (S : List Nat) (m : AW) : Prop := Sl (Off S m) 5 (RTy (Off S m)) l lv
theorem upto_notE {P : Nat → Prop} {i : Nat} (h : ∀ j, j < i → ¬ P j) (hn : ¬ P i) : ∀ j, j < i + 1 → ¬ P j := fun j hj => by
 by_cases e : j = i
 ·rw [e]
  exact hn
 exact h j (by omega)
theorem ly_permM {α : Type} {A B R : List α} {b x : α} : (A ++ (b :: (x :: (B ++ R)))).Perm (b :: (x :: (B ++ (A ++ R)))) := by
 refine List.perm_middle.trans (List.Perm.cons _ ?_)
 refine List.perm_middle.trans (List.Perm.cons _ ?_)
 rw [← List.append_assoc, ← List.append_assoc]
 exact List.perm_append_comm.append_right _
theorem wr_predS {n k : Nat} (h : n ≤ 1000) (hk : k = n + 1) : wr .i64 (Int.ofNat k - 1) = Int.ofNat n := by
 subst hk
 rw [wr_pred (by omega) (by omega)]
 rfl
theorem modIdx_at {l : List Ty} {M : List Nat} {t i k : Nat} (hk : M[i]? = some k) (he : EqT l k t) (hn : ∀ j, j < i → ∀ k, M[j]? = some k → ¬ EqT l k t) : modIdx l M t = some i := by
 unfold modIdx
 rw [List.findIdx?_eq_some_iff_getElem]
 obtain ⟨hi, e⟩ := List.getElem?_eq_some_iff.1 hk
 refine ⟨hi, by rw [e]; simpa using he, fun j hj => ?_⟩
 have := hn j hj _ (List.getElem?_eq_getElem (Nat.lt_trans hj hi))
 simpa using this
theorem modIdx_no {l : List Ty} {M : List Nat} {t : Nat} (hn : ∀ j, j < M.length → ∀ k, M[j]? = some k → ¬ EqT l k t) : modIdx l M t = none := by
 unfold modIdx
 rw [List.findIdx?_eq_none_iff]
 intro k hk
 obtain ⟨j, hj⟩ := List.getElem?_of_mem hk
 have := hn j (List.getElem?_eq_some_iff.1 hj).1 k hj
 simpa using this
def LyQ (bx bm : Nat) (lv : Value) (y0 : LySt) {α : Type} (A : α → Prop) (V : α → Value) (Y : α → LySt) (m : AW) (v : Value) (m' : AW) : Prop := ∃ z, A z ∧ v = V z ∧ Knows (LyS bx bm lv y0) m m' (LyH bx bm lv (Y z))
/-- What 'module' does. -/
def ModP (l : List Ty) (t : Nat) (y0 : LySt) (z : Nat × LySt) : Prop := LyM l z.2 ∧ ((modIdx l y0.S.mods t = some z.1 ∧ z.2.S = y0.S) ∨ (modIdx l y0.S.mods t = none ∧ z.1 = y0.S.mods.length ∧ z.2.S = ⟨y0.S.keys, y0.S.descs, y0.S.mods ++ [t]⟩))
theorem class_ok {l : List Ty} {al : Option Addr} {cl bx t : Nat} {w1 w2 w3 : Value} {m : AW} (hm : m.lo ≤ m.next) (hx : Mem m bx (.cells [.slice al l.length cl, w1, w2, w3] 120 false .plain none)) (hlS : Sl (Mem m) 5 (RTy (Mem m)) l (.slice al l.length cl)) (hWl : Well l) (ht : t < l.length) (hn14 : l.length ≤ 14) : Fc prog 145 [ptr bx, .int .i64 (Int.ofNat (t))] m fun v m' => ∃ c : Nat, ClsP l t c ∧ v = .int .i64 (Int.ofNat c) ∧ Ext m m' ∧ News m m' [] := by
 refine Fc.body (c := _) func145 rfl rfl rfl rfl hm ?_
 refine .seq (.region (.P ?_))
 refine .nil (.seq (.seq (.seq (.region (.P2 ?_)))))
 refine .nil (.seq (.block ?_))
 refine .loop (α := Nat) (fun i => [(0, ptr bx), (1, .int .i64 (Int.ofNat (t))), (6, .int .i64 (Int.ofNat (t))), (7, .int .i64 (Int.ofNat (i)))]) (fun i => []) (fun i => i ≤ t ∧ ∀ j, j < i → ¬ EqT l j t) (fun i => t - i) 0 ⟨Nat.zero_le _, fun _ h => absurd h (Nat.not_lt_zero _)⟩ ⟨rfl, rfl, rfl, rfl, trivial⟩ (List.nil_sublist _) (fun i hi => ?_)
 refine .seq (.region (.P ?_))
 refine .nil (.seq (.seq (.cond rfl (fun ht8 => ?_) fun ht8 => ?_)))
 ·try simp only [nz] at ht8
  refine .skip (.seq (.seq (.block (.seq (.region (.P2 ?_))))))
  refine .nil (.seq (.seq (.region (.P2 ?_))))
  refine .F fa120_0 ?_
  refine .M ag22 (Mem.sees rfl rfl _ _ hx) rfl ?_
  refine .P2 ?_
  refine .calln _ _ _ rfl rfl rfl rfl rfl rfl (fun m hm => equal_ok (a := i) (b_ := t) hm.lole (hlS.mono (Mem.kr hm) (RTy.mono (Mem.kr hm))) hWl (by omega) ht) (fun z hz => ?_)
  refine .nil (.seq (.cond rfl (fun ht16 => ?_) fun ht16 => ?_))
  ·have hE := hz.1 ht16
   refine .seq (.region (.P2 ?_))
   refine .nil (.seq (.ret (.blk (.seq (.loop (.blk (.seq ?_)))))))
   exact .end_ rfl rfl (fun m hm => ⟨i, ⟨by omega, hE, hi.2⟩, rfl, hm.ext, News.nil _ _⟩)
  have hE : ¬ EqT l i t := fun h_ => by rw [hz.2 h_] at ht16; cases ht16
  refine .skip (.blk (.seq (.region (.P ?_))))
  refine .W 18 i ?_
  refine .P ?_
  refine .nil ?_
  exact .loop (i + 1) ⟨by omega, upto_notE hi.2 hE⟩ (by omega) ⟨rfl, rfl, rfl, rfl, trivial⟩ (List.nil_sublist _)
 try simp only [nz] at ht8
 refine .exit (.seq (.loop (.here (.seq (.seq (.region (.P2 ?_)))))))
 refine .nil (.seq (.ret ?_))
 exact .end_ rfl rfl (fun m hm => ⟨t, ⟨Nat.le_refl _, EqT.refl l t, fun j hj => hi.2 j (by omega)⟩, rfl, hm.ext, News.nil _ _⟩)
theorem module_ok {l : List Ty} {al : Option Addr} {cl bx bm : Nat} {y0 : LySt} {t : Nat} {m : AW} (hm : m.lo ≤ m.next) (hk : Knows (LyS bx bm (.slice al l.length cl) y0) m m (LyH bx bm (.slice al l.length cl) y0)) (hM : LyM l y0) (hlS : TabL l (.slice al l.length cl) (LyS bx bm (.slice al l.length cl) y0) m) (hFi : Fine l) (hwl : ∀ (i : Nat) (a : Ty), l[i]? = some a → FewT a) (hn14 : l.length ≤ 14) (ht : t < l.length) : Fc prog 123 [ptr bx, .int .i64 (Int.ofNat (t))] m fun v m' => LyQ bx bm (.slice al l.length cl) y0 (ModP l t y0) (fun z => .int .i64 (Int.ofNat z.1)) (fun z => z.2) m v m' := by
 have hWl := hFi.well
 have hlS0 := hlS
 obtain ⟨gd, cd, gm, cm, es, c, F, S0⟩ := y0
 have hM0 := hM
 obtain ⟨hFd, hOd, hFm, hOm, hmap, hok⟩ := hM
 simp only at hFd hOd hFm hOm hmap hok
 have hml := hok.mods_few
 obtain ⟨ga, gc, hV, hnG, hGs⟩ := Gro.sl (el := 3) hFm hOm (by omega)
 refine Fc.bodyS (S := LyS bx bm (.slice al l.length cl) ⟨gd, cd, gm, cm, es, c, F, S0⟩) (c := _) func123 rfl rfl rfl rfl (show Knows _ m m (LyX bx bm (.slice al l.length cl) gd cd gm cm es c F S0) from hk) ?_
 refine .seq (.region (.P ?_))
 refine .nil (.seq (.seq (.seq (.region (.P2 ?_)))))
 refine .F fa120_2 ?_
 refine .L ag32 ?_
 refine .as 10 (.slice ga S0.mods.length gc) rfl hV ?_
 refine .G (ln32 ..) ?_
 refine .P ?_
 refine .nil (.seq (.block ?_))
 refine .loop (α := Nat) (fun i => [(0, ptr bx), (1, .int .i64 (Int.ofNat t)), (10, .slice ga S0.mods.length gc), (11, .int .i64 (Int.ofNat S0.mods.length)), (12, .int .i64 (Int.ofNat i))]) (fun i => LyX bx bm (.slice al l.length cl) gd cd gm cm es c F S0) (fun i => i ≤ S0.mods.length ∧ ∀ j, j < i → ∀ k, S0.mods[j]? = some k → ¬ EqT l k t) (fun i => S0.mods.length - i) 0 ⟨Nat.zero_le _, fun _ h => absurd h (Nat.not_lt_zero _)⟩ ⟨rfl, rfl, rfl, rfl, rfl, trivial⟩ (.refl _) (fun i hi => ?_)
 refine .seq (.region (.P ?_))
 refine .nil (.seq (.seq (.cond rfl (fun ht13 => ?_) fun ht13 => ?_)))
 ·try simp only [nz] at ht13
  obtain ⟨k0, hk0⟩ : ∃ w_, S0.mods[i]? = some w_ := ⟨_, List.getElem?_eq_getElem (by omega)⟩
  rcases hGs with ⟨e0, -⟩ | ⟨bG, offG, csG, elG, gG, mdG, mateG, rfl, hbG, hleG, hcG⟩
  ·rw [e0] at hk0; simp at hk0
  have hrG := hcG i k0 hk0
  refine .skip (.seq (.seq (.block (.seq (.region (.P ?_))))))
  refine .K underlying32 sz3 ?_
  refine .M ag3 (InH.sees (l := gm.H 3 cm) (fun p_ hp_ => List.mem_cons_of_mem _ (List.mem_append_right _ (List.mem_append_left _ hp_))) _ _ hbG) (cell_of_take hrG (k := 0) rfl) ?_
  refine .P2 ?_
  refine .nil (.seq (.seq (.region (.P2 ?_))))
  refine .F fa120_0 ?_
  refine .L ag22 ?_
  refine .P2 ?_
  refine .calln _ _ _ rfl rfl rfl rfl rfl rfl (fun m hm => equal_ok (a := k0) (b_ := t) hm.lole (hlS0.mono (fun b_ o_ h_ => Off.mem b_ o_ (Off.kr hm b_ o_ h_)) (RTy.mono (fun b_ o_ h_ => Off.mem b_ o_ (Off.kr hm b_ o_ h_)))) hWl (hok.mods k0 (List.mem_of_getElem? hk0)) ht) (fun z hz => ?_)
  refine .nil (.seq (.cond rfl (fun ht23 => ?_) fun ht23 => ?_))
  ·have hE := hz.1 ht23
   refine .seq (.region (.P2 ?_))
   refine .nil (.seq (.ret (.blk (.seq (.loop (.blk (.seq ?_)))))))
   exact .end_ rfl rfl (fun m hm => ⟨(i, ⟨gd, cd, gm, cm, es, c, F, S0⟩), ⟨hM0, .inl ⟨modIdx_at hk0 hE hi.2, rfl⟩⟩, rfl, hm⟩)
  have hE : ¬ EqT l k0 t := fun h_ => by rw [hz.2 h_] at ht23; cases ht23
  refine .skip (.blk (.seq (.region (.P ?_))))
  refine .W 25 i ?_
  refine .P ?_
  refine .nil ?_
  exact .loop (i + 1) ⟨by omega, fun j hj k hk_ => by by_cases e : j = i; (subst e; rw [hk0] at hk_; cases hk_; exact hE); exact hi.2 j (by omega) k hk_⟩ (by omega) ⟨rfl, rfl, rfl, rfl, rfl, trivial⟩ (.refl _)
 try simp only [nz] at ht13
 have hno : modIdx l S0.mods t = none := modIdx_no fun j hj => hi.2 j (by omega)
 refine .exit (.seq (.loop (.here (.seq (.seq (.region (.P3 ?_)))))))
 refine .F fa120_2 ?_
 refine .L ag32 ?_
 refine .P ?_
 refine .buildSlice rfl rfl rfl rfl rfl (bs32_1 ..) (fun b32 hb32 => ?_)
 refine .appendSl (R := RNat) (l0 := S0.mods) (l := [t]) (L := (S0.mods ++ [t])) (g := gm) (cs := cm) rfl (.tail (.tail (.over .here))) hFm hOm (Sl.single (R := RNat) (x := t) (b := b32) (c := 1) (el := 3) (g := false) (md := .plain) (mate := none) rfl rfl) ((InH.sees (by intro p_ hp_; rw [List.mem_singleton.1 hp_]; exact List.mem_cons_self))) RNat.flats (by simp; omega) rfl rfl rfl rfl underlying32 underlying32 ap3 rfl rfl (fun g1 cs1 hF1 hO1 => ?_)
 obtain ⟨ga1, gc1, hV1⟩ := Gro.len hO1
 refine .as 33 (.slice ga1 (S0.mods ++ [t]).length gc1) rfl hV1 ?_
 refine .P ?_
 refine .F fa120_2 ?_
 refine .store rfl rfl rfl rfl rfl sz32 rfl (Upd.app (.tail .head)) rfl ?_
 refine .swap (h' := (b32, .cells [.int .i64 (Int.ofNat t)] 3 false .plain none) :: LyX bx bm (.slice al l.length cl) gd cd g1 cs1 es c F ⟨S0.keys, S0.descs, S0.mods ++ [t]⟩) (by unfold LyX; rw [hV1]; exact ly_permM) ?_
 refine .nil (.seq (.seq (.region (.P2 ?_))))
 refine .F fa120_2 ?_
 refine .L ag32 ?_
 refine .as 39 (.slice ga1 (S0.mods ++ [t]).length gc1) rfl hV1 ?_
 refine .G (ln32 ..) ?_
 refine .P ?_
 refine .as 41 (.int .i64 (Int.ofNat S0.mods.length)) rfl (congrArg (Value.int .i64) (wr_predS (by omega) (by simp))) ?_
 refine .P ?_
 refine .nil (.seq (.ret ?_))
 exact .end_ rfl rfl (fun m hm => ⟨(S0.mods.length, ⟨gd, cd, g1, cs1, es, c, F, ⟨S0.keys, S0.descs, S0.mods ++ [t]⟩⟩), ⟨⟨hFd, hOd, hF1, hO1, hmap, hok.modN ht hno⟩, .inr ⟨hno, rfl, rfl⟩⟩, rfl, hm.sub (.cons _ (.refl _))⟩)

/-! What 'number' and 'slots' do. -/
structure SlSt where
 y : LySt
 g : Gro
 cs : List Value
 o : List SlV
abbrev SlH (bx bm : Nat) (lv : Value) (y : LySt) (g : Gro) (cs : List Value) : Hp := LyH bx bm lv y ++ g.H 129 cs
abbrev SlN (bx bm : Nat) (lv : Value) (y : LySt) (g : Gro) (cs : List Value) : List Nat := (SlH bx bm lv y g cs).map Prod.fst
structure SloP (l : List Ty) (k : LTask) (y0 : LySt) (o0 : List SlV) (z : SlSt) : Prop where
 run : RunL l k y0.S (z.o, 0, z.y.S)
 mem : LyM l z.y
 flat : Flat 2 RSlot (o0 ++ z.o) z.cs
 ok : z.g.Ok (o0 ++ z.o).length
 left : unm l z.y.S.keys ≤ unm l y0.S.keys
structure NumP (l : List Ty) (g : Giv) (y0 : LySt) (z : Nat × LySt) : Prop where
 run : RunL l (.num g) y0.S ([], z.1, z.2.S)
 mem : LyM l z.2
 left : unm l z.2.S.keys ≤ unm l y0.S.keys
def SlQ (l : List Ty) (k : LTask) (bx bm : Nat) (lv : Value) (y0 : LySt) (g0 : Gro) (cs0 : List Value) (o0 : List SlV) (m : AW) (v : Value) (m' : AW) : Prop := ∃ z : SlSt, SloP l k y0 o0 z ∧ v = z.g.V (o0 ++ z.o).length ∧ Knows (SlN bx bm lv y0 g0 cs0) m m' (SlH bx bm lv z.y z.g z.cs)
def NumC (l : List Ty) (lv : Value) (bx bm u : Nat) : Prop := ∀ (g : Giv) (y : LySt) (m : AW), GivV l g → unm l y.S.keys ≤ u → m.lo ≤ m.next → Knows (LyS bx bm lv y) m m (LyH bx bm lv y) → LyM l y → TabL l lv (LyS bx bm lv y) m → Fc prog 119 [ptr bx, givV g] m fun v m' => LyQ bx bm lv y (NumP l g y) (fun z => .int .i64 (Int.ofNat z.1)) (fun z => z.2) m v m'
def SloC (l : List Ty) (lv : Value) (r : Nat → Nat) (bx bm u k : Nat) : Prop := ∀ (t : Nat) (y : LySt) (g : Gro) (cs : List Value) (o : List SlV) (m : AW), ValT l t → r t < k → unm l y.S.keys ≤ u → o.length + 1536 * r t + 1536 ≤ 4000000 → m.lo ≤ m.next → Knows (SlN bx bm lv y g cs) m m (SlH bx bm lv y g cs) → LyM l y → Flat 2 RSlot o cs → g.Ok o.length → TabL l lv (SlN bx bm lv y g cs) m → Fc prog 85 [ptr bx, g.V o.length, .int .i64 (Int.ofNat t)] m fun v m' => SlQ l (.slo t) bx bm lv y g cs o m v m'
theorem ModP.left {l : List Ty} {t : Nat} {y0 : LySt} {z : Nat × LySt} (h : ModP l t y0 z) : unm l z.2.S.keys ≤ unm l y0.S.keys := by
 rcases h.2 with ⟨_, e⟩ | ⟨_, _, e⟩ <;> rw [e] <;> exact Nat.le_refl _
theorem ModP.run {l : List Ty} {t : Nat} {a : Ty} {y0 : LySt} {z : Nat × LySt} (h : ModP l t y0 z) (ht : l[t]? = some a) (hk : a.kind = 13) : RunL l (.slo t) y0.S ([(6, Int.ofNat z.1)], 0, z.2.S) := by
 rcases h.2 with ⟨h1, e⟩ | ⟨h1, h2, e⟩
 ·rw [e]
  exact RunL.modO ht hk h1
 rw [e, h2]
 exact RunL.modN ht hk h1
theorem sl_perm2 {α : Type} {A L : List α} {b x : α} : (A ++ (b :: (x :: (L ++ [])))).Perm ((L ++ A) ++ [b, x]) := by
 rw [List.append_nil]
 refine (List.perm_middle.trans (List.Perm.cons _ List.perm_middle)).trans ?_
 refine List.Perm.trans ?_ List.perm_append_comm
 exact (List.perm_append_comm.cons _).cons _
theorem sl_perm1 {α : Type} {A L : List α} {b x : α} : (A ++ (b :: (L ++ [x]))).Perm ((L ++ A) ++ [b, x]) := by
 refine List.Perm.trans ?_ sl_perm2
 refine List.Perm.append_left _ (List.Perm.cons _ ?_)
 rw [List.append_nil]
 exact List.perm_append_comm
theorem sl_room {l : List Ty} (hF : Fine l) (hS : Sml l) {ps : List Int} {S : Lay} {x : LOut} {R R' N : Nat} (h : RunL l (.slos ps) S x) (hps : ∀ p, p ∈ ps → ∃ q : Nat, p = Int.ofNat q ∧ ValT l q) (hp : R' < R) (hl : ps.length < 6) (hN : N + 1536 * R + 1536 ≤ 4000000) : N + x.1.length + 1536 * R' + 1536 ≤ 4000000 := by
 have h1 := RunL.shorts hF hS hps h
 generalize x.1.length = w at h1 ⊢
 generalize ps.length = n at h1 hl
 omega
theorem sl_open {α : Type} {K : Kn} {sz : Nat} {R : α → List Value → Prop} {l : List α} {al : Option Addr} {n c : Nat} (h : Sl K sz R l (.slice al n c)) (hl : 0 < l.length) : ∃ b off cs el g md mate, al = some ⟨b, off, none⟩ ∧ K b (.cells cs el g md mate) ∧ off + l.length * sz ≤ cs.length ∧ ∀ i x, l[i]? = some x → R x ((cs.drop (off + i * sz)).take sz) := by
 obtain ⟨a, c', he, _, h⟩ := h
 cases he
 rcases h with ⟨e0, -⟩ | h
 ·rw [e0] at hl
  cases hl
 exact h
end Go.Proofs.YtmfbljaemhpokaaGreatDoor
