/-
  TypesCanonical: the functions that it calls, followed, 1. Conditions: none.
-/
import Derived.Test.YtmfbljaemhpokaaGreatDoorAwk
import Derived.Test.YtmfbljaemhpokaaGreatDoorGra
import Derived.Test.YtmfbljaemhpokaaGreatDoorCanonical0
namespace Go.Proofs.YtmfbljaemhpokaaGreatDoor
open Go Go.Ab
set_option linter.unusedVariables false
set_option linter.unusedSimpArgs false
set_option linter.unusedSectionVars false
open Tryz

/-! Equal types. -/
def RI (R : Nat → Nat → Prop) (p q : Int) : Prop := ∃ a b : Nat, p = Int.ofNat a ∧ q = Int.ofNat b ∧ R a b
theorem RI.mono {R R' : Nat → Nat → Prop} (k : ∀ a b, R a b → R' a b) {p q : Int} (h : RI R p q) : RI R' p q := by
 obtain ⟨a, b, h1, h2, h3⟩ := h
 exact ⟨a, b, h1, h2, k a b h3⟩
theorem RI.nat {R : Nat → Nat → Prop} {a b : Nat} (h : RI R (Int.ofNat a) (Int.ofNat b)) : R a b := by
 obtain ⟨a', b', h1, h2, h3⟩ := h
 cases h1
 cases h2
 exact h3
/-- Fields that agree one by one; members that agree by their names. -/
def FldsR (R : Nat → Nat → Prop) (L L' : List Fld) : Prop := L.length = L'.length ∧ ∀ (i : Nat) (f g : Fld), L[i]? = some f → L'[i]? = some g → f.name = g.name ∧ RI R f.type g.type
def MemR (R : Nat → Nat → Prop) (L L' : List Fld) : Prop := L.length = L'.length ∧ ∀ f, f ∈ L → ∃ g, g ∈ L' ∧ g.name = f.name ∧ RI R f.type g.type
def ElsR (R : Nat → Nat → Prop) (L L' : List Int) : Prop := L.length = L'.length ∧ ∀ (i : Nat) (p q : Int), L[i]? = some p → L'[i]? = some q → RI R p q
def ArmsR (R : Nat → Nat → Prop) (L L' : List Arm) : Prop := L.length = L'.length ∧ ∀ (i : Nat) (f g : Arm), L[i]? = some f → L'[i]? = some g → f.name = g.name ∧ FldsR R f.fields g.fields
def HeadR (x y : Ty) : Prop := x.kind = y.kind ∧ x.elems.length = y.elems.length ∧ x.arms.length = y.arms.length ∧ (x.kind = 9 → x.name = y.name)
structure TyR (R : Nat → Nat → Prop) (x y : Ty) : Prop where
 head : HeadR x y
 els : ElsR R x.elems y.elems
 flds : if x.kind = 13 then MemR R x.fields y.fields else FldsR R x.fields y.fields
 arms : ArmsR R x.arms y.arms
theorem FldsR.mono {R R' : Nat → Nat → Prop} (k : ∀ a b, R a b → R' a b) {L L' : List Fld} (h : FldsR R L L') : FldsR R' L L' := ⟨h.1, fun i f g hf hg => ⟨(h.2 i f g hf hg).1, (h.2 i f g hf hg).2.mono k⟩⟩
theorem MemR.mono {R R' : Nat → Nat → Prop} (k : ∀ a b, R a b → R' a b) {L L' : List Fld} (h : MemR R L L') : MemR R' L L' := ⟨h.1, fun f hf => by
 obtain ⟨g, h1, h2, h3⟩ := h.2 f hf
 exact ⟨g, h1, h2, h3.mono k⟩⟩
theorem ElsR.mono {R R' : Nat → Nat → Prop} (k : ∀ a b, R a b → R' a b) {L L' : List Int} (h : ElsR R L L') : ElsR R' L L' := ⟨h.1, fun i p q hp hq => (h.2 i p q hp hq).mono k⟩
theorem ArmsR.mono {R R' : Nat → Nat → Prop} (k : ∀ a b, R a b → R' a b) {L L' : List Arm} (h : ArmsR R L L') : ArmsR R' L L' := ⟨h.1, fun i f g hf hg => ⟨(h.2 i f g hf hg).1, (h.2 i f g hf hg).2.mono k⟩⟩
theorem TyR.mono {R R' : Nat → Nat → Prop} (k : ∀ a b, R a b → R' a b) {x y : Ty} (h : TyR R x y) : TyR R' x y := ⟨h.head, h.els.mono k, by
 have := h.flds
 split at this
 ·rename_i e
  rw [if_pos e]
  exact this.mono k
 rename_i e
 rw [if_neg e]
 exact this.mono k, h.arms.mono k⟩
theorem RI.refl {R : Nat → Nat → Prop} (hR : ∀ a, R a a) {n : Nat} {t : Ty} (hb : badB n t = false) {p : Int} (hp : p ∈ partsL t) : RI R p p := by
 obtain ⟨j, hj⟩ := List.getElem?_of_mem hp
 obtain ⟨q, rfl, _⟩ := parts_in hb hj
 exact ⟨q, q, rfl, rfl, hR q⟩
theorem parts_armf {t : Ty} {a : Arm} (ha : a ∈ t.arms) {f : Fld} (hf : f ∈ a.fields) : f.type ∈ partsL t := List.mem_append_right _ (List.mem_append_right _ (List.mem_map.2 ⟨f, List.mem_flatMap.2 ⟨a, ha, hf⟩, rfl⟩))
theorem parts_fldm {t : Ty} {f : Fld} (hf : f ∈ t.fields) : f.type ∈ partsL t := parts_fields (List.mem_map.2 ⟨f, hf, rfl⟩)
theorem TyR.refl {R : Nat → Nat → Prop} (hR : ∀ a, R a a) {n : Nat} {t : Ty} (hb : badB n t = false) : TyR R t t where
 head := ⟨rfl, rfl, rfl, fun _ => rfl⟩
 els := ⟨rfl, fun i p q hp hq => by rw [hp] at hq; cases hq; exact RI.refl hR hb (parts_elems (List.mem_of_getElem? hp))⟩
 flds := by
  split
  ·exact ⟨rfl, fun f hf => ⟨f, hf, rfl, RI.refl hR hb (parts_fldm hf)⟩⟩
  exact ⟨rfl, fun i f g hf hg => by rw [hf] at hg; cases hg; exact ⟨rfl, RI.refl hR hb (parts_fldm (List.mem_of_getElem? hf))⟩⟩
 arms := ⟨rfl, fun i f g hf hg => by
  rw [hf] at hg
  cases hg
  exact ⟨rfl, rfl, fun j u w hu hw => by rw [hu] at hw; cases hw; exact ⟨rfl, RI.refl hR hb (parts_armf (List.mem_of_getElem? hf) (List.mem_of_getElem? hu))⟩⟩⟩
/-- What is closed under steps. -/
def EqStep (l : List Ty) (R : Nat → Nat → Prop) (a b : Nat) : Prop := ∃ x y, l[a]? = some x ∧ l[b]? = some y ∧ TyR R x y
theorem EqStep.mono {l : List Ty} {R R' : Nat → Nat → Prop} (k : ∀ a b, R a b → R' a b) {a b : Nat} (h : EqStep l R a b) : EqStep l R' a b := by
 obtain ⟨x, y, h1, h2, h3⟩ := h
 exact ⟨x, y, h1, h2, h3.mono k⟩
def EqT (l : List Ty) (a b : Nat) : Prop := ∃ R : Nat → Nat → Prop, (∀ a b, R a b → a = b ∨ EqStep l R a b) ∧ R a b
theorem EqT.refl (l : List Ty) (a : Nat) : EqT l a a := ⟨fun a b => a = b, fun _ _ h => .inl h, rfl⟩
theorem EqT.step {l : List Ty} (hb : Sound8 l) {a b : Nat} (h : EqT l a b) (ha : a < l.length) : EqStep l (EqT l) a b := by
 obtain ⟨R, hR, h1⟩ := h
 rcases hR a b h1 with rfl | h2
 ·exact ⟨l[a], l[a], List.getElem?_eq_getElem ha, List.getElem?_eq_getElem ha, TyR.refl (EqT.refl l) (hb a _ (List.getElem?_eq_getElem ha))⟩
 exact h2.mono fun a b h => ⟨R, hR, h⟩
/-! What a comparison does: the pairs that were met are taken as equal. -/
abbrev Prs := List (Nat × Nat)
def InM (M : Prs) (a b : Nat) : Prop := a = b ∨ (a, b) ∈ M
def Grown (M M' : Prs) : Prop := ∀ p, p ∈ M → p ∈ M'
theorem Grown.refl (M : Prs) : Grown M M := fun _ h => h
theorem Grown.trans {A B C : Prs} (h : Grown A B) (k : Grown B C) : Grown A C := fun p hp => k p (h p hp)
theorem InM.mono {M M' : Prs} (h : Grown M M') : ∀ a b, InM M a b → InM M' a b := fun _ _ k => k.imp id (h _)
/-- All that is new is closed. -/
def Closed (l : List Ty) (M M' : Prs) : Prop := ∀ p, p ∈ M' → p ∈ M ∨ EqStep l (InM M') p.1 p.2
theorem Closed.refl (l : List Ty) (M : Prs) : Closed l M M := fun _ h => .inl h
theorem Closed.trans {l : List Ty} {A B C : Prs} (h1 : Closed l A B) (h2 : Closed l B C) (g : Grown B C) : Closed l A C := fun p hp => by
 rcases h2 p hp with h | h
 ·rcases h1 p h with h | h
  ·exact .inl h
  exact .inr (h.mono (InM.mono g))
 exact .inr h
def Bnd (l : List Ty) (M : Prs) : Prop := ∀ p, p ∈ M → p.1 < l.length ∧ p.2 < l.length
/-- The answer to whether a and b are equal, and what has been met then. -/
structure EqA (l : List Ty) (M : Prs) (a b : Nat) (z : Bool × Prs) : Prop where
 grown : Grown M z.2
 bnd : Bnd l M → Bnd l z.2
 yes : z.1 = true → InM z.2 a b ∧ Closed l M z.2
 no : z.1 = false → ¬ EqT l a b
theorem EqA.top {l : List Ty} {a b : Nat} {z : Bool × Prs} (h : EqA l [] a b z) : z.1 = true ↔ EqT l a b := by
 constructor
 ·intro e
  obtain ⟨h1, h2⟩ := h.yes e
  refine ⟨InM z.2, fun p q hpq => ?_, h1⟩
  rcases hpq with h3 | h3
  ·exact .inl h3
  rcases h2 (p, q) h3 with h4 | h4
  ·cases h4
  exact .inr h4
 intro e
 cases hz : z.1 with
 | true => rfl
 | false => exact absurd e (h.no hz)
/-- How many pairs are not yet met. -/
def unmet (n : Nat) (M : Prs) : Nat := ((List.range (n * n)).filter fun c => !decide ((c / n, c % n) ∈ M)).length
theorem unmet_le {n : Nat} {M M' : Prs} (h : Grown M M') : unmet n M' ≤ unmet n M := filter_le (fun c hc => by
 simp only [Bool.not_eq_true', decide_eq_false_iff_not] at hc ⊢
 exact fun hm => hc (h _ hm)) _
theorem unmet_lt {n : Nat} {M : Prs} {a b : Nat} (ha : a < n) (hb : b < n) (hn : (a, b) ∉ M) {M' : Prs} (h : Grown M M') (hm : (a, b) ∈ M') : unmet n M' < unmet n M := by
 have hn0 : 0 < n := by omega
 have e1 : (a * n + b) / n = a := by
  rw [Nat.mul_comm, Nat.mul_add_div hn0, Nat.div_eq_of_lt hb, Nat.add_zero]
 have e2 : (a * n + b) % n = b := by
  rw [Nat.mul_comm, Nat.mul_add_mod, Nat.mod_eq_of_lt hb]
 refine filter_lt (fun c hc => ?_) (y := a * n + b) ?_ ?_ _ (List.mem_range.2 ?_)
 ·simp only [Bool.not_eq_true', decide_eq_false_iff_not] at hc ⊢
  exact fun hm => hc (h _ hm)
 ·rw [e1, e2]
  simpa using hm
 ·rw [e1, e2]
  simpa using hn
 have : a * n + n ≤ n * n := by
  have := Nat.mul_le_mul_right n (show a + 1 ≤ n by omega)
  rw [Nat.add_mul, Nat.one_mul] at this
  exact this
 omega
/-- A row of comparisons: so far all were equal. -/
structure RowA (l : List Ty) (M M' : Prs) (P : Prop) : Prop where
 grown : Grown M M'
 bnd : Bnd l M → Bnd l M'
 closed : Closed l M M'
 all : P
theorem RowA.init {l : List Ty} {M : Prs} {P : Prop} (h : P) : RowA l M M P := ⟨Grown.refl _, id, Closed.refl _ _, h⟩
/-- The end of a comparison whose pair was put in first: all its parts are equal. -/
theorem EqA.close {l : List Ty} {M M' : Prs} {a b : Nat} {x y : Ty} {P : Prop} (ha : l[a]? = some x) (hb : l[b]? = some y) (h : RowA l ((a, b) :: M) M' P) (ht : TyR (InM M') x y) : EqA l M a b (true, M') where
 grown := fun p hp => h.grown p (List.mem_cons_of_mem _ hp)
 bnd := fun hM => h.bnd fun p hp => by
  rcases List.mem_cons.1 hp with rfl | hp
  ·exact ⟨(List.getElem?_eq_some_iff.1 ha).1, (List.getElem?_eq_some_iff.1 hb).1⟩
  exact hM p hp
 yes := fun _ => ⟨.inr (h.grown _ List.mem_cons_self), fun p hp => by
  rcases h.closed p hp with h1 | h1
  ·rcases List.mem_cons.1 h1 with rfl | h1
   ·exact .inr ⟨x, y, ha, hb, ht⟩
   exact .inl h1
  exact .inr h1⟩
 no := fun e => by cases e
theorem EqA.fail {l : List Ty} {M M' : Prs} {a b : Nat} (hg : Grown M M') (hb : Bnd l M → Bnd l M') (h : ¬ EqT l a b) : EqA l M a b (false, M') := ⟨hg, hb, fun e => (by cases e), fun _ => h⟩
theorem EqA.here {l : List Ty} {M : Prs} {a b : Nat} (h : InM M a b) : EqA l M a b (true, M) := ⟨Grown.refl _, id, fun _ => ⟨h, Closed.refl _ _⟩, fun e => by cases e⟩
/-! The program's comparer. -/
def MetA (M : Prs) (x : List MapEntry × Nat) : Prop := ∃ lM : List ((Int × Int) × Value), PairsK (pairV .i64) x.1 lM ∧ ∀ a b : Nat, getP (Int.ofNat a, Int.ofNat b) lM = if (a, b) ∈ M then some (.bool true) else none
theorem MetA.nil (c : Nat) : MetA [] ([], c) := ⟨[], trivial, fun a b => by rw [if_neg (by simp)]; rfl⟩
theorem MetA.look {M : Prs} {lM : List ((Int × Int) × Value)} (h : ∀ a b : Nat, getP (Int.ofNat a, Int.ofNat b) lM = if (a, b) ∈ M then some (.bool true) else none) (a b : Nat) : (getP (Int.ofNat a, Int.ofNat b) lM).getD (.bool false) = .bool (decide ((a, b) ∈ M)) := by
 rw [h a b]
 by_cases hm : (a, b) ∈ M
 ·rw [if_pos hm, decide_eq_true hm]
  rfl
 rw [if_neg hm, decide_eq_false hm]
 rfl
theorem MetA.put {M : Prs} {lM : List ((Int × Int) × Value)} (h : ∀ a b : Nat, getP (Int.ofNat a, Int.ofNat b) lM = if (a, b) ∈ M then some (.bool true) else none) {a b : Nat} {es : List MapEntry} {c : Nat} (hP : PairsK (pairV .i64) es (putP (Int.ofNat a, Int.ofNat b) (.bool true) lM)) : MetA ((a, b) :: M) (es, c) := ⟨_, hP, fun a' b' => by
 rw [getP_put, h a' b']
 by_cases e : a' = a ∧ b' = b
 ·obtain ⟨rfl, rfl⟩ := e
  rw [if_pos rfl, if_pos List.mem_cons_self]
 have e1 : ¬ ((Int.ofNat a', Int.ofNat b') = (Int.ofNat a, Int.ofNat b)) := fun h => e ⟨Int.ofNat.inj (Prod.mk.inj h).1, Int.ofNat.inj (Prod.mk.inj h).2⟩
 rw [if_neg e1]
 by_cases hm : (a', b') ∈ M
 ·rw [if_pos hm, if_pos (List.mem_cons_of_mem _ hm)]
 rw [if_neg hm, if_neg fun h => by
  rcases List.mem_cons.1 h with h | h
  ·exact e ⟨(Prod.mk.inj h).1, (Prod.mk.inj h).2⟩
  exact hm h]⟩
structure CmpPre (l : List Ty) (al : Option Addr) (cl bs bm : Nat) (m : AW) : Prop where
 hs : Off [bm] m bs (.cells [.slice al l.length cl, .map (some bm)] 163 false .plain none)
 hl : Sl (Off [bm] m) 5 (RTy (Off [bm] m)) l (.slice al l.length cl)
theorem CmpPre.mono {l : List Ty} {al : Option Addr} {cl bs bm : Nat} {m m' : AW} (h : CmpPre l al cl bs bm m) (k : ∀ b o, Off [bm] m b o → Off [bm] m' b o) : CmpPre l al cl bs bm m' := ⟨k _ _ h.hs, h.hl.mono k (RTy.mono k)⟩
abbrev CmpY := (Bool × Prs) × (List MapEntry × Nat)
def EqQ (l : List Ty) (bm : Nat) (M : Prs) (a b : Nat) (m : AW) (v : Value) (m' : AW) : Prop := ∃ y : CmpY, (EqA l M a b y.1 ∧ MetA y.1.2 y.2) ∧ v = .bool y.1.1 ∧ Knows [bm] m m' (MapC bm y.2)
def EqualC (P : Program) (l : List Ty) (al : Option Addr) (cl bs bm n a b : Nat) : Prop := ∀ (m : AW) (x : List MapEntry × Nat) (M : Prs), m.lo ≤ m.next → Knows [bm] m m (MapC bm x) → MetA M x → Bnd l M → CmpPre l al cl bs bm m → unmet l.length M < n → Fc P 105 [ptr bs, .int .i64 (Int.ofNat a), .int .i64 (Int.ofNat b)] m (EqQ l bm M a b m)
/-- What a comparison of more than two types answers. -/
structure RelA (l : List Ty) (M : Prs) (Py : (Nat → Nat → Prop) → Prop) (z : Bool × Prs) : Prop where
 grown : Grown M z.2
 bnd : Bnd l M → Bnd l z.2
 yes : z.1 = true → Closed l M z.2 ∧ Py (InM z.2)
 no : z.1 = false → ¬ Py (EqT l)
def RelQ (l : List Ty) (bm : Nat) (M : Prs) (Py : (Nat → Nat → Prop) → Prop) (m : AW) (v : Value) (m' : AW) : Prop := ∃ y : CmpY, (RelA l M Py y.1 ∧ MetA y.1.2 y.2) ∧ v = .bool y.1.1 ∧ Knows [bm] m m' (MapC bm y.2)
theorem RelA.fail {l : List Ty} {M M' : Prs} {Py : (Nat → Nat → Prop) → Prop} (hg : Grown M M') (hb : Bnd l M → Bnd l M') (h : ¬ Py (EqT l)) : RelA l M Py (false, M') := ⟨hg, hb, fun e => (by cases e), fun _ => h⟩
theorem RelA.good {l : List Ty} {M M' : Prs} {Py : (Nat → Nat → Prop) → Prop} {P : Prop} (h : RowA l M M' P) (hP : Py (InM M')) : RelA l M Py (true, M') := ⟨h.grown, h.bnd, fun _ => ⟨h.closed, hP⟩, fun e => by cases e⟩
/-- One comparison more, that says yes. -/
theorem RowA.more {l : List Ty} {M M1 : Prs} {P P2 : Prop} {a b : Nat} {z : Bool × Prs} (h : RowA l M M1 P) (hz : EqA l M1 a b z) (ht : z.1 = true) (hP : P2) : RowA l M z.2 P2 := ⟨h.grown.trans hz.grown, fun hb => hz.bnd (h.bnd hb), h.closed.trans (hz.yes ht).2 hz.grown, hP⟩
theorem RowA.moreR {l : List Ty} {M M1 : Prs} {P P2 : Prop} {Py : (Nat → Nat → Prop) → Prop} {z : Bool × Prs} (h : RowA l M M1 P) (hz : RelA l M1 Py z) (ht : z.1 = true) (hP : P2) : RowA l M z.2 P2 := ⟨h.grown.trans hz.grown, fun hb => hz.bnd (h.bnd hb), h.closed.trans (hz.yes ht).1 hz.grown, hP⟩
def FldsU (R : Nat → Nat → Prop) (L L' : List Fld) (i : Nat) : Prop := ∀ (j : Nat) (f g : Fld), j < i → L[j]? = some f → L'[j]? = some g → f.name = g.name ∧ RI R f.type g.type
theorem FldsU.succ {M M' : Prs} {L L' : List Fld} {i : Nat} {f g : Fld} (h : FldsU (InM M) L L' i) (k : Grown M M') (hf : L[i]? = some f) (hg : L'[i]? = some g) (hn : f.name = g.name) (hr : RI (InM M') f.type g.type) : FldsU (InM M') L L' (i + 1) := fun j u w hj hu hw => by
 by_cases e : j = i
 ·subst e
  rw [hf] at hu
  rw [hg] at hw
  cases hu
  cases hw
  exact ⟨hn, hr⟩
 have := h j u w (by omega) hu hw
 exact ⟨this.1, this.2.mono (InM.mono k)⟩
theorem FldsU.all {R : Nat → Nat → Prop} {L L' : List Fld} {i : Nat} (h : FldsU R L L' i) (hl : L.length = L'.length) (hi : L.length ≤ i) : FldsR R L L' := ⟨hl, fun j f g hf hg => h j f g (by have := (List.getElem?_eq_some_iff.1 hf).1; omega) hf hg⟩
/-- Which types the names have. -/
def TypN (L : List Fld) (lN : List (ByteArray × Value)) : Prop := ∀ s, getP s lN = (L.find? fun f => decide (f.name = s)).map fun f => .int .i64 f.type
theorem TypN.nil : TypN [] [] := fun s => rfl
theorem TypN.put {L : List Fld} {lN : List (ByteArray × Value)} {x : Fld} (h : TypN L lN) (hn : x.name ∉ fnames L) : TypN (L ++ [x]) (putP x.name (.int .i64 x.type) lN) := fun s => by
 rw [getP_put, h s, List.find?_append]
 by_cases e : s = x.name
 ·subst e
  have : (L.find? fun f => decide (f.name = x.name)) = none := by
   rw [List.find?_eq_none]
   intro f hf he
   exact hn (List.mem_map.2 ⟨f, hf, by simpa using he⟩)
  rw [if_pos rfl, this]
  simp
 rw [if_neg e]
 have : ([x].find? fun f => decide (f.name = s)) = none := by
  rw [List.find?_eq_none]
  intro f hf he
  rw [List.mem_singleton.1 hf] at he
  exact e (of_decide_eq_true he).symm
 rw [this, Option.or_none]
theorem TypN.take {L : List Fld} {lN : List (ByteArray × Value)} {i : Nat} {x : Fld} (h : TypN (L.take i) lN) (hnd : (fnames L).Nodup) (hx : L[i]? = some x) : TypN (L.take (i + 1)) (putP x.name (.int .i64 x.type) lN) := by
 rw [take_succ' hx]
 refine h.put fun hm => ?_
 have h1 := fnames_get hx
 have h2 : fnames (L.take i) = (fnames L).take i := by
  unfold fnames
  rw [List.map_take]
 rw [h2] at hm
 have h3 := dup_mem h1 hm
 unfold dupB at h3
 rw [decide_eq_true hnd] at h3
 cases h3
def MemU (R : Nat → Nat → Prop) (L L' : List Fld) (i : Nat) : Prop := ∀ (j : Nat) (f : Fld), j < i → L[j]? = some f → ∃ g, g ∈ L' ∧ g.name = f.name ∧ RI R f.type g.type
theorem MemU.succ {M M' : Prs} {L L' : List Fld} {i : Nat} {f g : Fld} (h : MemU (InM M) L L' i) (k : Grown M M') (hf : L[i]? = some f) (hg : g ∈ L') (hn : g.name = f.name) (hr : RI (InM M') f.type g.type) : MemU (InM M') L L' (i + 1) := fun j u hj hu => by
 by_cases e : j = i
 ·subst e
  rw [hf] at hu
  cases hu
  exact ⟨g, hg, hn, hr⟩
 obtain ⟨w, h1, h2, h3⟩ := h j u (by omega) hu
 exact ⟨w, h1, h2, h3.mono (InM.mono k)⟩
theorem MemU.all {R : Nat → Nat → Prop} {L L' : List Fld} {i : Nat} (h : MemU R L L' i) (hl : L.length = L'.length) (hi : L.length ≤ i) : MemR R L L' := ⟨hl, fun f hf => by
 obtain ⟨j, hj⟩ := List.getElem?_of_mem hf
 exact h j f (by have := (List.getElem?_eq_some_iff.1 hj).1; omega) hj⟩
theorem find_mem {L : List Fld} {s : ByteArray} {g : Fld} (h : (L.find? fun f => decide (f.name = s)) = some g) : g ∈ L ∧ g.name = s := ⟨List.mem_of_find?_eq_some h, by simpa using List.find?_some h⟩
theorem mem_one {L : List Fld} (hnd : (fnames L).Nodup) {f g : Fld} (hf : f ∈ L) (hg : g ∈ L) (hn : f.name = g.name) : f = g := by
 obtain ⟨i, hi⟩ := List.getElem?_of_mem hf
 obtain ⟨j, hj⟩ := List.getElem?_of_mem hg
 have h1 := fnames_get hi
 have h2 := fnames_get hj
 have e : i = j := by
  have h3 := (List.getElem?_eq_some_iff.1 h1)
  have h4 := (List.getElem?_eq_some_iff.1 h2)
  obtain ⟨l1, e1⟩ := h3
  obtain ⟨l2, e2⟩ := h4
  rcases Nat.lt_trichotomy i j with hlt | rfl | hlt
  ·have := List.pairwise_iff_getElem.1 hnd i j l1 l2 hlt
   rw [e1, e2] at this
   exact absurd hn this
  ·rfl
  have := List.pairwise_iff_getElem.1 hnd j i l2 l1 hlt
  rw [e1, e2] at this
  exact absurd hn.symm this
 subst e
 rw [hi] at hj
 exact Option.some.inj hj
theorem EqT.ty {l : List Ty} (hb : Sound8 l) {a b : Nat} {x y : Ty} (hx : l[a]? = some x) (hy : l[b]? = some y) (h : EqT l a b) : TyR (EqT l) x y := by
 obtain ⟨x', y', h1, h2, h3⟩ := h.step hb (List.getElem?_eq_some_iff.1 hx).1
 rw [hx] at h1
 rw [hy] at h2
 cases h1
 cases h2
 exact h3
def ElsU (R : Nat → Nat → Prop) (L L' : List Int) (i : Nat) : Prop := ∀ (j : Nat) (p q : Int), j < i → L[j]? = some p → L'[j]? = some q → RI R p q
theorem ElsU.succ {M M' : Prs} {L L' : List Int} {i : Nat} {p q : Int} (h : ElsU (InM M) L L' i) (k : Grown M M') (hf : L[i]? = some p) (hg : L'[i]? = some q) (hr : RI (InM M') p q) : ElsU (InM M') L L' (i + 1) := fun j u w hj hu hw => by
 by_cases e : j = i
 ·subst e
  rw [hf] at hu
  rw [hg] at hw
  cases hu
  cases hw
  exact hr
 exact (h j u w (by omega) hu hw).mono (InM.mono k)
theorem ElsU.all {R : Nat → Nat → Prop} {L L' : List Int} {i : Nat} (h : ElsU R L L' i) (hl : L.length = L'.length) (hi : L.length ≤ i) : ElsR R L L' := ⟨hl, fun j f g hf hg => h j f g (by have := (List.getElem?_eq_some_iff.1 hf).1; omega) hf hg⟩
def ArmsU (R : Nat → Nat → Prop) (L L' : List Arm) (i : Nat) : Prop := ∀ (j : Nat) (f g : Arm), j < i → L[j]? = some f → L'[j]? = some g → f.name = g.name ∧ FldsR R f.fields g.fields
theorem ArmsU.mono {M M' : Prs} {L L' : List Arm} {i : Nat} (h : ArmsU (InM M) L L' i) (k : Grown M M') : ArmsU (InM M') L L' i := fun j f g hj hf hg => ⟨(h j f g hj hf hg).1, (h j f g hj hf hg).2.mono (InM.mono k)⟩
theorem ArmsU.succ {M M' : Prs} {L L' : List Arm} {i : Nat} {f g : Arm} (h : ArmsU (InM M) L L' i) (k : Grown M M') (hf : L[i]? = some f) (hg : L'[i]? = some g) (hn : f.name = g.name) (hr : FldsR (InM M') f.fields g.fields) : ArmsU (InM M') L L' (i + 1) := fun j u w hj hu hw => by
 by_cases e : j = i
 ·subst e
  rw [hf] at hu
  rw [hg] at hw
  cases hu
  cases hw
  exact ⟨hn, hr⟩
 exact h.mono k j u w (by omega) hu hw
theorem ArmsU.all {R : Nat → Nat → Prop} {L L' : List Arm} {i : Nat} (h : ArmsU R L L' i) (hl : L.length = L'.length) (hi : L.length ≤ i) : ArmsR R L L' := ⟨hl, fun j f g hf hg => h j f g (by have := (List.getElem?_eq_some_iff.1 hf).1; omega) hf hg⟩
theorem shape_arms {x : Ty} (h : shapedB x = true) (hk : x.kind ≠ 10) : x.arms = [] := by
 unfold shapedB at h
 have h := of_decide_eq_true h
 simp only [shapeP] at h
 exact List.eq_nil_of_length_eq_zero (by omega)
/-- A module's members are compared last. -/
theorem EqA.mods {l : List Ty} {M M1 : Prs} {a b : Nat} {x y : Ty} {P : Prop} {z : Bool × Prs} (hb8 : Sound8 l) (hx : l[a]? = some x) (hy : l[b]? = some y) (hh : HeadR x y) (hk : x.kind = 13) (hsx : shapedB x = true) (hsy : shapedB y = true) (hR : RowA l ((a, b) :: M) M1 P) (he : ElsR (InM M1) x.elems y.elems) (hz : RelA l M1 (fun R => MemR R x.fields y.fields) z) : EqA l M a b z := by
 obtain ⟨zb, M2⟩ := z
 cases zb with
 | true =>
  obtain ⟨h1, h2⟩ := hz.yes rfl
  have hax := shape_arms hsx (by omega)
  have hay := shape_arms hsy (by rw [← hh.1]; omega)
  refine EqA.close (P := True) hx hy ⟨hR.grown.trans hz.grown, fun h => hz.bnd (hR.bnd h), hR.closed.trans h1 hz.grown, trivial⟩ ⟨hh, he.mono (InM.mono hz.grown), by rw [if_pos hk]; exact h2, ?_⟩
  rw [hax, hay]
  exact ⟨rfl, fun i f g hf => by cases hf⟩
 | false =>
  refine EqA.fail (fun p hp => hz.grown _ (hR.grown _ (List.mem_cons_of_mem _ hp))) (fun hM => hz.bnd (hR.bnd fun p hp => ?_)) fun h => hz.no rfl ?_
  ·rcases List.mem_cons.1 hp with rfl | hp
   ·exact ⟨(List.getElem?_eq_some_iff.1 hx).1, (List.getElem?_eq_some_iff.1 hy).1⟩
   exact hM p hp
  have := (h.ty hb8 hx hy).flds
  rw [if_pos hk] at this
  exact this
theorem Bnd.cons {l : List Ty} {M : Prs} {a b : Nat} (h : Bnd l M) (ha : a < l.length) (hb : b < l.length) : Bnd l ((a, b) :: M) := fun p hp => by
 rcases List.mem_cons.1 hp with rfl | hp
 ·exact ⟨ha, hb⟩
 exact h p hp
/-- One comparison says no. -/
theorem EqA.stop {l : List Ty} {M M1 M2 : Prs} {a b : Nat} {x y : Ty} {P : Prop} (hx : l[a]? = some x) (hy : l[b]? = some y) (hR : RowA l ((a, b) :: M) M1 P) (g : Grown M1 M2) (gb : Bnd l M1 → Bnd l M2) (h : ¬ EqT l a b) : EqA l M a b (false, M2) :=
 EqA.fail (fun p hp => g _ (hR.grown _ (List.mem_cons_of_mem _ hp))) (fun hM => gb (hR.bnd (hM.cons (List.getElem?_eq_some_iff.1 hx).1 (List.getElem?_eq_some_iff.1 hy).1))) h
theorem nodup_fields {n : Nat} {t : Ty} (h : singleE n t = 0) : (fnames t.fields).Nodup := by
 have h1 := (single_zero h).2.2.2.1
 unfold twiceB at h1
 have h2 : dupB (fnames t.fields) = false := by
  cases h3 : dupB (fnames t.fields) with
  | false => rfl
  | true =>
   rw [h3] at h1
   cases h1
 unfold dupB at h2
 simpa using h2
theorem cfields_ok {l : List Ty} {al : Option Addr} {cl bs bm n : Nat} {M : Prs} {x0 : List MapEntry × Nat} {L L2 : List Fld} {va vb : Value} {m : AW} (hm : m.lo ≤ m.next) (hk : Knows [bm] m m (MapC bm x0)) (hM : MetA M x0) (hB : Bnd l M) (hp : CmpPre l al cl bs bm m) (hn : unmet l.length M < n) (heq : ∀ p q : Nat, p < l.length → q < l.length → EqualC prog l al cl bs bm n p q) (hfa : Sl (Off [bm] m) 2 RFld L va) (hfb : Sl (Off [bm] m) 2 RFld L2 vb) (hL : ∀ (j : Nat) (f : Fld), L[j]? = some f → ∃ q : Nat, f.type = Int.ofNat q ∧ q < l.length) (hL2 : ∀ (j : Nat) (f : Fld), L2[j]? = some f → ∃ q : Nat, f.type = Int.ofNat q ∧ q < l.length) : Fc prog 135 [ptr bs, va, vb] m fun v m' => RelQ l bm M (fun R => FldsR R L L2) m v m' := by
 obtain ⟨aa, ca, rfl, hna, hfa⟩ := hfa
 obtain ⟨ab, cb, rfl, hnb, hfb⟩ := hfb
 have hM0 := hM
 have hB0 := hB
 have hn0 := hn
 refine Fc.bodyS (S := [bm]) (c := _) func135 rfl rfl rfl rfl hk ?_
 refine .seq (.region (.P ?_))
 refine .nil (.seq (.seq (.seq (.region (.P ?_)))))
 refine .G (ln47 ..) ?_
 refine .P ?_
 refine .G (ln47 ..) ?_
 refine .P ?_
 refine .nil (.seq (.cond rfl (fun ht12 => ?_) fun ht12 => ?_))
 ·try simp only [nz] at ht12
  refine .seq (.region (.P ?_))
  refine .nil (.seq (.ret (.seq ?_)))
  exact .end_ rfl rfl (fun m hm => ⟨((false, M), x0), ⟨RelA.fail (Grown.refl _) id fun h => absurd h.1 (by omega), hM⟩, rfl, hm⟩)
 try simp only [nz] at ht12
 have hll : L.length = L2.length := by omega
 refine .skip (.seq (.seq (.seq (.region (.P ?_)))))
 refine .G (ln47 ..) ?_
 refine .P ?_
 refine .nil (.seq (.block ?_))
 refine .loop (α := Nat × Prs × (List MapEntry × Nat)) (fun q => [(0, ptr bs), (1, .slice aa L.length ca), (2, .slice ab L2.length cb), (14, .int .i64 (Int.ofNat (L.length))), (15, .int .i64 (Int.ofNat (q.1)))]) (fun q => [(bm, .map q.2.2.1 q.2.2.2)]) (fun q => q.1 ≤ L.length ∧ RowA l M q.2.1 (FldsU (InM q.2.1) L L2 q.1) ∧ MetA q.2.1 q.2.2) (fun q => L.length - q.1) (0, M, x0) ⟨Nat.zero_le _, RowA.init (fun _ _ _ h => absurd h (Nat.not_lt_zero _)), hM0⟩ ⟨rfl, rfl, rfl, rfl, rfl, trivial⟩ (.refl _) (fun q hq0 => ?_)
 obtain ⟨i, M1, x1⟩ := q
 obtain ⟨hi, hR, hM1⟩ := hq0
 simp only at hi hR hM1
 have hB1 := hR.bnd hB0
 have hu1 := Nat.lt_of_le_of_lt (unmet_le (n := l.length) hR.grown) hn0
 refine .seq (.region (.P ?_))
 refine .nil (.seq (.seq (.cond rfl (fun ht16 => ?_) fun ht16 => ?_)))
 ·try simp only [nz] at ht16
  have hltA : i < L.length := by omega
  obtain ⟨f, hf⟩ := gx hltA
  obtain ⟨bA, offA, csA, elA, gA, mdA, mateA, rfl, ⟨hbA, hhA⟩, hleA, hcA⟩ := so hfa hltA
  have hrf := hcA i f hf
  have hltB : i < L2.length := by omega
  obtain ⟨g_, hg⟩ := gx hltB
  obtain ⟨bB, offB, csB, elB, gB, mdB, mateB, rfl, ⟨hbB, hhB⟩, hleB, hcB⟩ := so hfb hltB
  have hrg := hcB i g_ hg
  obtain ⟨p, hp0, hpl⟩ := hL i f hf
  obtain ⟨q, hq0, hql⟩ := hL2 i g_ hg
  refine .skip (.seq (.seq (.block (.seq (.region (.P2 ?_))))))
  refine .nil (.seq (.seq ?_))
  refine .D [(15, 0), (15, 0), (15, 3), (15, 7), (3, 15), (15, 0), (15, 0), (15, 96), (15, 224), (3, 480), (15, 1023), (15, 2047), (15, 4095), (15, 4095), (15, 4095), (15, 28671), (15, 61439), (3, 126975), (15, 4095), (15, 4095), (15, 790527), (15, 1839103), (3, 3936255), (7, 8388607), (15, 16777215), (15, 33554431)] (by kernel_rfl) (by kernel_rfl) (fun base hbase hB => ?_)
  iterate 2 refine .P ?_
  refine .K underlying47 sz132 ?_
  refine .F fa132_0 ?_
  refine .M ag9 (Off.sees rfl rfl _ _ ⟨hbA, hhA⟩) (cell_of_take hrf (k := 0) rfl) ?_
  iterate 2 refine .P ?_
  refine .K underlying47 sz132 ?_
  refine .F fa132_0 ?_
  refine .M ag9 (Off.sees rfl rfl _ _ ⟨hbB, hhB⟩) (cell_of_take hrg (k := 0) rfl) ?_
  iterate 2 refine .P ?_
  refine .splitB 29 rfl (fun hs_29 => ?_) (fun hs_29 => ?_)
  ·try simp only [nz] at hs_29
   have hnn : f.name ≠ g_.name := by assumption
   iterate 13 refine .O ?_
   refine .P ?_
   refine .nil (.seq (.cond_true rfl (.seq (.region (.P ?_)))))
   refine .nil (.seq (.ret (.blk (.seq (.loop (.blk (.seq ?_)))))))
   exact .end_ rfl rfl (fun m hm => ⟨((false, M1), x1), ⟨RelA.fail hR.grown hR.bnd fun h => hnn (h.2 i f g_ hf hg).1, hM1⟩, rfl, hm⟩)
  try simp only [nz] at hs_29
  have hnn : f.name = g_.name := by assumption
  iterate 3 refine .P ?_
  refine .K underlying47 sz132 ?_
  refine .F fa132_1 ?_
  refine .M ag3 (Off.sees rfl rfl _ _ ⟨hbA, hhA⟩) (cell_of_take hrf (k := 1) rfl) ?_
  refine .as 35 (.int .i64 (Int.ofNat p)) rfl (congrArg (Value.int .i64) hp0) ?_
  iterate 2 refine .P ?_
  refine .K underlying47 sz132 ?_
  refine .F fa132_1 ?_
  refine .M ag3 (Off.sees rfl rfl _ _ ⟨hbB, hhB⟩) (cell_of_take hrg (k := 1) rfl) ?_
  refine .as 40 (.int .i64 (Int.ofNat q)) rfl (congrArg (Value.int .i64) hq0) ?_
  refine .callc (fun y : CmpY => EqA l M1 p q y.1 ∧ MetA y.1.2 y.2) (fun y => .bool y.1.1) (fun y => [(bm, .map y.2.1 y.2.2)]) .one rfl rfl (by kernel_rfl) (by kernel_rfl) rfl rfl rfl rfl rfl rfl (fun m2 g0 g2 gb gr => heq p q hpl hql m2 x1 M1 g0 g2 hM1 hB1 (hp.mono gb) hu1) (fun y hy => ?_)
  refine .p rfl rfl rfl rfl rfl (.p rfl rfl rfl rfl rfl (.of (.nil (.seq (.cond rfl (fun ht43 => ?_) fun ht43 => ?_)))))
  ·obtain ⟨hy, hyM⟩ := hy
   have hyf : y.1.1 = false := by cases h_ : y.1.1 with | false => rfl | true => rw [h_] at ht43; cases ht43
   refine .seq (.region (.P ?_))
   refine .nil (.seq (.ret (.blk (.seq (.loop (.blk (.seq ?_)))))))
   exact .end_ rfl rfl (fun m hm => ⟨((false, y.1.2), y.2), ⟨RelA.fail (hR.grown.trans hy.grown) (fun h => hy.bnd (hR.bnd h)) fun h => hy.no hyf (by have := (h.2 i f g_ hf hg).2; rw [hp0, hq0] at this; exact this.nat), hyM⟩, rfl, hm⟩)
  obtain ⟨hy, hyM⟩ := hy
  have hyt : y.1.1 = true := by cases h_ : y.1.1 with | true => rfl | false => rw [h_] at ht43; cases ht43
  refine .skip (.blk (.seq (.region (.P ?_))))
  refine .W 44 i ?_
  refine .P ?_
  refine .nil ?_
  exact .loop (i + 1, y.1.2, y.2) ⟨by omega, hR.more hy hyt (hR.all.succ hy.grown hf hg hnn ⟨p, q, hp0, hq0, (hy.yes hyt).1⟩), hyM⟩ (by show L.length - (i + 1) < L.length - i; omega) ⟨rfl, rfl, rfl, rfl, rfl, trivial⟩ (.refl _)
 try simp only [nz] at ht16
 refine .exit (.seq (.loop (.here (.seq (.seq (.region (.P ?_)))))))
 refine .nil (.seq (.ret ?_))
 exact .end_ rfl rfl (fun m hm => ⟨((true, M1), x1), ⟨RelA.good hR (hR.all.all hll (by omega)), hM1⟩, rfl, hm⟩)
theorem cmembers_ok {l : List Ty} {al : Option Addr} {cl bs bm n : Nat} {M : Prs} {x0 : List MapEntry × Nat} {L L2 : List Fld} {va vb : Value} {m : AW} (hm : m.lo ≤ m.next) (hk : Knows [bm] m m (MapC bm x0)) (hM : MetA M x0) (hB : Bnd l M) (hp : CmpPre l al cl bs bm m) (hn : unmet l.length M < n) (heq : ∀ p q : Nat, p < l.length → q < l.length → EqualC prog l al cl bs bm n p q) (hfa : Sl (Off [bm] m) 2 RFld L va) (hfb : Sl (Off [bm] m) 2 RFld L2 vb) (hL : ∀ (j : Nat) (f : Fld), L[j]? = some f → ∃ q : Nat, f.type = Int.ofNat q ∧ q < l.length) (hL2 : ∀ (j : Nat) (f : Fld), L2[j]? = some f → ∃ q : Nat, f.type = Int.ofNat q ∧ q < l.length) (hnd : (fnames L2).Nodup) : Fc prog 134 [ptr bs, va, vb] m fun v m' => RelQ l bm M (fun R => MemR R L L2) m v m' := by
 obtain ⟨aa, ca, rfl, hna, hfa⟩ := hfa
 obtain ⟨ab, cb, rfl, hnb, hfb⟩ := hfb
 have hM0 := hM
 have hB0 := hB
 have hn0 := hn
 refine Fc.bodyS (S := [bm]) (c := _) func134 rfl rfl rfl rfl hk ?_
 refine .seq (.region (.P ?_))
 refine .nil (.seq (.seq (.seq (.region (.P ?_)))))
 refine .G (ln47 ..) ?_
 refine .P ?_
 refine .G (ln47 ..) ?_
 refine .P ?_
 refine .nil (.seq (.cond rfl (fun ht18 => ?_) fun ht18 => ?_))
 ·try simp only [nz] at ht18
  refine .seq (.region (.P ?_))
  refine .nil (.seq (.ret (.seq ?_)))
  exact .end_ rfl rfl (fun m hm => ⟨((false, M), x0), ⟨RelA.fail (Grown.refl _) id fun h => absurd h.1 (by omega), hM⟩, rfl, hm⟩)
 try simp only [nz] at ht18
 have hll : L.length = L2.length := by omega
 refine .skip (.seq (.seq (.region ?_)))
 refine .makeMap rfl rfl rfl rfl (fun b19 hb19 => ?_)
 refine .P ?_
 refine .nil (.seq (.seq (.seq (.region (.P ?_)))))
 refine .G (ln47 ..) ?_
 refine .P ?_
 refine .nil (.seq (.block ?_))
 refine .loop (α := Nat × List MapEntry × Nat × List (ByteArray × Value)) (fun q => [(0, ptr bs), (1, .slice aa L.length ca), (7, .map (some b19)), (20, .slice ab L2.length cb), (21, .int .i64 (Int.ofNat (L2.length))), (22, .int .i64 (Int.ofNat (q.1)))]) (fun q => [(b19, .map q.2.1 q.2.2.1), (bm, .map x0.1 x0.2)]) (fun q => q.1 ≤ L2.length ∧ PairsK Value.string q.2.1 q.2.2.2 ∧ TypN (L2.take q.1) q.2.2.2) (fun q => L2.length - q.1) (0, [], 0, []) ⟨Nat.zero_le _, trivial, TypN.nil⟩ ⟨rfl, rfl, rfl, rfl, rfl, rfl, trivial⟩ (.refl _) (fun q hq0 => ?_)
 obtain ⟨i, es, c, lN⟩ := q
 obtain ⟨hi, hP, hN⟩ := hq0
 simp only at hi hP hN
 refine .seq (.region (.P ?_))
 refine .nil (.seq (.seq (.cond rfl (fun ht23 => ?_) fun ht23 => ?_)))
 ·try simp only [nz] at ht23
  have hltB : i < L2.length := by omega
  obtain ⟨g_, hg⟩ := gx hltB
  obtain ⟨bB, offB, csB, elB, gB, mdB, mateB, rfl, ⟨hbB, hhB⟩, hleB, hcB⟩ := so hfb hltB
  have hrg := hcB i g_ hg
  refine .skip (.seq (.seq (.block (.seq (.region (.K underlying47 sz132 ?_))))))
  refine .A ag132 sz132 (Off.sees rfl rfl _ _ ⟨hbB, hhB⟩) hrg ?_
  refine .alloc rfl rfl rfl rfl zr132 (fun b9 hb9 => ?_)
  refine .S sz132 ?_
  refine .nil (.seq (.region (.P ?_)))
  refine .F fa132_0 ?_
  refine .L ag9 ?_
  refine .F fa132_1 ?_
  refine .L ag3 ?_
  refine .mapUpdate (K := Value.string) (.tail .one) hP (KeyOk.string underlying9) rfl rfl rfl underlying206 rfl rfl rfl (fun es1 c1 hP1 => ?_)
  refine .nil (.blk (.seq (.region (.P ?_))))
  refine .W 31 i ?_
  refine .P ?_
  refine .nil ?_
  exact .loop (i + 1, es1, c1, _) ⟨hltB, hP1, hN.take hnd hg⟩ (by show L2.length - (i + 1) < L2.length - i; omega) ⟨rfl, rfl, rfl, rfl, rfl, rfl, trivial⟩ (.cons_cons _ (.cons _ (.refl _)))
 try simp only [nz] at ht23
 rw [List.take_of_length_le (show L2.length ≤ i by omega)] at hN
 refine .exit (.seq (.loop (.here (.seq (.seq (.seq (.region (.P ?_))))))))
 refine .G (ln47 ..) ?_
 refine .P ?_
 refine .nil (.seq (.block ?_))
 refine .swap (.swap _ _ _) (.loop (α := Nat × Prs × (List MapEntry × Nat)) (fun q => [(0, ptr bs), (7, .map (some b19)), (32, .slice aa L.length ca), (33, .int .i64 (Int.ofNat (L.length))), (34, .int .i64 (Int.ofNat (q.1)))]) (fun q => [(bm, .map q.2.2.1 q.2.2.2), (b19, .map es c)]) (fun q => q.1 ≤ L.length ∧ RowA l M q.2.1 (MemU (InM q.2.1) L L2 q.1) ∧ MetA q.2.1 q.2.2) (fun q => L.length - q.1) (0, M, x0) ⟨Nat.zero_le _, RowA.init (fun _ _ h => absurd h (Nat.not_lt_zero _)), hM0⟩ ⟨rfl, rfl, rfl, rfl, rfl, trivial⟩ (.refl _) (fun q hq0 => ?_))
 obtain ⟨k, M1, x1⟩ := q
 obtain ⟨hk, hR, hM1⟩ := hq0
 simp only at hk hR hM1
 have hB1 := hR.bnd hB0
 have hu1 := Nat.lt_of_le_of_lt (unmet_le (n := l.length) hR.grown) hn0
 refine .seq (.region (.P ?_))
 refine .nil (.seq (.seq (.cond rfl (fun ht35 => ?_) fun ht35 => ?_)))
 ·try simp only [nz] at ht35
  have hltA : k < L.length := by omega
  obtain ⟨f, hf⟩ := gx hltA
  obtain ⟨bA, offA, csA, elA, gA, mdA, mateA, rfl, ⟨hbA, hhA⟩, hleA, hcA⟩ := so hfa hltA
  have hrf := hcA k f hf
  obtain ⟨p, hp0, hpl⟩ := hL k f hf
  refine .skip (.seq (.seq (.block (.seq (.region (.K underlying47 sz132 ?_))))))
  refine .A ag132 sz132 (Off.sees rfl rfl _ _ ⟨hbA, hhA⟩) hrf ?_
  refine .alloc rfl rfl rfl rfl zr132 (fun b11 hb11 => ?_)
  refine .S sz132 ?_
  refine .nil (.seq (.seq (.region (.P ?_))))
  refine .F fa132_0 ?_
  refine .L ag9 ?_
  rcases hfnd : L2.find? (fun h => decide (h.name = f.name)) with _ | g_
  ·refine .lookupOk (K := Value.string) (.tail (.tail .one)) hP (KeyOk.string underlying9) rfl rfl rfl rfl underlying206 zr3 rfl rfl (v := .tuple ⟨[.int .i64 0, .bool false]⟩) (by rw [hN f.name, hfnd]; rfl) ?_
   iterate 5 refine .P ?_
   refine .nil (.seq (.seq (.region (.P3 ?_))))
   iterate 6 refine .O ?_
   refine .P ?_
   refine .nil (.seq (.cond_true rfl (.seq (.region (.P ?_)))))
   refine .nil (.seq (.ret (.blk (.seq (.loop (.blk (.seq ?_)))))))
   exact .end_ rfl rfl (by first | exact (fun m hm => ⟨((false, M1), x1), ⟨RelA.fail hR.grown hR.bnd fun h => (by obtain ⟨w, h1, h2, _⟩ := h.2 f (List.mem_of_getElem? hf); have := List.find?_eq_none.1 hfnd w h1; simp [h2] at this), hM1⟩, rfl, hm.sub (.cons _ (.cons_cons _ (List.nil_sublist _)))⟩) | exact (fun m hm => ⟨((false, y.1.2), y.2), ⟨RelA.fail (hR.grown.trans hy.grown) (fun h => hy.bnd (hR.bnd h)) fun h => hy.no hyf (by obtain ⟨w, h1, h2, h3⟩ := h.2 f (List.mem_of_getElem? hf); have he := mem_one hnd h1 hgm (h2.trans hgn.symm); subst he; rw [hp0, hq0] at h3; exact h3.nat), hyM⟩, rfl, hm.sub (.cons_cons _ (List.nil_sublist _))⟩) | exact (fun m hm => ⟨((true, M1), x1), ⟨RelA.good hR (hR.all.all hll (by omega)), hM1⟩, rfl, hm.sub (.cons_cons _ (List.nil_sublist _))⟩))
  obtain ⟨hgm, hgn⟩ := find_mem hfnd
  obtain ⟨jg, hjg⟩ := List.getElem?_of_mem hgm
  obtain ⟨q, hq0, hql⟩ := hL2 jg g_ hjg
  refine .lookupOk (K := Value.string) (.tail (.tail .one)) hP (KeyOk.string underlying9) rfl rfl rfl rfl underlying206 zr3 rfl rfl (v := .tuple ⟨[.int .i64 g_.type, .bool true]⟩) (by rw [hN f.name, hfnd]; rfl) ?_
  iterate 5 refine .P ?_
  refine .nil (.seq (.seq (.region ?_)))
  iterate 4 refine .P ?_
  refine .F fa132_1 ?_
  refine .L ag3 ?_
  refine .as 50 (.int .i64 (Int.ofNat p)) rfl (congrArg (Value.int .i64) hp0) ?_
  refine .P ?_
  refine .as 51 (.int .i64 (Int.ofNat q)) rfl (congrArg (Value.int .i64) hq0) ?_
  refine .callc (fun y : CmpY => EqA l M1 p q y.1 ∧ MetA y.1.2 y.2) (fun y => .bool y.1.1) (fun y => [(bm, .map y.2.1 y.2.2)]) (.tail .one) rfl rfl rfl rfl rfl rfl (fun m2 g1 g2 => heq p q hpl hql m2 x1 M1 g1.lole' g2 hM1 hB1 (hp.mono (Off.kr g1.kr)) hu1) (fun y hy => ?_)
  refine .P2 ?_
  refine .nil (.seq (.cond rfl (fun ht54 => ?_) fun ht54 => ?_))
  ·obtain ⟨hy, hyM⟩ := hy
   have hyf : y.1.1 = false := by cases h_ : y.1.1 with | false => rfl | true => rw [h_] at ht54; cases ht54
   refine .seq (.region (.P ?_))
   refine .nil (.seq (.ret (.blk (.seq (.loop (.blk (.seq ?_)))))))
   exact .end_ rfl rfl (by first | exact (fun m hm => ⟨((false, M1), x1), ⟨RelA.fail hR.grown hR.bnd fun h => (by obtain ⟨w, h1, h2, _⟩ := h.2 f (List.mem_of_getElem? hf); have := List.find?_eq_none.1 hfnd w h1; simp [h2] at this), hM1⟩, rfl, hm.sub (.cons _ (.cons_cons _ (List.nil_sublist _)))⟩) | exact (fun m hm => ⟨((false, y.1.2), y.2), ⟨RelA.fail (hR.grown.trans hy.grown) (fun h => hy.bnd (hR.bnd h)) fun h => hy.no hyf (by obtain ⟨w, h1, h2, h3⟩ := h.2 f (List.mem_of_getElem? hf); have he := mem_one hnd h1 hgm (h2.trans hgn.symm); subst he; rw [hp0, hq0] at h3; exact h3.nat), hyM⟩, rfl, hm.sub (.cons_cons _ (List.nil_sublist _))⟩) | exact (fun m hm => ⟨((true, M1), x1), ⟨RelA.good hR (hR.all.all hll (by omega)), hM1⟩, rfl, hm.sub (.cons_cons _ (List.nil_sublist _))⟩))
  obtain ⟨hy, hyM⟩ := hy
  have hyt : y.1.1 = true := by cases h_ : y.1.1 with | true => rfl | false => rw [h_] at ht54; cases ht54
  refine .skip (.blk (.seq (.region (.P ?_))))
  refine .W 55 k ?_
  refine .P ?_
  refine .nil ?_
  exact .loop (k + 1, y.1.2, y.2) ⟨by omega, hR.more hy hyt (hR.all.succ hy.grown hf hgm hgn ⟨p, q, hp0, hq0, (hy.yes hyt).1⟩), hyM⟩ (by show L.length - (k + 1) < L.length - k; omega) ⟨rfl, rfl, rfl, rfl, rfl, trivial⟩ (.cons_cons _ (.cons _ (.refl _)))
 try simp only [nz] at ht35
 refine .exit (.seq (.loop (.here (.seq (.seq (.region (.P ?_)))))))
 refine .nil (.seq (.ret ?_))
 exact .end_ rfl rfl (by first | exact (fun m hm => ⟨((false, M1), x1), ⟨RelA.fail hR.grown hR.bnd fun h => (by obtain ⟨w, h1, h2, _⟩ := h.2 f (List.mem_of_getElem? hf); have := List.find?_eq_none.1 hfnd w h1; simp [h2] at this), hM1⟩, rfl, hm.sub (.cons _ (.cons_cons _ (List.nil_sublist _)))⟩) | exact (fun m hm => ⟨((false, y.1.2), y.2), ⟨RelA.fail (hR.grown.trans hy.grown) (fun h => hy.bnd (hR.bnd h)) fun h => hy.no hyf (by obtain ⟨w, h1, h2, h3⟩ := h.2 f (List.mem_of_getElem? hf); have he := mem_one hnd h1 hgm (h2.trans hgn.symm); subst he; rw [hp0, hq0] at h3; exact h3.nat), hyM⟩, rfl, hm.sub (.cons_cons _ (List.nil_sublist _))⟩) | exact (fun m hm => ⟨((true, M1), x1), ⟨RelA.good hR (hR.all.all hll (by omega)), hM1⟩, rfl, hm.sub (.cons_cons _ (List.nil_sublist _))⟩))
theorem PT165 : PairT prog 165 3 .i64 := ⟨underlying165, underlying3, sz3, fun _ _ => by kernel_rfl, fun _ _ => by kernel_rfl⟩
theorem cequal_step {l : List Ty} {al : Option Addr} {cl bs bm n : Nat} {M : Prs} {x0 : List MapEntry × Nat} {a b_ : Nat} {m : AW} (hm : m.lo ≤ m.next) (hk : Knows [bm] m m (MapC bm x0)) (hM : MetA M x0) (hBd : Bnd l M) (hp : CmpPre l al cl bs bm m) (hn : unmet l.length M < n + 1) (hWl : Well l) (ha : a < l.length) (hb_ : b_ < l.length) (ih : ∀ p q : Nat, p < l.length → q < l.length → EqualC prog l al cl bs bm n p q) : Fc prog 105 [ptr bs, .int .i64 (Int.ofNat (a)), .int .i64 (Int.ofNat (b_))] m fun v m' => EqQ l bm M a b_ m v m' := by
 have hsS := hp.hs
 have hbsl := hsS.1
 have hsnd := hWl.sound
 obtain ⟨a_, cap_, he_, hnl, hl⟩ := hp.hl
 cases he_
 obtain ⟨x_, hx_⟩ := gx ha
 obtain ⟨y_, hy_⟩ := gx hb_
 rcases hl with ⟨e0, -⟩ | ⟨b, off, cs, el, g, md, mate, rfl, ⟨hb, hh⟩, hle, hc⟩
 ·rw [e0] at ha; simp at ha
 have hrX := hc a x_ hx_
 obtain ⟨veX, vfX, vaX, hrX, heX, hfX, hgX⟩ := hrX
 obtain ⟨aeX, ceX, rfl, hneX, heX⟩ := heX
 have hfSX := hfX
 obtain ⟨afX, cfX, rfl, hnfX, hfX⟩ := hfX
 obtain ⟨aaX, caX, rfl, hnaX, hgX⟩ := hgX
 have hrY := hc b_ y_ hy_
 obtain ⟨veY, vfY, vaY, hrY, heY, hfY, hgY⟩ := hrY
 obtain ⟨aeY, ceY, rfl, hneY, heY⟩ := heY
 have hfSY := hfY
 obtain ⟨afY, cfY, rfl, hnfY, hfY⟩ := hfY
 obtain ⟨aaY, caY, rfl, hnaY, hgY⟩ := hgY
 have hM0 := hM
 obtain ⟨lM, hP, hD⟩ := hM
 refine Fc.bodyS (S := [bm]) (c := _) func105 rfl rfl rfl rfl hk ?_
 refine .seq (.region (.P ?_))
 refine .nil (.seq (.seq (.seq (.region ?_))))
 iterate 4 refine .P ?_
 refine .splitB 14 rfl (fun hs_14 => ?_) (fun hs_14 => ?_)
 ·try simp only [nz] at hs_14
  have hab : a = b_ := by omega
  iterate 8 refine .O ?_
  refine .P ?_
  refine .nil (.seq (.cond_true rfl (.seq (.region (.P ?_)))))
  refine .nil (.seq (.ret (.seq ?_)))
  exact .end_ rfl rfl (fun m hm => ⟨((true, M), x0), ⟨EqA.here (.inl hab), hM0⟩, rfl, hm⟩)
 try simp only [nz] at hs_14
 refine .P2 ?_
 refine .F fa163_1 ?_
 refine .M ag161 (Off.sees rfl rfl _ _ hsS) rfl ?_
 refine .P2 ?_
 refine .p (v := pairV .i64 (Int.ofNat a, Int.ofNat b_)) rfl rfl rfl (by kernel_rfl) ?_
 refine .lookup (K := pairV .i64) (kv := (Int.ofNat a, Int.ofNat b_)) .one hP (KeyOk.pair PT165) rfl rfl rfl rfl underlying161 zr4 rfl rfl (MetA.look hD a b_) ?_
 refine .P ?_
 refine .nil (.seq (.cond rfl (fun ht23 => ?_) fun ht23 => ?_))
 ·have hin := of_decide_eq_true ht23
  refine .seq (.region (.P ?_))
  refine .nil (.seq (.ret (.seq ?_)))
  exact .end_ rfl rfl (fun m hm => ⟨((true, M), x0), ⟨EqA.here (.inr hin), hM0⟩, rfl, hm⟩)
 have hnm := of_decide_eq_false ht23
 refine .skip (.seq (.seq (.region (.P2 ?_))))
 refine .F fa163_1 ?_
 refine .M ag161 (Off.sees rfl rfl _ _ hsS) rfl ?_
 refine .P2 ?_
 refine .p (v := pairV .i64 (Int.ofNat a, Int.ofNat b_)) rfl rfl rfl (by kernel_rfl) ?_
 refine .mapUpdate (K := pairV .i64) (kv := (Int.ofNat a, Int.ofNat b_)) .one hP (KeyOk.pair PT165) rfl rfl rfl underlying161 rfl rfl rfl (fun es1 c1 hP1 => ?_)
 have hM0 := MetA.put (c := c1) hD hP1
 have hB0 := hBd.cons ha hb_
 have hn0 : unmet l.length ((a, b_) :: M) < n := by have := unmet_lt ha hb_ hnm (M' := (a, b_) :: M) (fun p hp => List.mem_cons_of_mem _ hp) List.mem_cons_self; omega
 refine .nil (.seq (.seq ?_))
 refine .D [(15, 0), (15, 1), (15, 3), (3, 7), (15, 0), (15, 31), (3, 63), (13, 0), (13, 128), (13, 384), (1, 896), (13, 0), (13, 3968), (1, 8064), (11, 0), (11, 0), (7, 49279), (7, 131071)] (by kernel_rfl) (by kernel_rfl) (fun base hbase hB => ?_)
 iterate 2 refine .P ?_
 refine .F fa163_0 ?_
 refine .M ag22 (Off.sees rfl rfl _ _ hsS) rfl ?_
 refine .P ?_
 refine .K underlying22 sz50 ?_
 refine .loadAgg rfl rfl rfl rfl rfl rfl rfl rfl ag50 sz50 (Off.sees rfl rfl _ _ ⟨hb, hh⟩) (by omega) hrX ?_
 iterate 2 refine .P ?_
 refine .F fa163_0 ?_
 refine .loadOld rfl rfl rfl rfl rfl rfl ag22 (Off.sees rfl rfl _ _ hsS) rfl (by first | exact hB _ _ (.head _) | exact hB _ _ (.tail _ (.head _)) | exact hB _ _ (.tail _ (.tail _ (.head _))) | exact hB _ _ (.tail _ (.tail _ (.tail _ (.head _)))) | exact hB _ _ (List.mem_append_right _ (.head _)) | exact hB _ _ (List.mem_append_right _ (.tail _ (.head _))) | exact Nat.lt_of_lt_of_le ‹_› hbase) ?_
 refine .P ?_
 refine .K underlying22 sz50 ?_
 refine .loadAggOld rfl rfl rfl rfl rfl rfl ag50 sz50 (Off.sees rfl rfl _ _ ⟨hb, hh⟩) (by omega) hrY (by first | exact hB _ _ (.head _) | exact hB _ _ (.tail _ (.head _)) | exact hB _ _ (.tail _ (.tail _ (.head _))) | exact hB _ _ (.tail _ (.tail _ (.tail _ (.head _)))) | exact hB _ _ (List.mem_append_right _ (.head _)) | exact hB _ _ (List.mem_append_right _ (.tail _ (.head _))) | exact Nat.lt_of_lt_of_le ‹_› hbase) ?_
 refine .alloc rfl rfl rfl rfl rfl zr50 (fun b7 hn7 hb7 => ?_)
 refine .alloc rfl rfl rfl rfl rfl zr50 (fun b8 hn8 hb8 => ?_)
 refine .storeNew rfl rfl (by kernel_rfl) hn7 rfl rfl rfl rfl rfl sz50 rfl (by first | exact .head | exact .tail .head | exact .tail (.tail .head) | exact .tail (.tail (.tail .head)) | exact updo) rfl ?_
 refine .storeNew rfl rfl (by kernel_rfl) hn8 rfl rfl rfl rfl rfl sz50 rfl (by first | exact .head | exact .tail .head | exact .tail (.tail .head) | exact .tail (.tail (.tail .head)) | exact updo) rfl ?_
 refine .nil (.seq ?_)
 refine .joinA (HeadR x_ y_) [] ?_ (fun hhd => ?_)
 ·refine .seq (.region (.F fa50_0 ?_))
  refine .L ag3 ?_
  refine .F fa50_0 ?_
  refine .L ag3 ?_
  refine .P2 ?_
  refine .splitB 50 rfl (fun hs_50 => ?_) (fun hs_50 => ?_)
  ·try simp only [nz] at hs_50
   iterate 7 refine .O ?_
   refine .P2 ?_
   iterate 7 refine .O ?_
   refine .P2 ?_
   iterate 10 refine .O ?_
   refine .P ?_
   refine .nil (.seq (.cond_true rfl (.seq (.region (.P ?_)))))
   refine .nil (.seq (.ret (.jn ?_)))
   exact .end_ rfl rfl (fun m hm => ⟨((false, (a, b_) :: M), (es1, c1)), ⟨EqA.fail (fun p hp => List.mem_cons_of_mem _ hp) (fun hM => hM.cons ha hb_) (fun h => (by obtain ⟨h1, h2, h3, h4⟩ := (h.ty hsnd hx_ hy_).head; first | omega | exact absurd (h4 (by omega)) (by assumption))), hM0⟩, rfl, hm.sub (.cons _ (.cons _ (.refl _)))⟩)
  try simp only [nz] at hs_50
  refine .F fa50_1 ?_
  refine .L ag32 ?_
  refine .G (ln32 ..) ?_
  refine .F fa50_1 ?_
  refine .L ag32 ?_
  refine .G (ln32 ..) ?_
  refine .P3 ?_
  refine .splitB 59 rfl (fun hs_59 => ?_) (fun hs_59 => ?_)
  ·try simp only [nz] at hs_59
   iterate 7 refine .O ?_
   refine .P2 ?_
   iterate 10 refine .O ?_
   refine .P ?_
   refine .nil (.seq (.cond_true rfl (.seq (.region (.P ?_)))))
   refine .nil (.seq (.ret (.jn ?_)))
   exact .end_ rfl rfl (fun m hm => ⟨((false, (a, b_) :: M), (es1, c1)), ⟨EqA.fail (fun p hp => List.mem_cons_of_mem _ hp) (fun hM => hM.cons ha hb_) (fun h => (by obtain ⟨h1, h2, h3, h4⟩ := (h.ty hsnd hx_ hy_).head; first | omega | exact absurd (h4 (by omega)) (by assumption))), hM0⟩, rfl, hm.sub (.cons _ (.cons _ (.refl _)))⟩)
  try simp only [nz] at hs_59
  refine .F fa50_4 ?_
  refine .L ag48 ?_
  refine .G (ln48 ..) ?_
  refine .F fa50_4 ?_
  refine .L ag48 ?_
  refine .G (ln48 ..) ?_
  refine .P3 ?_
  refine .splitB 68 rfl (fun hs_68 => ?_) (fun hs_68 => ?_)
  ·try simp only [nz] at hs_68
   iterate 10 refine .O ?_
   refine .P ?_
   refine .nil (.seq (.cond_true rfl (.seq (.region (.P ?_)))))
   refine .nil (.seq (.ret (.jn ?_)))
   exact .end_ rfl rfl (fun m hm => ⟨((false, (a, b_) :: M), (es1, c1)), ⟨EqA.fail (fun p hp => List.mem_cons_of_mem _ hp) (fun hM => hM.cons ha hb_) (fun h => (by obtain ⟨h1, h2, h3, h4⟩ := (h.ty hsnd hx_ hy_).head; first | omega | exact absurd (h4 (by omega)) (by assumption))), hM0⟩, rfl, hm.sub (.cons _ (.cons _ (.refl _)))⟩)
  try simp only [nz] at hs_68
  refine .F fa50_0 ?_
  refine .L ag3 ?_
  refine .P2 ?_
  refine .splitB 72 rfl (fun hs_72 => ?_) (fun hs_72 => ?_)
  ·try simp only [nz] at hs_72
   refine .F fa50_2 ?_
   refine .L ag9 ?_
   refine .F fa50_2 ?_
   refine .L ag9 ?_
   refine .P3 ?_
   refine .nil (.seq (.cond rfl (fun ht79 => ?_) fun ht79 => ?_))
   ·try simp only [nz] at ht79
    refine .seq (.region (.P ?_))
    refine .nil (.seq (.ret (.jn ?_)))
    exact .end_ rfl rfl (fun m hm => ⟨((false, (a, b_) :: M), (es1, c1)), ⟨EqA.fail (fun p hp => List.mem_cons_of_mem _ hp) (fun hM => hM.cons ha hb_) (fun h => (by obtain ⟨h1, h2, h3, h4⟩ := (h.ty hsnd hx_ hy_).head; first | omega | exact absurd (h4 (by omega)) (by assumption))), hM0⟩, rfl, hm.sub (.cons _ (.cons _ (.refl _)))⟩)
   try simp only [nz] at ht79
   refine .skip ?_
   exact .J (⟨by omega, by omega, by omega, fun h9 => (by first | assumption | omega)⟩)
  try simp only [nz] at hs_72
  iterate 5 refine .O ?_
  refine .P2 ?_
  refine .nil (.seq (.cond_false rfl (.skip ?_)))
  exact .J (⟨by omega, by omega, by omega, fun h9 => (by first | assumption | omega)⟩)
 refine .seq (.seq (.region (.F fa50_1 ?_)))
 refine .L ag32 ?_
 refine .G (ln32 ..) ?_
 refine .P ?_
 refine .nil (.seq (.block ?_))
 refine .swap (Pick.perm (.tail (.tail .one))) (.loop (α := Nat × Prs × (List MapEntry × Nat)) (fun q => [(0, ptr bs), (7, ptr b7), (8, ptr b8), (81, .slice aeX x_.elems.length ceX), (82, .int .i64 (Int.ofNat (x_.elems.length))), (83, .int .i64 (Int.ofNat (q.1)))]) (fun q => [(bm, .map q.2.2.1 q.2.2.2), (b8, .cells [.int .i64 y_.kind, .slice aeY y_.elems.length ceY, .string y_.name, .slice afY y_.fields.length cfY, .slice aaY y_.arms.length caY] 50 false .plain none), (b7, .cells [.int .i64 x_.kind, .slice aeX x_.elems.length ceX, .string x_.name, .slice afX x_.fields.length cfX, .slice aaX x_.arms.length caX] 50 false .plain none)]) (fun q => q.1 ≤ x_.elems.length ∧ RowA l ((a, b_) :: M) q.2.1 (ElsU (InM q.2.1) x_.elems y_.elems q.1) ∧ MetA q.2.1 q.2.2) (fun q => x_.elems.length - q.1) (0, ((a, b_) :: M), (es1, c1)) ⟨Nat.zero_le _, RowA.init (fun _ _ _ h => absurd h (Nat.not_lt_zero _)), hM0⟩ ⟨rfl, rfl, rfl, rfl, rfl, rfl, trivial⟩ (.refl _) (fun q hq0 => ?_))
 obtain ⟨i, M1, x1⟩ := q
 obtain ⟨hi, hR, hM1⟩ := hq0
 simp only at hi hR hM1
 have hB1 := hR.bnd hB0
 have hu1 := Nat.lt_of_le_of_lt (unmet_le (n := l.length) hR.grown) hn0
 refine .seq (.region (.P ?_))
 refine .nil (.seq (.seq (.cond rfl (fun ht84 => ?_) fun ht84 => ?_)))
 ·try simp only [nz] at ht84
  have hltE : i < x_.elems.length := by omega
  obtain ⟨p0, hp0⟩ := gx hltE
  obtain ⟨bE, offE, csE, elE, gE, mdE, mateE, rfl, ⟨hbE, hhE⟩, hleE, hcE⟩ := so heX hltE
  have hrp := hcE i p0 hp0
  have hltG : i < y_.elems.length := by have := hhd.2.1; omega
  obtain ⟨q0, hq0_⟩ := gx hltG
  obtain ⟨bG, offG, csG, elG, gG, mdG, mateG, rfl, ⟨hbG, hhG⟩, hleG, hcG⟩ := so heY hltG
  have hrq := hcG i q0 hq0_
  obtain ⟨p, rfl, hpl⟩ := parts_in (hsnd a x_ hx_) (parts_elem hp0)
  obtain ⟨q, rfl, hql⟩ := parts_in (hsnd b_ y_ hy_) (parts_elem hq0_)
  refine .skip (.seq (.seq (.block (.seq (.region (.P2 ?_))))))
  refine .nil (.seq (.seq ?_))
  refine .D [(15, 0), (15, 0), (3, 2), (15, 0), (15, 14), (3, 30), (15, 0), (3, 64), (15, 0), (15, 448), (3, 960), (7, 2047), (15, 4095)] (by kernel_rfl) (by kernel_rfl) (fun base hbase hB => ?_)
  refine .P ?_
  refine .F fa50_1 ?_
  refine .J ag32 ?_
  refine .P ?_
  refine .K underlying32 sz3 ?_
  refine .M ag3 (Off.sees rfl rfl _ _ ⟨hbE, hhE⟩) (cell_of_take hrp (k := 0) rfl) ?_
  refine .F fa50_1 ?_
  refine .J ag32 ?_
  refine .P ?_
  refine .K underlying32 sz3 ?_
  refine .M ag3 (Off.sees rfl rfl _ _ ⟨hbG, hhG⟩) (cell_of_take hrq (k := 0) rfl) ?_
  refine .callc (fun y : CmpY => EqA l M1 p q y.1 ∧ MetA y.1.2 y.2) (fun y => .bool y.1.1) (fun y => [(bm, .map y.2.1 y.2.2)]) .one rfl rfl (by kernel_rfl) (by kernel_rfl) rfl rfl rfl rfl rfl rfl (fun m2 g0 g2 gb gr => ih p q hpl hql m2 x1 M1 g0 g2 hM1 hB1 (hp.mono gb) hu1) (fun y hy => ?_)
  refine .p rfl rfl rfl rfl rfl (.of (.nil (.seq (.cond rfl (fun ht98 => ?_) fun ht98 => ?_))))
  ·obtain ⟨hy, hyM⟩ := hy
   have hyf : y.1.1 = false := by cases h_ : y.1.1 with | false => rfl | true => rw [h_] at ht98; cases ht98
   refine .seq (.region (.P ?_))
   refine .nil (.seq (.ret (.blk (.seq (.loop (.blk (.seq ?_)))))))
   exact .end_ rfl rfl (fun m hm => ⟨((false, y.1.2), y.2), ⟨EqA.stop hx_ hy_ hR hy.grown hy.bnd fun h => hy.no hyf (((h.ty hsnd hx_ hy_).els.2 i _ _ hp0 hq0_).nat), hyM⟩, rfl, hm.sub (.cons_cons _ (List.nil_sublist _))⟩)
  obtain ⟨hy, hyM⟩ := hy
  have hyt : y.1.1 = true := by cases h_ : y.1.1 with | true => rfl | false => rw [h_] at ht98; cases ht98
  refine .skip (.blk (.seq (.region (.P ?_))))
  refine .W 99 i ?_
  refine .P ?_
  refine .nil ?_
  exact .loop (i + 1, y.1.2, y.2) ⟨by omega, hR.more hy hyt (hR.all.succ hy.grown hp0 hq0_ ⟨p, q, rfl, rfl, (hy.yes hyt).1⟩), hyM⟩ (by show x_.elems.length - (i + 1) < x_.elems.length - i; omega) ⟨rfl, rfl, rfl, rfl, rfl, rfl, trivial⟩ (.refl _)
 try simp only [nz] at ht84
 have hels : ElsR (InM M1) x_.elems y_.elems := hR.all.all hhd.2.1 (by omega)
 refine .exit (.seq (.loop (.here (.seq (.seq (.seq (.region (.F fa50_0 ?_))))))))
 refine .L ag3 ?_
 refine .P ?_
 refine .nil (.seq (.cond rfl (fun ht102 => ?_) fun ht102 => ?_))
 ·try simp only [nz] at ht102
  have hk13 : x_.kind = 13 := by omega
  refine .seq (.region (.P ?_))
  refine .F fa50_3 ?_
  refine .L ag47 ?_
  refine .F fa50_3 ?_
  refine .L ag47 ?_
  refine .callc (fun y : CmpY => RelA l M1 (fun R => MemR R x_.fields y_.fields) y.1 ∧ MetA y.1.2 y.2) (fun y => .bool y.1.1) (fun y => [(bm, .map y.2.1 y.2.2)]) .one rfl rfl rfl rfl rfl rfl (fun m2 g1 g2 => cmembers_ok (x0 := x1) g1.lole' g2 hM1 hB1 (hp.mono (Off.kr g1.kr)) hu1 ih (hfSX.mono (Off.kr g1.kr) fun _ _ h => h) (hfSY.mono (Off.kr g1.kr) fun _ _ h => h) (parts_ok_fld (hsnd a x_ hx_) fun f_ hf_ => parts_fldm hf_) (parts_ok_fld (hsnd b_ y_ hy_) fun f_ hf_ => parts_fldm hf_) (nodup_fields (hWl.all b_ y_ hy_))) (fun y hy => ?_)
  refine .P ?_
  refine .nil (.seq (.ret (.seq ?_)))
  exact .end_ rfl rfl (fun m hm => ⟨y, ⟨EqA.mods hsnd hx_ hy_ hhd hk13 (single_zero (hWl.all a x_ hx_)).1 (single_zero (hWl.all b_ y_ hy_)).1 hR hels hy.1, hy.2⟩, rfl, hm.sub (.cons_cons _ (List.nil_sublist _))⟩)
 try simp only [nz] at ht102
 have hk13 : x_.kind ≠ 13 := by omega
 refine .skip (.seq (.seq (.seq (.region (.P ?_)))))
 refine .F fa50_3 ?_
 refine .L ag47 ?_
 refine .F fa50_3 ?_
 refine .L ag47 ?_
 refine .callc (fun y : CmpY => RelA l M1 (fun R => FldsR R x_.fields y_.fields) y.1 ∧ MetA y.1.2 y.2) (fun y => .bool y.1.1) (fun y => [(bm, .map y.2.1 y.2.2)]) .one rfl rfl rfl rfl rfl rfl (fun m2 g1 g2 => cfields_ok (x0 := x1) g1.lole' g2 hM1 hB1 (hp.mono (Off.kr g1.kr)) hu1 ih (hfSX.mono (Off.kr g1.kr) fun _ _ h => h) (hfSY.mono (Off.kr g1.kr) fun _ _ h => h) (parts_ok_fld (hsnd a x_ hx_) fun f_ hf_ => parts_fldm hf_) (parts_ok_fld (hsnd b_ y_ hy_) fun f_ hf_ => parts_fldm hf_)) (fun y hy => ?_)
 refine .P ?_
 refine .nil (.seq (.cond rfl (fun ht115 => ?_) fun ht115 => ?_))
 ·obtain ⟨hy, hyM⟩ := hy
  have hyf : y.1.1 = false := by cases h_ : y.1.1 with | false => rfl | true => rw [h_] at ht115; cases ht115
  refine .seq (.region (.P ?_))
  refine .nil (.seq (.ret (.seq ?_)))
  exact .end_ rfl rfl (fun m hm => ⟨((false, y.1.2), y.2), ⟨EqA.stop hx_ hy_ hR hy.grown hy.bnd fun h => hy.no hyf (by have := (h.ty hsnd hx_ hy_).flds; rw [if_neg hk13] at this; exact this), hyM⟩, rfl, hm.sub (.cons_cons _ (List.nil_sublist _))⟩)
 obtain ⟨hy, hyM⟩ := hy
 have hyt : y.1.1 = true := by cases h_ : y.1.1 with | true => rfl | false => rw [h_] at ht115; cases ht115
 refine .skip (.seq (.seq (.seq (.region (.F fa50_4 ?_)))))
 refine .L ag48 ?_
 refine .G (ln48 ..) ?_
 refine .P ?_
 refine .nil (.seq (.block ?_))
 have hR0 := hR.moreR hy hyt (P2 := ElsR (InM y.1.2) x_.elems y_.elems ∧ FldsR (InM y.1.2) x_.fields y_.fields) ⟨hels.mono (InM.mono hy.grown), (hy.yes hyt).2⟩
 have hM0 := hyM
 have hB0 := hR0.bnd (hBd.cons ha hb_)
 have hn0 := Nat.lt_of_le_of_lt (unmet_le (n := l.length) hR0.grown) hn0
 refine .loop (α := Nat × Prs × (List MapEntry × Nat)) (fun q => [(0, ptr bs), (7, ptr b7), (8, ptr b8), (117, .slice aaX x_.arms.length caX), (118, .int .i64 (Int.ofNat (x_.arms.length))), (119, .int .i64 (Int.ofNat (q.1)))]) (fun q => [(bm, .map q.2.2.1 q.2.2.2), (b8, .cells [.int .i64 y_.kind, .slice aeY y_.elems.length ceY, .string y_.name, .slice afY y_.fields.length cfY, .slice aaY y_.arms.length caY] 50 false .plain none), (b7, .cells [.int .i64 x_.kind, .slice aeX x_.elems.length ceX, .string x_.name, .slice afX x_.fields.length cfX, .slice aaX x_.arms.length caX] 50 false .plain none)]) (fun q => q.1 ≤ x_.arms.length ∧ RowA l y.1.2 q.2.1 (ArmsU (InM q.2.1) x_.arms y_.arms q.1) ∧ MetA q.2.1 q.2.2) (fun q => x_.arms.length - q.1) (0, y.1.2, y.2) ⟨Nat.zero_le _, RowA.init (fun _ _ _ h => absurd h (Nat.not_lt_zero _)), hM0⟩ ⟨rfl, rfl, rfl, rfl, rfl, rfl, trivial⟩ (.refl _) (fun q hq0 => ?_)
 obtain ⟨k, M1, x1⟩ := q
 obtain ⟨hk, hR, hM1⟩ := hq0
 simp only at hk hR hM1
 have hB1 := hR.bnd hB0
 have hu1 := Nat.lt_of_le_of_lt (unmet_le (n := l.length) hR.grown) hn0
 refine .seq (.region (.P ?_))
 refine .nil (.seq (.seq (.cond rfl (fun ht120 => ?_) fun ht120 => ?_)))
 ·try simp only [nz] at ht120
  have hltU : k < x_.arms.length := by omega
  obtain ⟨u, hu_⟩ := gx hltU
  obtain ⟨bU, offU, csU, elU, gU, mdU, mateU, rfl, ⟨hbU, hhU⟩, hleU, hcU⟩ := so hgX hltU
  have hru := hcU k u hu_
  have hltW : k < y_.arms.length := by have := hhd.2.2.1; omega
  obtain ⟨w, hw_⟩ := gx hltW
  obtain ⟨bW, offW, csW, elW, gW, mdW, mateW, rfl, ⟨hbW, hhW⟩, hleW, hcW⟩ := so hgY hltW
  have hrw := hcW k w hw_
  obtain ⟨vu, hru, hfu⟩ := hru
  obtain ⟨vw, hrw, hfw⟩ := hrw
  have hfuS := hfu
  have hfwS := hfw
  obtain ⟨au, cu, rfl, hnu, hfu⟩ := hfu
  obtain ⟨aw, cw, rfl, hnw, hfw⟩ := hfw
  refine .skip (.seq (.seq (.block (.seq (.region (.P2 ?_))))))
  refine .nil (.seq (.seq ?_))
  refine .D [(15, 0), (3, 1), (15, 0), (15, 7), (15, 15), (3, 31), (15, 0), (3, 64), (15, 0), (15, 448), (15, 960), (3, 1984), (15, 4095), (15, 8191), (15, 16383), (15, 16383), (3, 49151), (15, 16383), (15, 245759), (15, 507903), (3, 1032191), (15, 16383), (3, 2113535), (15, 16383), (15, 14696447), (15, 31473663), (3, 65028095), (7, 134217727), (15, 268435455), (15, 536870911)] (by kernel_rfl) (by kernel_rfl) (fun base hbase hB => ?_)
  refine .F fa50_4 ?_
  refine .J ag48 ?_
  refine .P ?_
  refine .K underlying48 sz55 ?_
  refine .F fa55_0 ?_
  refine .M ag9 (Off.sees rfl rfl _ _ ⟨hbU, hhU⟩) (cell_of_take hru (k := 0) rfl) ?_
  refine .F fa50_4 ?_
  refine .J ag48 ?_
  refine .P ?_
  refine .K underlying48 sz55 ?_
  refine .F fa55_0 ?_
  refine .M ag9 (Off.sees rfl rfl _ _ ⟨hbW, hhW⟩) (cell_of_take hrw (k := 0) rfl) ?_
  iterate 2 refine .P ?_
  refine .splitB 135 rfl (fun hs_135 => ?_) (fun hs_135 => ?_)
  ·try simp only [nz] at hs_135
   have hnn : u.name ≠ w.name := by assumption
   iterate 15 refine .O ?_
   refine .P ?_
   refine .nil (.seq (.cond_true rfl (.seq (.region (.P ?_)))))
   refine .nil (.seq (.ret (.blk (.seq (.loop (.blk (.seq ?_)))))))
   exact .end_ rfl rfl (fun m hm => ⟨((false, M1), x1), ⟨EqA.stop hx_ hy_ hR0 hR.grown hR.bnd fun h => hnn ((h.ty hsnd hx_ hy_).arms.2 k u w hu_ hw_).1, hM1⟩, rfl, hm.sub (.cons_cons _ (List.nil_sublist _))⟩)
  try simp only [nz] at hs_135
  have hnn : u.name = w.name := by assumption
  refine .P ?_
  refine .F fa50_4 ?_
  refine .J ag48 ?_
  refine .P ?_
  refine .K underlying48 sz55 ?_
  refine .F fa55_1 ?_
  refine .M ag47 (Off.sees rfl rfl _ _ ⟨hbU, hhU⟩) (cell_of_take hru (k := 1) rfl) ?_
  refine .F fa50_4 ?_
  refine .J ag48 ?_
  refine .P ?_
  refine .K underlying48 sz55 ?_
  refine .F fa55_1 ?_
  refine .M ag47 (Off.sees rfl rfl _ _ ⟨hbW, hhW⟩) (cell_of_take hrw (k := 1) rfl) ?_
  refine .callc (fun y : CmpY => RelA l M1 (fun R => FldsR R u.fields w.fields) y.1 ∧ MetA y.1.2 y.2) (fun y => .bool y.1.1) (fun y => [(bm, .map y.2.1 y.2.2)]) .one rfl rfl (by kernel_rfl) (by kernel_rfl) rfl rfl rfl rfl rfl rfl (fun m2 g0 g2 gb gr => cfields_ok (x0 := x1) g0 g2 hM1 hB1 (hp.mono gb) hu1 ih (hfuS.mono gb fun _ _ h => h) (hfwS.mono gb fun _ _ h => h) (parts_ok_fld (hsnd a x_ hx_) fun f_ hf_ => parts_armf (List.mem_of_getElem? hu_) hf_) (parts_ok_fld (hsnd b_ y_ hy_) fun f_ hf_ => parts_armf (List.mem_of_getElem? hw_) hf_)) (fun y hy => ?_)
  refine .p rfl rfl rfl rfl rfl (.p rfl rfl rfl rfl rfl (.of (.nil (.seq (.cond rfl (fun ht151 => ?_) fun ht151 => ?_)))))
  ·obtain ⟨hy, hyM⟩ := hy
   have hyf : y.1.1 = false := by cases h_ : y.1.1 with | false => rfl | true => rw [h_] at ht151; cases ht151
   refine .seq (.region (.P ?_))
   refine .nil (.seq (.ret (.blk (.seq (.loop (.blk (.seq ?_)))))))
   exact .end_ rfl rfl (fun m hm => ⟨((false, y.1.2), y.2), ⟨EqA.stop hx_ hy_ hR0 (hR.grown.trans hy.grown) (fun h => hy.bnd (hR.bnd h)) fun h => hy.no hyf ((h.ty hsnd hx_ hy_).arms.2 k u w hu_ hw_).2, hyM⟩, rfl, hm.sub (.cons_cons _ (List.nil_sublist _))⟩)
  obtain ⟨hy, hyM⟩ := hy
  have hyt : y.1.1 = true := by cases h_ : y.1.1 with | true => rfl | false => rw [h_] at ht151; cases ht151
  refine .skip (.blk (.seq (.region (.P ?_))))
  refine .W 152 k ?_
  refine .P ?_
  refine .nil ?_
  exact .loop (k + 1, y.1.2, y.2) ⟨by omega, hR.moreR hy hyt (hR.all.succ hy.grown hu_ hw_ hnn (hy.yes hyt).2), hyM⟩ (by show x_.arms.length - (k + 1) < x_.arms.length - k; omega) ⟨rfl, rfl, rfl, rfl, rfl, rfl, trivial⟩ (.refl _)
 try simp only [nz] at ht120
 refine .exit (.seq (.loop (.here (.seq (.seq (.region (.P ?_)))))))
 refine .nil (.seq (.ret ?_))
 exact .end_ rfl rfl (fun m hm => ⟨((true, M1), x1), ⟨EqA.close (P := True) hx_ hy_ ⟨hR0.grown.trans hR.grown, fun h => hR.bnd (hR0.bnd h), hR0.closed.trans hR.closed hR.grown, trivial⟩ ⟨hhd, hR0.all.1.mono (InM.mono hR.grown), by rw [if_neg hk13]; exact hR0.all.2.mono (InM.mono hR.grown), hR.all.all hhd.2.2.1 (by omega)⟩, hM1⟩, rfl, hm.sub (.cons_cons _ (List.nil_sublist _))⟩)

/-! What is asked about two types. -/
theorem equal_all {l : List Ty} {al : Option Addr} {cl bs bm : Nat} (hW : Well l) : ∀ (n a b : Nat), a < l.length → b < l.length → EqualC prog l al cl bs bm n a b
 | 0, _, _, _, _ => fun _ _ _ _ _ _ _ _ hlt => absurd hlt (Nat.not_lt_zero _)
 | n + 1, _, _, ha, hb => fun _ _ _ hm hk hM hB hp hn => cequal_step (n := n) hm hk hM hB hp hn hW ha hb (equal_all hW n)
theorem Bnd.nil (l : List Ty) : Bnd l [] := fun p hp => by cases hp
theorem Sl.two {b c : Nat} {t u : Int} {el : TypeId} {g : Bool} {md : CMode} {mate : Option Nat} (hc : 2 ≤ c := by decide) : Sl (InH [(b, .cells [.int .i64 t, .int .i64 u] el g md mate)]) 1 RInt [t, u] (.slice (some ⟨b, 0, none⟩) 2 c) :=
 ⟨some ⟨b, 0, none⟩, c, rfl, ⟨by simp, hc⟩, .inr ⟨b, 0, _, el, g, md, mate, rfl, List.mem_cons_self, by simp, fun i x hx => by
  match i with
  | 0 => cases hx; rfl
  | 1 => cases hx; rfl
  | i + 2 => cases hx⟩⟩
theorem AskP.at2 {l : List Ty} {t u : Int} (h : AskP l [t, u] 0) : ∃ p q : Nat, t = Int.ofNat p ∧ u = Int.ofNat q ∧ p < l.length ∧ q < l.length := by
 have h1 := h.well.2 0 t rfl
 have h2 := h.well.2 1 u rfl
 obtain ⟨p, rfl⟩ := Int.eq_ofNat_of_zero_le h1.1
 obtain ⟨q, rfl⟩ := Int.eq_ofNat_of_zero_le h2.1
 exact ⟨p, q, rfl, rfl, by omega, by omega⟩
/-- An error, or a fact on two types. -/
def TwoP (F : Nat → Nat → Prop) (l : List Ty) (t u : Int) (x : Bool × Int) : Prop := AskP l [t, u] x.2 ∧ (x.2 ≠ 0 → x.1 = false) ∧ (x.2 = 0 → ∃ p q : Nat, t = Int.ofNat p ∧ u = Int.ofNat q ∧ (x.1 = true ↔ F p q))
theorem TwoP.bad {F : Nat → Nat → Prop} {l : List Ty} {t u e : Int} (h : AskP l [t, u] e) (he : e ≠ 0) : TwoP F l t u (false, e) := ⟨h, fun _ => rfl, fun h0 => absurd h0 he⟩
theorem TwoP.good {F : Nat → Nat → Prop} {l : List Ty} {p q : Nat} {z : Bool} (h : AskP l [Int.ofNat p, Int.ofNat q] 0) (hz : z = true ↔ F p q) : TwoP F l (Int.ofNat p) (Int.ofNat q) (z, 0) := ⟨h, fun h0 => absurd rfl h0, fun _ => ⟨p, q, rfl, rfl, hz⟩⟩
theorem TwoP.err {F : Nat → Nat → Prop} {l : List Ty} {t u e : Int} {x : Bool × Int} (h : TwoP F l t u x) (he : AskP l [t, u] e) : x.2 = e := h.1.uniq he
theorem equal_ok {l : List Ty} {vl : Value} {a b_ : Nat} {m : AW} (hm : m.lo ≤ m.next) (hlS : Sl (Mem m) 5 (RTy (Mem m)) l vl) (hWl : Well l) (ha : a < l.length) (hb_ : b_ < l.length) : Fc prog 64 [vl, .int .i64 (Int.ofNat (a)), .int .i64 (Int.ofNat (b_))] m fun v m' => ∃ z : Bool, (z = true ↔ EqT l a b_) ∧ v = .bool z ∧ Ext m m' ∧ News m m' [] := by
 have hlS0 := hlS
 obtain ⟨al, cl, rfl, hnl, hl⟩ := hlS
 refine Fc.body (c := _) func64 rfl rfl rfl rfl hm ?_
 refine .seq (.region (.P ?_))
 refine .nil (.seq (.seq (.region (.P ?_))))
 refine .makeMap rfl rfl rfl rfl (fun b9 hb9 => ?_)
 refine .p (v := .agg ⟨[.slice al l.length cl, .map (some b9)]⟩) rfl rfl rfl (by kernel_rfl) ?_
 refine .box rfl rfl rfl rfl rfl (fun b11 hb11 => ?_)
 refine .P ?_
 refine .nil (.seq (.seq (.region (.P3 ?_))))
 refine .callc (fun y : CmpY => EqA l [] a b_ y.1 ∧ MetA y.1.2 y.2) (fun y => .bool y.1.1) (fun y => [(b9, .map y.2.1 y.2.2)]) (.tail .one) rfl rfl rfl rfl rfl rfl (fun m2 g1 g2 => equal_all hWl _ a b_ ha hb_ m2 ([], 0) [] g1.lole' g2 (MetA.nil 0) (Bnd.nil l) ⟨Off.known g1 (.head _), hlS0.mono (Off.old g1) (RTy.mono (Off.old g1))⟩ (Nat.lt_succ_self _)) (fun y hy => ?_)
 refine .P ?_
 refine .nil (.seq (.ret ?_))
 exact .end_ rfl rfl (fun m hm => ⟨y.1.1, hy.1.top, rfl, hm.ext, News.nil _ _⟩)
theorem Equal_ok {l : List Ty} {vl : Value} {t u : Int} {m : AW} (hm : m.lo ≤ m.next) (hlS : Sl (Mem m) 5 (RTy (Mem m)) l vl) (hwl : ∀ (i : Nat) (a : Ty), l[i]? = some a → FewT a) (hn14 : l.length ≤ 14) : Fc prog 20 [vl, .int .i64 t, .int .i64 u] m fun v m' => ∃ x : Bool × Int, TwoP (EqT l) l t u x ∧ v = .tuple ⟨[.bool x.1, .int .i64 x.2]⟩ ∧ Ext m m' ∧ News m m' [] := by
 have hlS0 := hlS
 obtain ⟨al, cl, rfl, hnl, hl⟩ := hlS
 refine Fc.body (c := _) func20 rfl rfl rfl rfl hm ?_
 refine .seq (.region (.P2 ?_))
 refine .nil (.seq (.seq (.seq (.region (.P3 ?_)))))
 refine .buildSlice rfl rfl rfl rfl rfl (bs32_2 ..) (fun b12 hb12 => ?_)
 refine .calln _ _ _ rfl rfl rfl rfl rfl rfl (fun m hm => asked_ok hm.lole (hlS0.mono (Mem.kr hm) (RTy.mono (Mem.kr hm))) hwl hn14 ((Sl.two (b := b12) (c := 2) (el := 3) (g := false) (md := .plain) (mate := none)).mono (InH.kr (l := [(b12, .cells [.int .i64 t, .int .i64 u] 3 false .plain none)]) hm (fun p_ hp_ => by rw [List.mem_singleton.1 hp_]; exact List.mem_cons_self)) fun _ _ h => h)) (fun e he => ?_)
 refine .P ?_
 refine .nil (.seq (.seq (.region (.P2 ?_))))
 refine .nil (.seq (.cond rfl (fun ht15 => ?_) fun ht15 => ?_))
 ·try simp only [nz] at ht15
  have hne : e ≠ 0 := by omega
  refine .seq (.region (.P3 ?_))
  refine .nil (.seq (.ret (.seq ?_)))
  exact .end_ rfl rfl (fun m hm => ⟨(false, e), TwoP.bad he hne, rfl, hm.ext, News.nil _ _⟩)
 try simp only [nz] at ht15
 have he0 : e = 0 := by omega
 subst he0
 obtain ⟨p, q, rfl, rfl, hp, hq⟩ := he.at2
 have hFi := he.fine
 have hWl := hFi.well
 refine .skip (.seq (.seq (.region (.P3 ?_))))
 refine .calln _ _ _ rfl rfl rfl rfl rfl rfl (fun m hm => equal_ok hm.lole (hlS0.mono (Mem.kr hm) (RTy.mono (Mem.kr hm))) hWl hp hq) (fun z hz => ?_)
 refine .P2 ?_
 refine .nil (.seq (.ret ?_))
 exact .end_ rfl rfl (fun m hm => ⟨(z, 0), TwoP.good he hz, rfl, hm.ext, News.nil _ _⟩)

/-! The reference's comparison: the pairs that were met lie in a slice. -/
/-- The members or fields are compared last. -/
theorem EqA.last {l : List Ty} {M M1 : Prs} {a b : Nat} {x y : Ty} {P : Prop} {z : Bool × Prs} {Py : (Nat → Nat → Prop) → Prop} (hb8 : Sound8 l) (hx : l[a]? = some x) (hy : l[b]? = some y) (hh : HeadR x y) (hR : RowA l ((a, b) :: M) M1 P) (he : ElsR (InM M1) x.elems y.elems) (hA : ArmsR (InM M1) x.arms y.arms) (hz : RelA l M1 Py z) (hPy : ∀ R, Py R ↔ (if x.kind = 13 then MemR R x.fields y.fields else FldsR R x.fields y.fields)) : EqA l M a b z := by
 obtain ⟨zb, M2⟩ := z
 cases zb with
 | true =>
  obtain ⟨h1, h2⟩ := hz.yes rfl
  exact EqA.close (P := True) hx hy ⟨hR.grown.trans hz.grown, fun h => hz.bnd (hR.bnd h), hR.closed.trans h1 hz.grown, trivial⟩ ⟨hh, he.mono (InM.mono hz.grown), (hPy _).1 h2, hA.mono (InM.mono hz.grown)⟩
 | false =>
  refine EqA.fail (fun p hp => hz.grown _ (hR.grown _ (List.mem_cons_of_mem _ hp))) (fun hM => hz.bnd (hR.bnd fun p hp => ?_)) fun h => hz.no rfl ((hPy _).2 (h.ty hb8 hx hy).flds)
  rcases List.mem_cons.1 hp with rfl | hp
  ·exact ⟨(List.getElem?_eq_some_iff.1 hx).1, (List.getElem?_eq_some_iff.1 hy).1⟩
  exact hM p hp
/-! Fields that are sorted by their names. -/
theorem lt_irrefl : ∀ l : List UInt8, ltBytes l l = false
 | [] => rfl
 | a :: l => by
  unfold ltBytes
  rw [nblt, nbeq, decide_eq_false (Nat.lt_irrefl _), decide_eq_true rfl]
  exact lt_irrefl l
theorem lt_total : ∀ a b : List UInt8, ltBytes a b = false → ltBytes b a = false → a = b
 | [], [], _, _ => rfl
 | [], _ :: _, h, _ => by cases h
 | _ :: _, [], _, h => by cases h
 | a :: x, b :: y, h1, h2 => by
  unfold ltBytes at h1 h2
  rw [nblt, nbeq] at h1 h2
  by_cases e : a.toNat < b.toNat
  ·rw [decide_eq_true e] at h1
   cases h1
  by_cases e2 : b.toNat < a.toNat
  ·rw [decide_eq_true e2] at h2
   cases h2
  have e3 : a.toNat = b.toNat := by omega
  rw [decide_eq_false e, decide_eq_true e3] at h1
  rw [decide_eq_false e2, decide_eq_true e3.symm] at h2
  rw [lt_total x y h1 h2, UInt8.toNat_inj.1 e3]
theorem lt_trans : ∀ a b c : List UInt8, ltBytes a b = true → ltBytes b c = true → ltBytes a c = true
 | [], [], [], h, _ => h
 | [], _ :: _, [], _, h => by cases h
 | [], [], _ :: _, h, _ => by cases h
 | [], _ :: _, _ :: _, _, _ => rfl
 | _ :: _, [], _, h, _ => by cases h
 | _ :: _, _ :: _, [], _, h => by cases h
 | a :: x, b :: y, c :: z, h1, h2 => by
  unfold ltBytes at h1 h2 ⊢
  rw [nblt, nbeq] at h1 h2 ⊢
  by_cases e : a.toNat < c.toNat
  ·rw [decide_eq_true e]
   rfl
  by_cases e1 : a.toNat < b.toNat
  ·by_cases e2 : b.toNat < c.toNat
   ·omega
   rw [decide_eq_false e2] at h2
   by_cases e3 : b.toNat = c.toNat
   ·omega
   rw [decide_eq_false e3] at h2
   cases h2
  rw [decide_eq_false e1] at h1
  by_cases e3 : a.toNat = b.toNat
  ·rw [decide_eq_true e3] at h1
   by_cases e2 : b.toNat < c.toNat
   ·omega
   rw [decide_eq_false e2] at h2
   by_cases e4 : b.toNat = c.toNat
   ·rw [decide_eq_true e4] at h2
    rw [decide_eq_false e, decide_eq_true (e3.trans e4)]
    exact lt_trans x y z h1 h2
   rw [decide_eq_false e4] at h2
   cases h2
  rw [decide_eq_false e3] at h1
  cases h1
def lessN (a b : ByteArray) : Bool := ltBytes a.data.toList b.data.toList
def insF (f : Fld) : List Fld → List Fld
 | [] => [f]
 | g :: r => if lessN g.name f.name = true then g :: insF f r else f :: g :: r
def sortF (L : List Fld) : List Fld := L.foldl (fun out f => insF f out) []
theorem insF_at {f : Fld} : ∀ {out : List Fld} {k : Nat}, k ≤ out.length → (∀ (j : Nat) g, j < k → out[j]? = some g → lessN g.name f.name = true) → (∀ g, out[k]? = some g → lessN g.name f.name = false) → out.take k ++ [f] ++ out.drop k = insF f out
 | [], k, hk, _, _ => by
  have : k = 0 := by simpa using hk
  subst this
  rfl
 | g :: r, 0, _, _, h2 => by
  unfold insF
  rw [if_neg (by rw [h2 g rfl]; decide)]
  rfl
 | g :: r, k + 1, hk, h1, h2 => by
  unfold insF
  rw [if_pos (h1 0 g (by omega) rfl)]
  have := insF_at (f := f) (out := r) (k := k) (by simpa using hk) (fun j x hj hx => h1 (j + 1) x (by omega) (by simpa using hx)) (fun x hx => h2 x (by simpa using hx))
  rw [← this]
  simp
theorem sortF_snoc (L : List Fld) (f : Fld) : sortF (L ++ [f]) = insF f (sortF L) := by
 unfold sortF
 rw [List.foldl_append]
 rfl
theorem insF_perm (f : Fld) : ∀ out : List Fld, (insF f out).Perm (f :: out)
 | [] => .refl _
 | g :: r => by
  unfold insF
  split
  ·exact ((insF_perm f r).cons g).trans (.swap _ _ _)
  exact .refl _
theorem foldl_perm : ∀ (L out : List Fld), (L.foldl (fun out f => insF f out) out).Perm (L ++ out)
 | [], _ => .refl _
 | f :: L, out => (foldl_perm L (insF f out)).trans (((insF_perm f out).append_left L).trans List.perm_middle)
theorem sortF_perm (L : List Fld) : (sortF L).Perm L := by
 have := foldl_perm L []
 rwa [List.append_nil] at this
def Asc (L : List Fld) : Prop := L.Pairwise fun f g => lessN g.name f.name = false
theorem insF_asc {f : Fld} : ∀ {out : List Fld}, Asc out → Asc (insF f out)
 | [], _ => List.pairwise_singleton _ _
 | g :: r, h => by
  unfold insF
  have h1 := List.pairwise_cons.1 h
  split
  ·rename_i hlt
   refine List.pairwise_cons.2 ⟨fun x hx => ?_, insF_asc h1.2⟩
   rcases List.mem_cons.1 ((insF_perm f r).mem_iff.1 hx) with rfl | hx
   ·cases hb : lessN x.name g.name with
    | false => rfl
    | true =>
     have := lt_trans _ _ _ hlt hb
     rw [lt_irrefl] at this
     cases this
   exact h1.1 x hx
  rename_i hlt
  refine List.pairwise_cons.2 ⟨fun x hx => ?_, h⟩
  have hgf : lessN g.name f.name = false := by simpa using hlt
  rcases List.mem_cons.1 hx with rfl | hx
  ·exact hgf
  cases hb : lessN x.name f.name with
  | false => rfl
  | true =>
   have hxg := h1.1 x hx
   cases hfg : lessN f.name g.name with
   | true =>
    have := lt_trans _ _ _ hb hfg
    rw [show ltBytes x.name.data.toList g.name.data.toList = lessN x.name g.name from rfl, hxg] at this
    cases this
   | false =>
    have he : g.name.data.toList = f.name.data.toList := lt_total _ _ hgf hfg
    unfold lessN at hb hxg
    rw [he, hb] at hxg
    cases hxg
theorem foldl_asc : ∀ (L : List Fld) {out : List Fld}, Asc out → Asc (L.foldl (fun out f => insF f out) out)
 | [], _, h => h
 | _ :: L, _, h => foldl_asc L (insF_asc h)
theorem sortF_asc (L : List Fld) : Asc (sortF L) := foldl_asc L List.Pairwise.nil
theorem fnames_perm {L L' : List Fld} (h : L.Perm L') : (fnames L).Perm (fnames L') := h.map _
theorem asc_names : ∀ {A B : List ByteArray}, A.Pairwise (fun f g => lessN g f = false) → B.Pairwise (fun f g => lessN g f = false) → A.Perm B → A = B
 | [], B, _, _, h => (List.nil_perm.1 h).symm
 | a :: A, [], _, _, h => absurd h.length_eq (by simp)
 | a :: A, b :: B, hA, hB, h => by
  have e : a = b := by
   have h1 := List.pairwise_cons.1 hA
   have h2 := List.pairwise_cons.1 hB
   have hb : b ∈ a :: A := h.mem_iff.2 List.mem_cons_self
   have ha : a ∈ b :: B := h.mem_iff.1 List.mem_cons_self
   rcases List.mem_cons.1 hb with e | hb
   ·exact e.symm
   rcases List.mem_cons.1 ha with e | ha
   ·exact e
   exact bytes_ext (lt_total _ _ (h2.1 a ha) (h1.1 b hb))
  subst e
  rw [asc_names (List.pairwise_cons.1 hA).2 (List.pairwise_cons.1 hB).2 (h.cons_inv)]
theorem Asc.names {L : List Fld} (h : Asc L) : (fnames L).Pairwise (fun f g => lessN g f = false) := List.pairwise_map.2 h
theorem sub_perm : ∀ {A B : List ByteArray}, A.Nodup → (∀ x, x ∈ A → x ∈ B) → A.length = B.length → A.Perm B
 | [], B, _, _, h => by rw [List.eq_nil_of_length_eq_zero h.symm]
 | a :: A, B, hA, hs, hl => by
  obtain ⟨B1, B2, rfl⟩ := List.append_of_mem (hs a List.mem_cons_self)
  have h1 := List.nodup_cons.1 hA
  have := sub_perm (A := A) (B := B1 ++ B2) h1.2 (fun x hx => by
   have := hs x (List.mem_cons_of_mem _ hx)
   simp only [List.mem_append, List.mem_cons] at this ⊢
   rcases this with h | rfl | h
   ·exact .inl h
   ·exact absurd hx h1.1
   exact .inr h) (by simp at hl ⊢; omega)
  exact (this.cons a).trans List.perm_middle.symm
theorem sortF_len (L : List Fld) : (sortF L).length = L.length := (sortF_perm L).length_eq
/-- Sorted members agree one by one if the members agree by their names. -/
theorem sortF_rel {R : Nat → Nat → Prop} {L L' : List Fld} (h1 : (fnames L).Nodup) (h2 : (fnames L').Nodup) : FldsR R (sortF L) (sortF L') ↔ MemR R L L' := by
 constructor
 ·rintro ⟨hl, h⟩
  refine ⟨by rw [← sortF_len L, ← sortF_len L', hl], fun f hf => ?_⟩
  obtain ⟨i, hi⟩ := List.getElem?_of_mem ((sortF_perm L).mem_iff.2 hf)
  obtain ⟨g, hg⟩ : ∃ g, (sortF L')[i]? = some g := ⟨_, List.getElem?_eq_getElem (by have := (List.getElem?_eq_some_iff.1 hi).1; omega)⟩
  obtain ⟨e1, e2⟩ := h i f g hi hg
  exact ⟨g, (sortF_perm L').mem_iff.1 (List.mem_of_getElem? hg), e1.symm, e2⟩
 rintro ⟨hl, h⟩
 have hp : (fnames L).Perm (fnames L') := sub_perm h1 (fun x hx => by
  obtain ⟨f, hf, rfl⟩ := List.mem_map.1 hx
  obtain ⟨g, hg, hn, _⟩ := h f hf
  exact List.mem_map.2 ⟨g, hg, hn⟩) (by simp [fnames, hl])
 have he : fnames (sortF L) = fnames (sortF L') := asc_names (sortF_asc L).names (sortF_asc L').names ((fnames_perm (sortF_perm L)).trans (hp.trans (fnames_perm (sortF_perm L')).symm))
 refine ⟨by rw [sortF_len, sortF_len, hl], fun i f g hf hg => ?_⟩
 have hn : f.name = g.name := by
  have a1 := fnames_get hf
  have a2 := fnames_get hg
  rw [he, a2] at a1
  exact (Option.some.inj a1).symm
 refine ⟨hn, ?_⟩
 obtain ⟨g', k1, k2, k3⟩ := h f ((sortF_perm L).mem_iff.1 (List.mem_of_getElem? hf))
 have := mem_one h2 k1 ((sortF_perm L').mem_iff.1 (List.mem_of_getElem? hg)) (k2.trans hn)
 subst this
 exact k3
theorem Gro.len {g : Gro} {n : Nat} (h : g.Ok n) : ∃ a c, g.V n = .slice a n c := by
 cases g with
 | no =>
  have : n = 0 := h
  subst this
  exact ⟨none, 0, rfl⟩
 | emp b =>
  have : n = 0 := h
  subst this
  exact ⟨_, 0, rfl⟩
 | one b => exact ⟨_, _, rfl⟩
 | two b b0 old => exact ⟨_, _, rfl⟩

/-! Tables whose types were moved. -/
def mvF (n : Nat) (f : Fld) : Fld := ⟨f.name, f.type + Int.ofNat n⟩
def mvA (n : Nat) (a : Arm) : Arm := ⟨a.name, a.fields.map (mvF n)⟩
def mvT (n : Nat) (t : Ty) : Ty := ⟨t.kind, t.elems.map (· + Int.ofNat n), t.name, t.fields.map (mvF n), t.arms.map (mvA n)⟩
/-! A table behind another one. -/
/-! What is asked of two tables. -/
/-! A table among others, its indices moved. -/
structure Emb (l L : List Ty) (k : Nat) : Prop where
 snd : Sound8 l
 at_ : ∀ (u : Nat) (t : Ty), l[u]? = some t → L[k + u]? = some (mvT k t)
section
variable {l L : List Ty} {k : Nat} (e : Emb l L k)
include e
end
def SzE (n k : Nat) (sz sz' : List Int) : Prop := ∀ q, q < n → sz'[k + q]? = sz[q]?
section
variable {n k : Nat} {sz sz' : List Int} (e : SzE n k sz sz')
include e
end
/-! A table with a moved copy of itself. -/
section
variable {l : List Ty} (h : ChkP l 0)
include h
end
theorem AskP.oneE {l : List Ty} {p : Nat} (h : ChkP l 0) (hp : p < l.length) : AskP l [Int.ofNat p] 0 := AskP.ok h fun j t hj ht => by
 obtain ⟨rfl⟩ : j = 0 := by simpa using hj
 cases ht
 exact ⟨Int.natCast_nonneg _, Int.ofNat_lt.2 hp⟩
theorem AskP.twoE {l : List Ty} {p q : Nat} (h : ChkP l 0) (hp : p < l.length) (hq : q < l.length) : AskP l [Int.ofNat p, Int.ofNat q] 0 := AskP.ok h fun j t hj ht => by
 have hj : j < 2 := hj
 obtain rfl | rfl : j = 0 ∨ j = 1 := by omega
 ·cases ht
  exact ⟨Int.natCast_nonneg _, Int.ofNat_lt.2 hp⟩
 cases ht
 exact ⟨Int.natCast_nonneg _, Int.ofNat_lt.2 hq⟩
/-! Equality of types is an equivalence. -/
theorem RI.symm {R R' : Nat → Nat → Prop} (k : ∀ a b, R a b → R' b a) {p q : Int} (h : RI R p q) : RI R' q p := by
 obtain ⟨a, b, h1, h2, h3⟩ := h
 exact ⟨b, a, h2, h1, k a b h3⟩
theorem RI.comp {R R' R2 : Nat → Nat → Prop} (k : ∀ a b c, R a b → R' b c → R2 a c) {p q s : Int} (h : RI R p q) (h' : RI R' q s) : RI R2 p s := by
 obtain ⟨a, b, h1, h2, h3⟩ := h
 obtain ⟨b', c, g1, g2, g3⟩ := h'
 rw [h2] at g1
 cases g1
 exact ⟨a, c, h1, g2, k a b c h3 g3⟩
theorem at_same {α β : Type} {L : List α} {L' : List β} (h : L.length = L'.length) {i : Nat} {x : α} (hx : L[i]? = some x) : ∃ y, L'[i]? = some y := ⟨_, List.getElem?_eq_getElem (by have := (List.getElem?_eq_some_iff.1 hx).1; omega)⟩
theorem FldsR.symm {R R' : Nat → Nat → Prop} (k : ∀ a b, R a b → R' b a) {L L' : List Fld} (h : FldsR R L L') : FldsR R' L' L := ⟨h.1.symm, fun i f g hf hg => ⟨(h.2 i g f hg hf).1.symm, (h.2 i g f hg hf).2.symm k⟩⟩
theorem FldsR.comp {R R' R2 : Nat → Nat → Prop} (k : ∀ a b c, R a b → R' b c → R2 a c) {L L' L2 : List Fld} (h : FldsR R L L') (h' : FldsR R' L' L2) : FldsR R2 L L2 := ⟨h.1.trans h'.1, fun i f g hf hg => by
 obtain ⟨u, hu⟩ := at_same h.1 hf
 exact ⟨(h.2 i f u hf hu).1.trans (h'.2 i u g hu hg).1, (h.2 i f u hf hu).2.comp k (h'.2 i u g hu hg).2⟩⟩
theorem nodup_at {L : List Fld} (h : (fnames L).Nodup) {f g : Fld} (hf : f ∈ L) (hg : g ∈ L) (hn : f.name = g.name) : f = g := by
 unfold fnames at h
 induction L with
 | nil => cases hf
 | cons x L ih =>
  rw [List.map_cons, List.nodup_cons] at h
  rcases List.mem_cons.1 hf with e | hf2
  ·rcases List.mem_cons.1 hg with e' | hg2
   ·exact e.trans e'.symm
   exact absurd (List.mem_map.2 ⟨g, hg2, hn.symm.trans (congrArg _ e)⟩) h.1
  rcases List.mem_cons.1 hg with e' | hg2
  ·exact absurd (List.mem_map.2 ⟨f, hf2, hn.trans (congrArg _ e')⟩) h.1
  exact ih h.2 hf2 hg2
theorem nodup_sub {α : Type} : ∀ {L L' : List α}, L.Nodup → (∀ x, x ∈ L → x ∈ L') → L.length ≤ L'.length
 | [], _, _, _ => Nat.zero_le _
 | x :: L, L', h, hs => by
  rw [List.nodup_cons] at h
  obtain ⟨A, B, rfl⟩ := List.append_of_mem (hs x List.mem_cons_self)
  have := nodup_sub (L' := A ++ B) h.2 fun y hy => by
   have hne : y ≠ x := fun e => h.1 (e ▸ hy)
   have := hs y (List.mem_cons_of_mem _ hy)
   simp only [List.mem_append, List.mem_cons] at this ⊢
   rcases this with h | h | h
   ·exact .inl h
   ·exact absurd h hne
   exact .inr h
  simp only [List.length_append, List.length_cons] at this ⊢
  omega
/-- Members that agree one way, without two of a name, agree the other way too. -/
theorem MemR.symm {R R' : Nat → Nat → Prop} (k : ∀ a b, R a b → R' b a) {L L' : List Fld} (hL : (fnames L).Nodup) (hL' : (fnames L').Nodup) (h : MemR R L L') : MemR R' L' L := ⟨h.1.symm, fun g hg => by
 have hin : g.name ∈ fnames L := by
  apply Classical.byContradiction
  intro hn
  have h1 : ∀ x, x ∈ g.name :: fnames L → x ∈ fnames L' := fun x hx => by
   rcases List.mem_cons.1 hx with rfl | hx
   ·exact List.mem_map.2 ⟨g, hg, rfl⟩
   obtain ⟨f, hf, rfl⟩ := List.mem_map.1 hx
   obtain ⟨g', hg', e, _⟩ := h.2 f hf
   exact List.mem_map.2 ⟨g', hg', e⟩
  have := nodup_sub (List.nodup_cons.2 ⟨hn, hL⟩) h1
  simp only [List.length_cons, fnames, List.length_map] at this
  have := h.1
  omega
 obtain ⟨f, hf, hfn⟩ := List.mem_map.1 hin
 obtain ⟨g', hg', e, hr⟩ := h.2 f hf
 have := nodup_at hL' hg' hg (e.trans hfn)
 subst this
 exact ⟨f, hf, hfn, hr.symm k⟩⟩
theorem MemR.comp {R R' R2 : Nat → Nat → Prop} (k : ∀ a b c, R a b → R' b c → R2 a c) {L L' L2 : List Fld} (h : MemR R L L') (h' : MemR R' L' L2) : MemR R2 L L2 := ⟨h.1.trans h'.1, fun f hf => by
 obtain ⟨g, hg, e, hr⟩ := h.2 f hf
 obtain ⟨u, hu, e', hr'⟩ := h'.2 g hg
 exact ⟨u, hu, e'.trans e, hr.comp k hr'⟩⟩
theorem ArmsR.symm {R R' : Nat → Nat → Prop} (k : ∀ a b, R a b → R' b a) {L L' : List Arm} (h : ArmsR R L L') : ArmsR R' L' L := ⟨h.1.symm, fun i f g hf hg => ⟨(h.2 i g f hg hf).1.symm, (h.2 i g f hg hf).2.symm k⟩⟩
theorem ArmsR.comp {R R' R2 : Nat → Nat → Prop} (k : ∀ a b c, R a b → R' b c → R2 a c) {L L' L2 : List Arm} (h : ArmsR R L L') (h' : ArmsR R' L' L2) : ArmsR R2 L L2 := ⟨h.1.trans h'.1, fun i f g hf hg => by
 obtain ⟨u, hu⟩ := at_same h.1 hf
 exact ⟨(h.2 i f u hf hu).1.trans (h'.2 i u g hu hg).1, (h.2 i f u hf hu).2.comp k (h'.2 i u g hu hg).2⟩⟩
theorem TyR.symm {R R' : Nat → Nat → Prop} (k : ∀ a b, R a b → R' b a) {x y : Ty} (hx : (fnames x.fields).Nodup) (hy : (fnames y.fields).Nodup) (h : TyR R x y) : TyR R' y x where
 head := ⟨h.head.1.symm, h.head.2.1.symm, h.head.2.2.1.symm, fun e => (h.head.2.2.2 (h.head.1.trans e)).symm⟩
 els := ⟨h.els.1.symm, fun i p q hp hq => (h.els.2 i q p hq hp).symm k⟩
 flds := by
  have := h.flds
  rw [← h.head.1]
  split
  ·rename_i e
   rw [if_pos e] at this
   exact this.symm k hx hy
  rename_i e
  rw [if_neg e] at this
  exact this.symm k
 arms := h.arms.symm k
theorem TyR.comp {R R' R2 : Nat → Nat → Prop} (k : ∀ a b c, R a b → R' b c → R2 a c) {x y z : Ty} (h : TyR R x y) (h' : TyR R' y z) : TyR R2 x z where
 head := ⟨h.head.1.trans h'.head.1, h.head.2.1.trans h'.head.2.1, h.head.2.2.1.trans h'.head.2.2.1, fun e => (h.head.2.2.2 e).trans (h'.head.2.2.2 (h.head.1.symm.trans e))⟩
 els := ⟨h.els.1.trans h'.els.1, fun i p q hp hq => by
  obtain ⟨u, hu⟩ := at_same h.els.1 hp
  exact (h.els.2 i p u hp hu).comp k (h'.els.2 i u q hu hq)⟩
 flds := by
  have h1 := h.flds
  have h2 := h'.flds
  rw [← h.head.1] at h2
  split
  ·rename_i e
   rw [if_pos e] at h1 h2
   exact h1.comp k h2
  rename_i e
  rw [if_neg e] at h1 h2
  exact h1.comp k h2
 arms := h.arms.comp k h'.arms
theorem EqT.symm {l : List Ty} (hW : Well l) {a b : Nat} (h : EqT l a b) : EqT l b a := by
 obtain ⟨R, hR, h1⟩ := h
 refine ⟨fun x y => R y x, fun x y hxy => ?_, h1⟩
 rcases hR y x hxy with rfl | ⟨u, w, hu, hw, hr⟩
 ·exact .inl rfl
 exact .inr ⟨w, u, hw, hu, hr.symm (fun _ _ h => h) (nodup_fields (hW.all _ _ hu)) (nodup_fields (hW.all _ _ hw))⟩
theorem EqT.trans {l : List Ty} (hW : Well l) {a b c : Nat} (h : EqT l a b) (h' : EqT l b c) : EqT l a c := by
 refine ⟨fun x z => ∃ y, EqT l x y ∧ EqT l y z, fun x z hxz => ?_, b, h, h'⟩
 obtain ⟨y, h1, h2⟩ := hxz
 have hs := hW.sound
 have step : ∀ {p q : Nat}, EqT l p q → p = q ∨ EqStep l (EqT l) p q := fun h => by
  obtain ⟨R, hR, h1⟩ := h
  rcases hR _ _ h1 with rfl | h2
  ·exact .inl rfl
  exact .inr (h2.mono fun a b h => ⟨R, hR, h⟩)
 rcases step h1 with rfl | ⟨u, w, hu, hw, hr⟩
 ·rcases step h2 with rfl | h3
  ·exact .inl rfl
  exact .inr (h3.mono fun a b h => ⟨a, EqT.refl l a, h⟩)
 rcases step h2 with rfl | ⟨w', v, hw', hv, hr'⟩
 ·exact .inr ⟨u, w, hu, hw, hr.mono fun a b h => ⟨b, h, EqT.refl l b⟩⟩
 rw [hw] at hw'
 cases hw'
 exact .inr ⟨u, v, hu, hv, hr.comp (fun _ b _ h k => ⟨b, h, k⟩) hr'⟩

/-! Layouts: what is given to descriptors, and how. -/
section
variable {l : List Ty}
/-! The steps. -/
section
variable {t : Nat} {a : Ty} (ht : l[t]? = some a)
include ht
end
end

/-! What may be given a descriptor, and how much of it is left. -/
/-! The parts of values are values; how many slots there are. -/
/-! Layouts in memory. -/
def RNat (n : Nat) (cs : List Value) : Prop := cs = [.int .i64 (Int.ofNat n)]
theorem RNat.flats : ∀ x cs, RNat x cs → flats cs = true := by
 rintro x cs rfl
 rfl
abbrev TabL (l : List Ty) (lv : Value) (S : List Nat) (m : AW) : Prop := Sl (Off S m) 5 (RTy (Off S m)) l lv
/-! What 'number' and 'slots' do. -/
theorem sl_open {α : Type} {K : Kn} {sz : Nat} {R : α → List Value → Prop} {l : List α} {al : Option Addr} {n c : Nat} (h : Sl K sz R l (.slice al n c)) (hl : 0 < l.length) : ∃ b off cs el g md mate, al = some ⟨b, off, none⟩ ∧ K b (.cells cs el g md mate) ∧ off + l.length * sz ≤ cs.length ∧ ∀ i x, l[i]? = some x → R x ((cs.drop (off + i * sz)).take sz) := by
 obtain ⟨a, c', he, _, h⟩ := h
 cases he
 rcases h with ⟨e0, -⟩ | h
 ·rw [e0] at hl
  cases hl
 exact h
end Go.Proofs.YtmfbljaemhpokaaGreatDoor
