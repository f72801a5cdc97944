/-
  TypesCopies: the functions that it calls, followed, 1. Conditions: none.
-/
import Derived.Test.YtmfbljaemhpokaaGreatDoorAwk
import Derived.Test.YtmfbljaemhpokaaGreatDoorGra
import Derived.Test.YtmfbljaemhpokaaGreatDoorCopies0
namespace Go.Proofs.YtmfbljaemhpokaaGreatDoor
open Go Go.Ab
set_option linter.unusedVariables false
set_option linter.unusedSimpArgs false
set_option linter.unusedSectionVars false
open Tryz

/-! Equal types. -/
def RI (R : Nat → Nat → Prop) (p q : Int) : Prop := ∃ a b : Nat, p = Int.ofNat a ∧ q = Int.ofNat b ∧ R a b
theorem RI.mono {R R' : Nat → Nat → Prop} (k : ∀ a b, R a b → R' a b) {p q : Int} (h : RI R p q) : RI R' p q := by
 obtain ⟨a, b, h1, h2, h3⟩ := h
 exact ⟨a, b, h1, h2, k a b h3⟩
theorem RI.nat {R : Nat → Nat → Prop} {a b : Nat} (h : RI R (Int.ofNat a) (Int.ofNat b)) : R a b := by
 obtain ⟨a', b', h1, h2, h3⟩ := h
 cases h1
 cases h2
 exact h3
/-- Fields that agree one by one; members that agree by their names. -/
def FldsR (R : Nat → Nat → Prop) (L L' : List Fld) : Prop := L.length = L'.length ∧ ∀ (i : Nat) (f g : Fld), L[i]? = some f → L'[i]? = some g → f.name = g.name ∧ RI R f.type g.type
def MemR (R : Nat → Nat → Prop) (L L' : List Fld) : Prop := L.length = L'.length ∧ ∀ f, f ∈ L → ∃ g, g ∈ L' ∧ g.name = f.name ∧ RI R f.type g.type
def ElsR (R : Nat → Nat → Prop) (L L' : List Int) : Prop := L.length = L'.length ∧ ∀ (i : Nat) (p q : Int), L[i]? = some p → L'[i]? = some q → RI R p q
def ArmsR (R : Nat → Nat → Prop) (L L' : List Arm) : Prop := L.length = L'.length ∧ ∀ (i : Nat) (f g : Arm), L[i]? = some f → L'[i]? = some g → f.name = g.name ∧ FldsR R f.fields g.fields
def HeadR (x y : Ty) : Prop := x.kind = y.kind ∧ x.elems.length = y.elems.length ∧ x.arms.length = y.arms.length ∧ (x.kind = 9 → x.name = y.name)
structure TyR (R : Nat → Nat → Prop) (x y : Ty) : Prop where
 head : HeadR x y
 els : ElsR R x.elems y.elems
 flds : if x.kind = 13 then MemR R x.fields y.fields else FldsR R x.fields y.fields
 arms : ArmsR R x.arms y.arms
theorem FldsR.mono {R R' : Nat → Nat → Prop} (k : ∀ a b, R a b → R' a b) {L L' : List Fld} (h : FldsR R L L') : FldsR R' L L' := ⟨h.1, fun i f g hf hg => ⟨(h.2 i f g hf hg).1, (h.2 i f g hf hg).2.mono k⟩⟩
theorem MemR.mono {R R' : Nat → Nat → Prop} (k : ∀ a b, R a b → R' a b) {L L' : List Fld} (h : MemR R L L') : MemR R' L L' := ⟨h.1, fun f hf => by
 obtain ⟨g, h1, h2, h3⟩ := h.2 f hf
 exact ⟨g, h1, h2, h3.mono k⟩⟩
theorem ElsR.mono {R R' : Nat → Nat → Prop} (k : ∀ a b, R a b → R' a b) {L L' : List Int} (h : ElsR R L L') : ElsR R' L L' := ⟨h.1, fun i p q hp hq => (h.2 i p q hp hq).mono k⟩
theorem ArmsR.mono {R R' : Nat → Nat → Prop} (k : ∀ a b, R a b → R' a b) {L L' : List Arm} (h : ArmsR R L L') : ArmsR R' L L' := ⟨h.1, fun i f g hf hg => ⟨(h.2 i f g hf hg).1, (h.2 i f g hf hg).2.mono k⟩⟩
theorem TyR.mono {R R' : Nat → Nat → Prop} (k : ∀ a b, R a b → R' a b) {x y : Ty} (h : TyR R x y) : TyR R' x y := ⟨h.head, h.els.mono k, by
 have := h.flds
 split at this
 ·rename_i e
  rw [if_pos e]
  exact this.mono k
 rename_i e
 rw [if_neg e]
 exact this.mono k, h.arms.mono k⟩
theorem RI.refl {R : Nat → Nat → Prop} (hR : ∀ a, R a a) {n : Nat} {t : Ty} (hb : badB n t = false) {p : Int} (hp : p ∈ partsL t) : RI R p p := by
 obtain ⟨j, hj⟩ := List.getElem?_of_mem hp
 obtain ⟨q, rfl, _⟩ := parts_in hb hj
 exact ⟨q, q, rfl, rfl, hR q⟩
theorem parts_armf {t : Ty} {a : Arm} (ha : a ∈ t.arms) {f : Fld} (hf : f ∈ a.fields) : f.type ∈ partsL t := List.mem_append_right _ (List.mem_append_right _ (List.mem_map.2 ⟨f, List.mem_flatMap.2 ⟨a, ha, hf⟩, rfl⟩))
theorem parts_fldm {t : Ty} {f : Fld} (hf : f ∈ t.fields) : f.type ∈ partsL t := parts_fields (List.mem_map.2 ⟨f, hf, rfl⟩)
theorem TyR.refl {R : Nat → Nat → Prop} (hR : ∀ a, R a a) {n : Nat} {t : Ty} (hb : badB n t = false) : TyR R t t where
 head := ⟨rfl, rfl, rfl, fun _ => rfl⟩
 els := ⟨rfl, fun i p q hp hq => by rw [hp] at hq; cases hq; exact RI.refl hR hb (parts_elems (List.mem_of_getElem? hp))⟩
 flds := by
  split
  ·exact ⟨rfl, fun f hf => ⟨f, hf, rfl, RI.refl hR hb (parts_fldm hf)⟩⟩
  exact ⟨rfl, fun i f g hf hg => by rw [hf] at hg; cases hg; exact ⟨rfl, RI.refl hR hb (parts_fldm (List.mem_of_getElem? hf))⟩⟩
 arms := ⟨rfl, fun i f g hf hg => by
  rw [hf] at hg
  cases hg
  exact ⟨rfl, rfl, fun j u w hu hw => by rw [hu] at hw; cases hw; exact ⟨rfl, RI.refl hR hb (parts_armf (List.mem_of_getElem? hf) (List.mem_of_getElem? hu))⟩⟩⟩
/-- What is closed under steps. -/
def EqStep (l : List Ty) (R : Nat → Nat → Prop) (a b : Nat) : Prop := ∃ x y, l[a]? = some x ∧ l[b]? = some y ∧ TyR R x y
theorem EqStep.mono {l : List Ty} {R R' : Nat → Nat → Prop} (k : ∀ a b, R a b → R' a b) {a b : Nat} (h : EqStep l R a b) : EqStep l R' a b := by
 obtain ⟨x, y, h1, h2, h3⟩ := h
 exact ⟨x, y, h1, h2, h3.mono k⟩
def EqT (l : List Ty) (a b : Nat) : Prop := ∃ R : Nat → Nat → Prop, (∀ a b, R a b → a = b ∨ EqStep l R a b) ∧ R a b
theorem EqT.refl (l : List Ty) (a : Nat) : EqT l a a := ⟨fun a b => a = b, fun _ _ h => .inl h, rfl⟩
theorem EqT.step {l : List Ty} (hb : Sound8 l) {a b : Nat} (h : EqT l a b) (ha : a < l.length) : EqStep l (EqT l) a b := by
 obtain ⟨R, hR, h1⟩ := h
 rcases hR a b h1 with rfl | h2
 ·exact ⟨l[a], l[a], List.getElem?_eq_getElem ha, List.getElem?_eq_getElem ha, TyR.refl (EqT.refl l) (hb a _ (List.getElem?_eq_getElem ha))⟩
 exact h2.mono fun a b h => ⟨R, hR, h⟩
/-! What a comparison does: the pairs that were met are taken as equal. -/
abbrev Prs := List (Nat × Nat)
def InM (M : Prs) (a b : Nat) : Prop := a = b ∨ (a, b) ∈ M
def Grown (M M' : Prs) : Prop := ∀ p, p ∈ M → p ∈ M'
theorem Grown.refl (M : Prs) : Grown M M := fun _ h => h
theorem Grown.trans {A B C : Prs} (h : Grown A B) (k : Grown B C) : Grown A C := fun p hp => k p (h p hp)
theorem InM.mono {M M' : Prs} (h : Grown M M') : ∀ a b, InM M a b → InM M' a b := fun _ _ k => k.imp id (h _)
/-- All that is new is closed. -/
def Closed (l : List Ty) (M M' : Prs) : Prop := ∀ p, p ∈ M' → p ∈ M ∨ EqStep l (InM M') p.1 p.2
theorem Closed.refl (l : List Ty) (M : Prs) : Closed l M M := fun _ h => .inl h
theorem Closed.trans {l : List Ty} {A B C : Prs} (h1 : Closed l A B) (h2 : Closed l B C) (g : Grown B C) : Closed l A C := fun p hp => by
 rcases h2 p hp with h | h
 ·rcases h1 p h with h | h
  ·exact .inl h
  exact .inr (h.mono (InM.mono g))
 exact .inr h
def Bnd (l : List Ty) (M : Prs) : Prop := ∀ p, p ∈ M → p.1 < l.length ∧ p.2 < l.length
/-- The answer to whether a and b are equal, and what has been met then. -/
structure EqA (l : List Ty) (M : Prs) (a b : Nat) (z : Bool × Prs) : Prop where
 grown : Grown M z.2
 bnd : Bnd l M → Bnd l z.2
 yes : z.1 = true → InM z.2 a b ∧ Closed l M z.2
 no : z.1 = false → ¬ EqT l a b
theorem EqA.top {l : List Ty} {a b : Nat} {z : Bool × Prs} (h : EqA l [] a b z) : z.1 = true ↔ EqT l a b := by
 constructor
 ·intro e
  obtain ⟨h1, h2⟩ := h.yes e
  refine ⟨InM z.2, fun p q hpq => ?_, h1⟩
  rcases hpq with h3 | h3
  ·exact .inl h3
  rcases h2 (p, q) h3 with h4 | h4
  ·cases h4
  exact .inr h4
 intro e
 cases hz : z.1 with
 | true => rfl
 | false => exact absurd e (h.no hz)
/-- How many pairs are not yet met. -/
def unmet (n : Nat) (M : Prs) : Nat := ((List.range (n * n)).filter fun c => !decide ((c / n, c % n) ∈ M)).length
theorem unmet_le {n : Nat} {M M' : Prs} (h : Grown M M') : unmet n M' ≤ unmet n M := filter_le (fun c hc => by
 simp only [Bool.not_eq_true', decide_eq_false_iff_not] at hc ⊢
 exact fun hm => hc (h _ hm)) _
theorem unmet_lt {n : Nat} {M : Prs} {a b : Nat} (ha : a < n) (hb : b < n) (hn : (a, b) ∉ M) {M' : Prs} (h : Grown M M') (hm : (a, b) ∈ M') : unmet n M' < unmet n M := by
 have hn0 : 0 < n := by omega
 have e1 : (a * n + b) / n = a := by
  rw [Nat.mul_comm, Nat.mul_add_div hn0, Nat.div_eq_of_lt hb, Nat.add_zero]
 have e2 : (a * n + b) % n = b := by
  rw [Nat.mul_comm, Nat.mul_add_mod, Nat.mod_eq_of_lt hb]
 refine filter_lt (fun c hc => ?_) (y := a * n + b) ?_ ?_ _ (List.mem_range.2 ?_)
 ·simp only [Bool.not_eq_true', decide_eq_false_iff_not] at hc ⊢
  exact fun hm => hc (h _ hm)
 ·rw [e1, e2]
  simpa using hm
 ·rw [e1, e2]
  simpa using hn
 have : a * n + n ≤ n * n := by
  have := Nat.mul_le_mul_right n (show a + 1 ≤ n by omega)
  rw [Nat.add_mul, Nat.one_mul] at this
  exact this
 omega
/-- A row of comparisons: so far all were equal. -/
structure RowA (l : List Ty) (M M' : Prs) (P : Prop) : Prop where
 grown : Grown M M'
 bnd : Bnd l M → Bnd l M'
 closed : Closed l M M'
 all : P
theorem RowA.init {l : List Ty} {M : Prs} {P : Prop} (h : P) : RowA l M M P := ⟨Grown.refl _, id, Closed.refl _ _, h⟩
/-- The end of a comparison whose pair was put in first: all its parts are equal. -/
theorem EqA.close {l : List Ty} {M M' : Prs} {a b : Nat} {x y : Ty} {P : Prop} (ha : l[a]? = some x) (hb : l[b]? = some y) (h : RowA l ((a, b) :: M) M' P) (ht : TyR (InM M') x y) : EqA l M a b (true, M') where
 grown := fun p hp => h.grown p (List.mem_cons_of_mem _ hp)
 bnd := fun hM => h.bnd fun p hp => by
  rcases List.mem_cons.1 hp with rfl | hp
  ·exact ⟨(List.getElem?_eq_some_iff.1 ha).1, (List.getElem?_eq_some_iff.1 hb).1⟩
  exact hM p hp
 yes := fun _ => ⟨.inr (h.grown _ List.mem_cons_self), fun p hp => by
  rcases h.closed p hp with h1 | h1
  ·rcases List.mem_cons.1 h1 with rfl | h1
   ·exact .inr ⟨x, y, ha, hb, ht⟩
   exact .inl h1
  exact .inr h1⟩
 no := fun e => by cases e
theorem EqA.fail {l : List Ty} {M M' : Prs} {a b : Nat} (hg : Grown M M') (hb : Bnd l M → Bnd l M') (h : ¬ EqT l a b) : EqA l M a b (false, M') := ⟨hg, hb, fun e => (by cases e), fun _ => h⟩
theorem EqA.here {l : List Ty} {M : Prs} {a b : Nat} (h : InM M a b) : EqA l M a b (true, M) := ⟨Grown.refl _, id, fun _ => ⟨h, Closed.refl _ _⟩, fun e => by cases e⟩
/-! The program's comparer. -/
def MetA (M : Prs) (x : List MapEntry × Nat) : Prop := ∃ lM : List ((Int × Int) × Value), PairsK (pairV .i64) x.1 lM ∧ ∀ a b : Nat, getP (Int.ofNat a, Int.ofNat b) lM = if (a, b) ∈ M then some (.bool true) else none
theorem MetA.nil (c : Nat) : MetA [] ([], c) := ⟨[], trivial, fun a b => by rw [if_neg (by simp)]; rfl⟩
theorem MetA.look {M : Prs} {lM : List ((Int × Int) × Value)} (h : ∀ a b : Nat, getP (Int.ofNat a, Int.ofNat b) lM = if (a, b) ∈ M then some (.bool true) else none) (a b : Nat) : (getP (Int.ofNat a, Int.ofNat b) lM).getD (.bool false) = .bool (decide ((a, b) ∈ M)) := by
 rw [h a b]
 by_cases hm : (a, b) ∈ M
 ·rw [if_pos hm, decide_eq_true hm]
  rfl
 rw [if_neg hm, decide_eq_false hm]
 rfl
theorem MetA.put {M : Prs} {lM : List ((Int × Int) × Value)} (h : ∀ a b : Nat, getP (Int.ofNat a, Int.ofNat b) lM = if (a, b) ∈ M then some (.bool true) else none) {a b : Nat} {es : List MapEntry} {c : Nat} (hP : PairsK (pairV .i64) es (putP (Int.ofNat a, Int.ofNat b) (.bool true) lM)) : MetA ((a, b) :: M) (es, c) := ⟨_, hP, fun a' b' => by
 rw [getP_put, h a' b']
 by_cases e : a' = a ∧ b' = b
 ·obtain ⟨rfl, rfl⟩ := e
  rw [if_pos rfl, if_pos List.mem_cons_self]
 have e1 : ¬ ((Int.ofNat a', Int.ofNat b') = (Int.ofNat a, Int.ofNat b)) := fun h => e ⟨Int.ofNat.inj (Prod.mk.inj h).1, Int.ofNat.inj (Prod.mk.inj h).2⟩
 rw [if_neg e1]
 by_cases hm : (a', b') ∈ M
 ·rw [if_pos hm, if_pos (List.mem_cons_of_mem _ hm)]
 rw [if_neg hm, if_neg fun h => by
  rcases List.mem_cons.1 h with h | h
  ·exact e ⟨(Prod.mk.inj h).1, (Prod.mk.inj h).2⟩
  exact hm h]⟩
structure CmpPre (l : List Ty) (al : Option Addr) (cl bs bm : Nat) (m : AW) : Prop where
 hs : Off [bm] m bs (.cells [.slice al l.length cl, .map (some bm)] 163 false .plain none)
 hl : Sl (Off [bm] m) 5 (RTy (Off [bm] m)) l (.slice al l.length cl)
theorem CmpPre.mono {l : List Ty} {al : Option Addr} {cl bs bm : Nat} {m m' : AW} (h : CmpPre l al cl bs bm m) (k : ∀ b o, Off [bm] m b o → Off [bm] m' b o) : CmpPre l al cl bs bm m' := ⟨k _ _ h.hs, h.hl.mono k (RTy.mono k)⟩
abbrev CmpY := (Bool × Prs) × (List MapEntry × Nat)
def EqQ (l : List Ty) (bm : Nat) (M : Prs) (a b : Nat) (m : AW) (v : Value) (m' : AW) : Prop := ∃ y : CmpY, (EqA l M a b y.1 ∧ MetA y.1.2 y.2) ∧ v = .bool y.1.1 ∧ Knows [bm] m m' (MapC bm y.2)
def EqualC (P : Program) (l : List Ty) (al : Option Addr) (cl bs bm n a b : Nat) : Prop := ∀ (m : AW) (x : List MapEntry × Nat) (M : Prs), m.lo ≤ m.next → Knows [bm] m m (MapC bm x) → MetA M x → Bnd l M → CmpPre l al cl bs bm m → unmet l.length M < n → Fc P 105 [ptr bs, .int .i64 (Int.ofNat a), .int .i64 (Int.ofNat b)] m (EqQ l bm M a b m)
/-- What a comparison of more than two types answers. -/
structure RelA (l : List Ty) (M : Prs) (Py : (Nat → Nat → Prop) → Prop) (z : Bool × Prs) : Prop where
 grown : Grown M z.2
 bnd : Bnd l M → Bnd l z.2
 yes : z.1 = true → Closed l M z.2 ∧ Py (InM z.2)
 no : z.1 = false → ¬ Py (EqT l)
def RelQ (l : List Ty) (bm : Nat) (M : Prs) (Py : (Nat → Nat → Prop) → Prop) (m : AW) (v : Value) (m' : AW) : Prop := ∃ y : CmpY, (RelA l M Py y.1 ∧ MetA y.1.2 y.2) ∧ v = .bool y.1.1 ∧ Knows [bm] m m' (MapC bm y.2)
theorem RelA.fail {l : List Ty} {M M' : Prs} {Py : (Nat → Nat → Prop) → Prop} (hg : Grown M M') (hb : Bnd l M → Bnd l M') (h : ¬ Py (EqT l)) : RelA l M Py (false, M') := ⟨hg, hb, fun e => (by cases e), fun _ => h⟩
theorem RelA.good {l : List Ty} {M M' : Prs} {Py : (Nat → Nat → Prop) → Prop} {P : Prop} (h : RowA l M M' P) (hP : Py (InM M')) : RelA l M Py (true, M') := ⟨h.grown, h.bnd, fun _ => ⟨h.closed, hP⟩, fun e => by cases e⟩
/-- One comparison more, that says yes. -/
theorem RowA.more {l : List Ty} {M M1 : Prs} {P P2 : Prop} {a b : Nat} {z : Bool × Prs} (h : RowA l M M1 P) (hz : EqA l M1 a b z) (ht : z.1 = true) (hP : P2) : RowA l M z.2 P2 := ⟨h.grown.trans hz.grown, fun hb => hz.bnd (h.bnd hb), h.closed.trans (hz.yes ht).2 hz.grown, hP⟩
theorem RowA.moreR {l : List Ty} {M M1 : Prs} {P P2 : Prop} {Py : (Nat → Nat → Prop) → Prop} {z : Bool × Prs} (h : RowA l M M1 P) (hz : RelA l M1 Py z) (ht : z.1 = true) (hP : P2) : RowA l M z.2 P2 := ⟨h.grown.trans hz.grown, fun hb => hz.bnd (h.bnd hb), h.closed.trans (hz.yes ht).1 hz.grown, hP⟩
def FldsU (R : Nat → Nat → Prop) (L L' : List Fld) (i : Nat) : Prop := ∀ (j : Nat) (f g : Fld), j < i → L[j]? = some f → L'[j]? = some g → f.name = g.name ∧ RI R f.type g.type
theorem FldsU.succ {M M' : Prs} {L L' : List Fld} {i : Nat} {f g : Fld} (h : FldsU (InM M) L L' i) (k : Grown M M') (hf : L[i]? = some f) (hg : L'[i]? = some g) (hn : f.name = g.name) (hr : RI (InM M') f.type g.type) : FldsU (InM M') L L' (i + 1) := fun j u w hj hu hw => by
 by_cases e : j = i
 ·subst e
  rw [hf] at hu
  rw [hg] at hw
  cases hu
  cases hw
  exact ⟨hn, hr⟩
 have := h j u w (by omega) hu hw
 exact ⟨this.1, this.2.mono (InM.mono k)⟩
theorem FldsU.all {R : Nat → Nat → Prop} {L L' : List Fld} {i : Nat} (h : FldsU R L L' i) (hl : L.length = L'.length) (hi : L.length ≤ i) : FldsR R L L' := ⟨hl, fun j f g hf hg => h j f g (by have := (List.getElem?_eq_some_iff.1 hf).1; omega) hf hg⟩
/-- Which types the names have. -/
def TypN (L : List Fld) (lN : List (ByteArray × Value)) : Prop := ∀ s, getP s lN = (L.find? fun f => decide (f.name = s)).map fun f => .int .i64 f.type
theorem TypN.nil : TypN [] [] := fun s => rfl
theorem TypN.put {L : List Fld} {lN : List (ByteArray × Value)} {x : Fld} (h : TypN L lN) (hn : x.name ∉ fnames L) : TypN (L ++ [x]) (putP x.name (.int .i64 x.type) lN) := fun s => by
 rw [getP_put, h s, List.find?_append]
 by_cases e : s = x.name
 ·subst e
  have : (L.find? fun f => decide (f.name = x.name)) = none := by
   rw [List.find?_eq_none]
   intro f hf he
   exact hn (List.mem_map.2 ⟨f, hf, by simpa using he⟩)
  rw [if_pos rfl, this]
  simp
 rw [if_neg e]
 have : ([x].find? fun f => decide (f.name = s)) = none := by
  rw [List.find?_eq_none]
  intro f hf he
  rw [List.mem_singleton.1 hf] at he
  exact e (of_decide_eq_true he).symm
 rw [this, Option.or_none]
theorem TypN.take {L : List Fld} {lN : List (ByteArray × Value)} {i : Nat} {x : Fld} (h : TypN (L.take i) lN) (hnd : (fnames L).Nodup) (hx : L[i]? = some x) : TypN (L.take (i + 1)) (putP x.name (.int .i64 x.type) lN) := by
 rw [take_succ' hx]
 refine h.put fun hm => ?_
 have h1 := fnames_get hx
 have h2 : fnames (L.take i) = (fnames L).take i := by
  unfold fnames
  rw [List.map_take]
 rw [h2] at hm
 have h3 := dup_mem h1 hm
 unfold dupB at h3
 rw [decide_eq_true hnd] at h3
 cases h3
def MemU (R : Nat → Nat → Prop) (L L' : List Fld) (i : Nat) : Prop := ∀ (j : Nat) (f : Fld), j < i → L[j]? = some f → ∃ g, g ∈ L' ∧ g.name = f.name ∧ RI R f.type g.type
theorem MemU.succ {M M' : Prs} {L L' : List Fld} {i : Nat} {f g : Fld} (h : MemU (InM M) L L' i) (k : Grown M M') (hf : L[i]? = some f) (hg : g ∈ L') (hn : g.name = f.name) (hr : RI (InM M') f.type g.type) : MemU (InM M') L L' (i + 1) := fun j u hj hu => by
 by_cases e : j = i
 ·subst e
  rw [hf] at hu
  cases hu
  exact ⟨g, hg, hn, hr⟩
 obtain ⟨w, h1, h2, h3⟩ := h j u (by omega) hu
 exact ⟨w, h1, h2, h3.mono (InM.mono k)⟩
theorem MemU.all {R : Nat → Nat → Prop} {L L' : List Fld} {i : Nat} (h : MemU R L L' i) (hl : L.length = L'.length) (hi : L.length ≤ i) : MemR R L L' := ⟨hl, fun f hf => by
 obtain ⟨j, hj⟩ := List.getElem?_of_mem hf
 exact h j f (by have := (List.getElem?_eq_some_iff.1 hj).1; omega) hj⟩
theorem find_mem {L : List Fld} {s : ByteArray} {g : Fld} (h : (L.find? fun f => decide (f.name = s)) = some g) : g ∈ L ∧ g.name = s := ⟨List.mem_of_find?_eq_some h, by simpa using List.find?_some h⟩
theorem mem_one {L : List Fld} (hnd : (fnames L).Nodup) {f g : Fld} (hf : f ∈ L) (hg : g ∈ L) (hn : f.name = g.name) : f = g := by
 obtain ⟨i, hi⟩ := List.getElem?_of_mem hf
 obtain ⟨j, hj⟩ := List.getElem?_of_mem hg
 have h1 := fnames_get hi
 have h2 := fnames_get hj
 have e : i = j := by
  have h3 := (List.getElem?_eq_some_iff.1 h1)
  have h4 := (List.getElem?_eq_some_iff.1 h2)
  obtain ⟨l1, e1⟩ := h3
  obtain ⟨l2, e2⟩ := h4
  rcases Nat.lt_trichotomy i j with hlt | rfl | hlt
  ·have := List.pairwise_iff_getElem.1 hnd i j l1 l2 hlt
   rw [e1, e2] at this
   exact absurd hn this
  ·rfl
  have := List.pairwise_iff_getElem.1 hnd j i l2 l1 hlt
  rw [e1, e2] at this
  exact absurd hn.symm this
 subst e
 rw [hi] at hj
 exact Option.some.inj hj
theorem EqT.ty {l : List Ty} (hb : Sound8 l) {a b : Nat} {x y : Ty} (hx : l[a]? = some x) (hy : l[b]? = some y) (h : EqT l a b) : TyR (EqT l) x y := by
 obtain ⟨x', y', h1, h2, h3⟩ := h.step hb (List.getElem?_eq_some_iff.1 hx).1
 rw [hx] at h1
 rw [hy] at h2
 cases h1
 cases h2
 exact h3
def ElsU (R : Nat → Nat → Prop) (L L' : List Int) (i : Nat) : Prop := ∀ (j : Nat) (p q : Int), j < i → L[j]? = some p → L'[j]? = some q → RI R p q
theorem ElsU.succ {M M' : Prs} {L L' : List Int} {i : Nat} {p q : Int} (h : ElsU (InM M) L L' i) (k : Grown M M') (hf : L[i]? = some p) (hg : L'[i]? = some q) (hr : RI (InM M') p q) : ElsU (InM M') L L' (i + 1) := fun j u w hj hu hw => by
 by_cases e : j = i
 ·subst e
  rw [hf] at hu
  rw [hg] at hw
  cases hu
  cases hw
  exact hr
 exact (h j u w (by omega) hu hw).mono (InM.mono k)
theorem ElsU.all {R : Nat → Nat → Prop} {L L' : List Int} {i : Nat} (h : ElsU R L L' i) (hl : L.length = L'.length) (hi : L.length ≤ i) : ElsR R L L' := ⟨hl, fun j f g hf hg => h j f g (by have := (List.getElem?_eq_some_iff.1 hf).1; omega) hf hg⟩
def ArmsU (R : Nat → Nat → Prop) (L L' : List Arm) (i : Nat) : Prop := ∀ (j : Nat) (f g : Arm), j < i → L[j]? = some f → L'[j]? = some g → f.name = g.name ∧ FldsR R f.fields g.fields
theorem ArmsU.mono {M M' : Prs} {L L' : List Arm} {i : Nat} (h : ArmsU (InM M) L L' i) (k : Grown M M') : ArmsU (InM M') L L' i := fun j f g hj hf hg => ⟨(h j f g hj hf hg).1, (h j f g hj hf hg).2.mono (InM.mono k)⟩
theorem ArmsU.succ {M M' : Prs} {L L' : List Arm} {i : Nat} {f g : Arm} (h : ArmsU (InM M) L L' i) (k : Grown M M') (hf : L[i]? = some f) (hg : L'[i]? = some g) (hn : f.name = g.name) (hr : FldsR (InM M') f.fields g.fields) : ArmsU (InM M') L L' (i + 1) := fun j u w hj hu hw => by
 by_cases e : j = i
 ·subst e
  rw [hf] at hu
  rw [hg] at hw
  cases hu
  cases hw
  exact ⟨hn, hr⟩
 exact h.mono k j u w (by omega) hu hw
theorem ArmsU.all {R : Nat → Nat → Prop} {L L' : List Arm} {i : Nat} (h : ArmsU R L L' i) (hl : L.length = L'.length) (hi : L.length ≤ i) : ArmsR R L L' := ⟨hl, fun j f g hf hg => h j f g (by have := (List.getElem?_eq_some_iff.1 hf).1; omega) hf hg⟩
theorem shape_arms {x : Ty} (h : shapedB x = true) (hk : x.kind ≠ 10) : x.arms = [] := by
 unfold shapedB at h
 have h := of_decide_eq_true h
 simp only [shapeP] at h
 exact List.eq_nil_of_length_eq_zero (by omega)
/-- A module's members are compared last. -/
theorem EqA.mods {l : List Ty} {M M1 : Prs} {a b : Nat} {x y : Ty} {P : Prop} {z : Bool × Prs} (hb8 : Sound8 l) (hx : l[a]? = some x) (hy : l[b]? = some y) (hh : HeadR x y) (hk : x.kind = 13) (hsx : shapedB x = true) (hsy : shapedB y = true) (hR : RowA l ((a, b) :: M) M1 P) (he : ElsR (InM M1) x.elems y.elems) (hz : RelA l M1 (fun R => MemR R x.fields y.fields) z) : EqA l M a b z := by
 obtain ⟨zb, M2⟩ := z
 cases zb with
 | true =>
  obtain ⟨h1, h2⟩ := hz.yes rfl
  have hax := shape_arms hsx (by omega)
  have hay := shape_arms hsy (by rw [← hh.1]; omega)
  refine EqA.close (P := True) hx hy ⟨hR.grown.trans hz.grown, fun h => hz.bnd (hR.bnd h), hR.closed.trans h1 hz.grown, trivial⟩ ⟨hh, he.mono (InM.mono hz.grown), by rw [if_pos hk]; exact h2, ?_⟩
  rw [hax, hay]
  exact ⟨rfl, fun i f g hf => by cases hf⟩
 | false =>
  refine EqA.fail (fun p hp => hz.grown _ (hR.grown _ (List.mem_cons_of_mem _ hp))) (fun hM => hz.bnd (hR.bnd fun p hp => ?_)) fun h => hz.no rfl ?_
  ·rcases List.mem_cons.1 hp with rfl | hp
   ·exact ⟨(List.getElem?_eq_some_iff.1 hx).1, (List.getElem?_eq_some_iff.1 hy).1⟩
   exact hM p hp
  have := (h.ty hb8 hx hy).flds
  rw [if_pos hk] at this
  exact this
theorem Bnd.cons {l : List Ty} {M : Prs} {a b : Nat} (h : Bnd l M) (ha : a < l.length) (hb : b < l.length) : Bnd l ((a, b) :: M) := fun p hp => by
 rcases List.mem_cons.1 hp with rfl | hp
 ·exact ⟨ha, hb⟩
 exact h p hp
/-- One comparison says no. -/
theorem EqA.stop {l : List Ty} {M M1 M2 : Prs} {a b : Nat} {x y : Ty} {P : Prop} (hx : l[a]? = some x) (hy : l[b]? = some y) (hR : RowA l ((a, b) :: M) M1 P) (g : Grown M1 M2) (gb : Bnd l M1 → Bnd l M2) (h : ¬ EqT l a b) : EqA l M a b (false, M2) :=
 EqA.fail (fun p hp => g _ (hR.grown _ (List.mem_cons_of_mem _ hp))) (fun hM => gb (hR.bnd (hM.cons (List.getElem?_eq_some_iff.1 hx).1 (List.getElem?_eq_some_iff.1 hy).1))) h
theorem nodup_fields {n : Nat} {t : Ty} (h : singleE n t = 0) : (fnames t.fields).Nodup := by
 have h1 := (single_zero h).2.2.2.1
 unfold twiceB at h1
 have h2 : dupB (fnames t.fields) = false := by
  cases h3 : dupB (fnames t.fields) with
  | false => rfl
  | true =>
   rw [h3] at h1
   cases h1
 unfold dupB at h2
 simpa using h2
theorem cfields_ok {l : List Ty} {al : Option Addr} {cl bs bm n : Nat} {M : Prs} {x0 : List MapEntry × Nat} {L L2 : List Fld} {va vb : Value} {m : AW} (hm : m.lo ≤ m.next) (hk : Knows [bm] m m (MapC bm x0)) (hM : MetA M x0) (hB : Bnd l M) (hp : CmpPre l al cl bs bm m) (hn : unmet l.length M < n) (heq : ∀ p q : Nat, p < l.length → q < l.length → EqualC prog l al cl bs bm n p q) (hfa : Sl (Off [bm] m) 2 RFld L va) (hfb : Sl (Off [bm] m) 2 RFld L2 vb) (hL : ∀ (j : Nat) (f : Fld), L[j]? = some f → ∃ q : Nat, f.type = Int.ofNat q ∧ q < l.length) (hL2 : ∀ (j : Nat) (f : Fld), L2[j]? = some f → ∃ q : Nat, f.type = Int.ofNat q ∧ q < l.length) : Fc prog 135 [ptr bs, va, vb] m fun v m' => RelQ l bm M (fun R => FldsR R L L2) m v m' := by
 obtain ⟨aa, ca, rfl, hna, hfa⟩ := hfa
 obtain ⟨ab, cb, rfl, hnb, hfb⟩ := hfb
 have hM0 := hM
 have hB0 := hB
 have hn0 := hn
 refine Fc.bodyS (S := [bm]) (c := _) func135 rfl rfl rfl rfl hk ?_
 refine .seq (.region (.P ?_))
 refine .nil (.seq (.seq (.seq (.region (.P ?_)))))
 refine .G (ln47 ..) ?_
 refine .P ?_
 refine .G (ln47 ..) ?_
 refine .P ?_
 refine .nil (.seq (.cond rfl (fun ht12 => ?_) fun ht12 => ?_))
 ·try simp only [nz] at ht12
  refine .seq (.region (.P ?_))
  refine .nil (.seq (.ret (.seq ?_)))
  exact .end_ rfl rfl (fun m hm => ⟨((false, M), x0), ⟨RelA.fail (Grown.refl _) id fun h => absurd h.1 (by omega), hM⟩, rfl, hm⟩)
 try simp only [nz] at ht12
 have hll : L.length = L2.length := by omega
 refine .skip (.seq (.seq (.seq (.region (.P ?_)))))
 refine .G (ln47 ..) ?_
 refine .P ?_
 refine .nil (.seq (.block ?_))
 refine .loop (α := Nat × Prs × (List MapEntry × Nat)) (fun q => [(0, ptr bs), (1, .slice aa L.length ca), (2, .slice ab L2.length cb), (14, .int .i64 (Int.ofNat (L.length))), (15, .int .i64 (Int.ofNat (q.1)))]) (fun q => [(bm, .map q.2.2.1 q.2.2.2)]) (fun q => q.1 ≤ L.length ∧ RowA l M q.2.1 (FldsU (InM q.2.1) L L2 q.1) ∧ MetA q.2.1 q.2.2) (fun q => L.length - q.1) (0, M, x0) ⟨Nat.zero_le _, RowA.init (fun _ _ _ h => absurd h (Nat.not_lt_zero _)), hM0⟩ ⟨rfl, rfl, rfl, rfl, rfl, trivial⟩ (.refl _) (fun q hq0 => ?_)
 obtain ⟨i, M1, x1⟩ := q
 obtain ⟨hi, hR, hM1⟩ := hq0
 simp only at hi hR hM1
 have hB1 := hR.bnd hB0
 have hu1 := Nat.lt_of_le_of_lt (unmet_le (n := l.length) hR.grown) hn0
 refine .seq (.region (.P ?_))
 refine .nil (.seq (.seq (.cond rfl (fun ht16 => ?_) fun ht16 => ?_)))
 ·try simp only [nz] at ht16
  have hltA : i < L.length := by omega
  obtain ⟨f, hf⟩ := gx hltA
  obtain ⟨bA, offA, csA, elA, gA, mdA, mateA, rfl, ⟨hbA, hhA⟩, hleA, hcA⟩ := so hfa hltA
  have hrf := hcA i f hf
  have hltB : i < L2.length := by omega
  obtain ⟨g_, hg⟩ := gx hltB
  obtain ⟨bB, offB, csB, elB, gB, mdB, mateB, rfl, ⟨hbB, hhB⟩, hleB, hcB⟩ := so hfb hltB
  have hrg := hcB i g_ hg
  obtain ⟨p, hp0, hpl⟩ := hL i f hf
  obtain ⟨q, hq0, hql⟩ := hL2 i g_ hg
  refine .skip (.seq (.seq (.block (.seq (.region (.P2 ?_))))))
  refine .nil (.seq (.seq ?_))
  refine .D [(15, 0), (15, 0), (15, 3), (15, 7), (3, 15), (15, 0), (15, 0), (15, 96), (15, 224), (3, 480), (15, 1023), (15, 2047), (15, 4095), (15, 4095), (15, 4095), (15, 28671), (15, 61439), (3, 126975), (15, 4095), (15, 4095), (15, 790527), (15, 1839103), (3, 3936255), (7, 8388607), (15, 16777215), (15, 33554431)] (by kernel_rfl) (by kernel_rfl) (fun base hbase hB => ?_)
  iterate 2 refine .P ?_
  refine .K underlying47 sz132 ?_
  refine .F fa132_0 ?_
  refine .M ag9 (Off.sees rfl rfl _ _ ⟨hbA, hhA⟩) (cell_of_take hrf (k := 0) rfl) ?_
  iterate 2 refine .P ?_
  refine .K underlying47 sz132 ?_
  refine .F fa132_0 ?_
  refine .M ag9 (Off.sees rfl rfl _ _ ⟨hbB, hhB⟩) (cell_of_take hrg (k := 0) rfl) ?_
  iterate 2 refine .P ?_
  refine .splitB 29 rfl (fun hs_29 => ?_) (fun hs_29 => ?_)
  ·try simp only [nz] at hs_29
   have hnn : f.name ≠ g_.name := by assumption
   iterate 13 refine .O ?_
   refine .P ?_
   refine .nil (.seq (.cond_true rfl (.seq (.region (.P ?_)))))
   refine .nil (.seq (.ret (.blk (.seq (.loop (.blk (.seq ?_)))))))
   exact .end_ rfl rfl (fun m hm => ⟨((false, M1), x1), ⟨RelA.fail hR.grown hR.bnd fun h => hnn (h.2 i f g_ hf hg).1, hM1⟩, rfl, hm⟩)
  try simp only [nz] at hs_29
  have hnn : f.name = g_.name := by assumption
  iterate 3 refine .P ?_
  refine .K underlying47 sz132 ?_
  refine .F fa132_1 ?_
  refine .M ag3 (Off.sees rfl rfl _ _ ⟨hbA, hhA⟩) (cell_of_take hrf (k := 1) rfl) ?_
  refine .as 35 (.int .i64 (Int.ofNat p)) rfl (congrArg (Value.int .i64) hp0) ?_
  iterate 2 refine .P ?_
  refine .K underlying47 sz132 ?_
  refine .F fa132_1 ?_
  refine .M ag3 (Off.sees rfl rfl _ _ ⟨hbB, hhB⟩) (cell_of_take hrg (k := 1) rfl) ?_
  refine .as 40 (.int .i64 (Int.ofNat q)) rfl (congrArg (Value.int .i64) hq0) ?_
  refine .callc (fun y : CmpY => EqA l M1 p q y.1 ∧ MetA y.1.2 y.2) (fun y => .bool y.1.1) (fun y => [(bm, .map y.2.1 y.2.2)]) .one rfl rfl (by kernel_rfl) (by kernel_rfl) rfl rfl rfl rfl rfl rfl (fun m2 g0 g2 gb gr => heq p q hpl hql m2 x1 M1 g0 g2 hM1 hB1 (hp.mono gb) hu1) (fun y hy => ?_)
  refine .p rfl rfl rfl rfl rfl (.p rfl rfl rfl rfl rfl (.of (.nil (.seq (.cond rfl (fun ht43 => ?_) fun ht43 => ?_)))))
  ·obtain ⟨hy, hyM⟩ := hy
   have hyf : y.1.1 = false := by cases h_ : y.1.1 with | false => rfl | true => rw [h_] at ht43; cases ht43
   refine .seq (.region (.P ?_))
   refine .nil (.seq (.ret (.blk (.seq (.loop (.blk (.seq ?_)))))))
   exact .end_ rfl rfl (fun m hm => ⟨((false, y.1.2), y.2), ⟨RelA.fail (hR.grown.trans hy.grown) (fun h => hy.bnd (hR.bnd h)) fun h => hy.no hyf (by have := (h.2 i f g_ hf hg).2; rw [hp0, hq0] at this; exact this.nat), hyM⟩, rfl, hm⟩)
  obtain ⟨hy, hyM⟩ := hy
  have hyt : y.1.1 = true := by cases h_ : y.1.1 with | true => rfl | false => rw [h_] at ht43; cases ht43
  refine .skip (.blk (.seq (.region (.P ?_))))
  refine .W 44 i ?_
  refine .P ?_
  refine .nil ?_
  exact .loop (i + 1, y.1.2, y.2) ⟨by omega, hR.more hy hyt (hR.all.succ hy.grown hf hg hnn ⟨p, q, hp0, hq0, (hy.yes hyt).1⟩), hyM⟩ (by show L.length - (i + 1) < L.length - i; omega) ⟨rfl, rfl, rfl, rfl, rfl, trivial⟩ (.refl _)
 try simp only [nz] at ht16
 refine .exit (.seq (.loop (.here (.seq (.seq (.region (.P ?_)))))))
 refine .nil (.seq (.ret ?_))
 exact .end_ rfl rfl (fun m hm => ⟨((true, M1), x1), ⟨RelA.good hR (hR.all.all hll (by omega)), hM1⟩, rfl, hm⟩)
theorem cmembers_ok {l : List Ty} {al : Option Addr} {cl bs bm n : Nat} {M : Prs} {x0 : List MapEntry × Nat} {L L2 : List Fld} {va vb : Value} {m : AW} (hm : m.lo ≤ m.next) (hk : Knows [bm] m m (MapC bm x0)) (hM : MetA M x0) (hB : Bnd l M) (hp : CmpPre l al cl bs bm m) (hn : unmet l.length M < n) (heq : ∀ p q : Nat, p < l.length → q < l.length → EqualC prog l al cl bs bm n p q) (hfa : Sl (Off [bm] m) 2 RFld L va) (hfb : Sl (Off [bm] m) 2 RFld L2 vb) (hL : ∀ (j : Nat) (f : Fld), L[j]? = some f → ∃ q : Nat, f.type = Int.ofNat q ∧ q < l.length) (hL2 : ∀ (j : Nat) (f : Fld), L2[j]? = some f → ∃ q : Nat, f.type = Int.ofNat q ∧ q < l.length) (hnd : (fnames L2).Nodup) : Fc prog 134 [ptr bs, va, vb] m fun v m' => RelQ l bm M (fun R => MemR R L L2) m v m' := by
 obtain ⟨aa, ca, rfl, hna, hfa⟩ := hfa
 obtain ⟨ab, cb, rfl, hnb, hfb⟩ := hfb
 have hM0 := hM
 have hB0 := hB
 have hn0 := hn
 refine Fc.bodyS (S := [bm]) (c := _) func134 rfl rfl rfl rfl hk ?_
 refine .seq (.region (.P ?_))
 refine .nil (.seq (.seq (.seq (.region (.P ?_)))))
 refine .G (ln47 ..) ?_
 refine .P ?_
 refine .G (ln47 ..) ?_
 refine .P ?_
 refine .nil (.seq (.cond rfl (fun ht18 => ?_) fun ht18 => ?_))
 ·try simp only [nz] at ht18
  refine .seq (.region (.P ?_))
  refine .nil (.seq (.ret (.seq ?_)))
  exact .end_ rfl rfl (fun m hm => ⟨((false, M), x0), ⟨RelA.fail (Grown.refl _) id fun h => absurd h.1 (by omega), hM⟩, rfl, hm⟩)
 try simp only [nz] at ht18
 have hll : L.length = L2.length := by omega
 refine .skip (.seq (.seq (.region ?_)))
 refine .makeMap rfl rfl rfl rfl (fun b19 hb19 => ?_)
 refine .P ?_
 refine .nil (.seq (.seq (.seq (.region (.P ?_)))))
 refine .G (ln47 ..) ?_
 refine .P ?_
 refine .nil (.seq (.block ?_))
 refine .loop (α := Nat × List MapEntry × Nat × List (ByteArray × Value)) (fun q => [(0, ptr bs), (1, .slice aa L.length ca), (7, .map (some b19)), (20, .slice ab L2.length cb), (21, .int .i64 (Int.ofNat (L2.length))), (22, .int .i64 (Int.ofNat (q.1)))]) (fun q => [(b19, .map q.2.1 q.2.2.1), (bm, .map x0.1 x0.2)]) (fun q => q.1 ≤ L2.length ∧ PairsK Value.string q.2.1 q.2.2.2 ∧ TypN (L2.take q.1) q.2.2.2) (fun q => L2.length - q.1) (0, [], 0, []) ⟨Nat.zero_le _, trivial, TypN.nil⟩ ⟨rfl, rfl, rfl, rfl, rfl, rfl, trivial⟩ (.refl _) (fun q hq0 => ?_)
 obtain ⟨i, es, c, lN⟩ := q
 obtain ⟨hi, hP, hN⟩ := hq0
 simp only at hi hP hN
 refine .seq (.region (.P ?_))
 refine .nil (.seq (.seq (.cond rfl (fun ht23 => ?_) fun ht23 => ?_)))
 ·try simp only [nz] at ht23
  have hltB : i < L2.length := by omega
  obtain ⟨g_, hg⟩ := gx hltB
  obtain ⟨bB, offB, csB, elB, gB, mdB, mateB, rfl, ⟨hbB, hhB⟩, hleB, hcB⟩ := so hfb hltB
  have hrg := hcB i g_ hg
  refine .skip (.seq (.seq (.block (.seq (.region (.K underlying47 sz132 ?_))))))
  refine .A ag132 sz132 (Off.sees rfl rfl _ _ ⟨hbB, hhB⟩) hrg ?_
  refine .alloc rfl rfl rfl rfl zr132 (fun b9 hb9 => ?_)
  refine .S sz132 ?_
  refine .nil (.seq (.region (.P ?_)))
  refine .F fa132_0 ?_
  refine .L ag9 ?_
  refine .F fa132_1 ?_
  refine .L ag3 ?_
  refine .mapUpdate (K := Value.string) (.tail .one) hP (KeyOk.string underlying9) rfl rfl rfl underlying206 rfl rfl rfl (fun es1 c1 hP1 => ?_)
  refine .nil (.blk (.seq (.region (.P ?_))))
  refine .W 31 i ?_
  refine .P ?_
  refine .nil ?_
  exact .loop (i + 1, es1, c1, _) ⟨hltB, hP1, hN.take hnd hg⟩ (by show L2.length - (i + 1) < L2.length - i; omega) ⟨rfl, rfl, rfl, rfl, rfl, rfl, trivial⟩ (.cons_cons _ (.cons _ (.refl _)))
 try simp only [nz] at ht23
 rw [List.take_of_length_le (show L2.length ≤ i by omega)] at hN
 refine .exit (.seq (.loop (.here (.seq (.seq (.seq (.region (.P ?_))))))))
 refine .G (ln47 ..) ?_
 refine .P ?_
 refine .nil (.seq (.block ?_))
 refine .swap (.swap _ _ _) (.loop (α := Nat × Prs × (List MapEntry × Nat)) (fun q => [(0, ptr bs), (7, .map (some b19)), (32, .slice aa L.length ca), (33, .int .i64 (Int.ofNat (L.length))), (34, .int .i64 (Int.ofNat (q.1)))]) (fun q => [(bm, .map q.2.2.1 q.2.2.2), (b19, .map es c)]) (fun q => q.1 ≤ L.length ∧ RowA l M q.2.1 (MemU (InM q.2.1) L L2 q.1) ∧ MetA q.2.1 q.2.2) (fun q => L.length - q.1) (0, M, x0) ⟨Nat.zero_le _, RowA.init (fun _ _ h => absurd h (Nat.not_lt_zero _)), hM0⟩ ⟨rfl, rfl, rfl, rfl, rfl, trivial⟩ (.refl _) (fun q hq0 => ?_))
 obtain ⟨k, M1, x1⟩ := q
 obtain ⟨hk, hR, hM1⟩ := hq0
 simp only at hk hR hM1
 have hB1 := hR.bnd hB0
 have hu1 := Nat.lt_of_le_of_lt (unmet_le (n := l.length) hR.grown) hn0
 refine .seq (.region (.P ?_))
 refine .nil (.seq (.seq (.cond rfl (fun ht35 => ?_) fun ht35 => ?_)))
 ·try simp only [nz] at ht35
  have hltA : k < L.length := by omega
  obtain ⟨f, hf⟩ := gx hltA
  obtain ⟨bA, offA, csA, elA, gA, mdA, mateA, rfl, ⟨hbA, hhA⟩, hleA, hcA⟩ := so hfa hltA
  have hrf := hcA k f hf
  obtain ⟨p, hp0, hpl⟩ := hL k f hf
  refine .skip (.seq (.seq (.block (.seq (.region (.K underlying47 sz132 ?_))))))
  refine .A ag132 sz132 (Off.sees rfl rfl _ _ ⟨hbA, hhA⟩) hrf ?_
  refine .alloc rfl rfl rfl rfl zr132 (fun b11 hb11 => ?_)
  refine .S sz132 ?_
  refine .nil (.seq (.seq (.region (.P ?_))))
  refine .F fa132_0 ?_
  refine .L ag9 ?_
  rcases hfnd : L2.find? (fun h => decide (h.name = f.name)) with _ | g_
  ·refine .lookupOk (K := Value.string) (.tail (.tail .one)) hP (KeyOk.string underlying9) rfl rfl rfl rfl underlying206 zr3 rfl rfl (v := .tuple ⟨[.int .i64 0, .bool false]⟩) (by rw [hN f.name, hfnd]; rfl) ?_
   iterate 5 refine .P ?_
   refine .nil (.seq (.seq (.region (.P3 ?_))))
   iterate 6 refine .O ?_
   refine .P ?_
   refine .nil (.seq (.cond_true rfl (.seq (.region (.P ?_)))))
   refine .nil (.seq (.ret (.blk (.seq (.loop (.blk (.seq ?_)))))))
   exact .end_ rfl rfl (by first | exact (fun m hm => ⟨((false, M1), x1), ⟨RelA.fail hR.grown hR.bnd fun h => (by obtain ⟨w, h1, h2, _⟩ := h.2 f (List.mem_of_getElem? hf); have := List.find?_eq_none.1 hfnd w h1; simp [h2] at this), hM1⟩, rfl, hm.sub (.cons _ (.cons_cons _ (List.nil_sublist _)))⟩) | exact (fun m hm => ⟨((false, y.1.2), y.2), ⟨RelA.fail (hR.grown.trans hy.grown) (fun h => hy.bnd (hR.bnd h)) fun h => hy.no hyf (by obtain ⟨w, h1, h2, h3⟩ := h.2 f (List.mem_of_getElem? hf); have he := mem_one hnd h1 hgm (h2.trans hgn.symm); subst he; rw [hp0, hq0] at h3; exact h3.nat), hyM⟩, rfl, hm.sub (.cons_cons _ (List.nil_sublist _))⟩) | exact (fun m hm => ⟨((true, M1), x1), ⟨RelA.good hR (hR.all.all hll (by omega)), hM1⟩, rfl, hm.sub (.cons_cons _ (List.nil_sublist _))⟩))
  obtain ⟨hgm, hgn⟩ := find_mem hfnd
  obtain ⟨jg, hjg⟩ := List.getElem?_of_mem hgm
  obtain ⟨q, hq0, hql⟩ := hL2 jg g_ hjg
  refine .lookupOk (K := Value.string) (.tail (.tail .one)) hP (KeyOk.string underlying9) rfl rfl rfl rfl underlying206 zr3 rfl rfl (v := .tuple ⟨[.int .i64 g_.type, .bool true]⟩) (by rw [hN f.name, hfnd]; rfl) ?_
  iterate 5 refine .P ?_
  refine .nil (.seq (.seq (.region ?_)))
  iterate 4 refine .P ?_
  refine .F fa132_1 ?_
  refine .L ag3 ?_
  refine .as 50 (.int .i64 (Int.ofNat p)) rfl (congrArg (Value.int .i64) hp0) ?_
  refine .P ?_
  refine .as 51 (.int .i64 (Int.ofNat q)) rfl (congrArg (Value.int .i64) hq0) ?_
  refine .callc (fun y : CmpY => EqA l M1 p q y.1 ∧ MetA y.1.2 y.2) (fun y => .bool y.1.1) (fun y => [(bm, .map y.2.1 y.2.2)]) (.tail .one) rfl rfl rfl rfl rfl rfl (fun m2 g1 g2 => heq p q hpl hql m2 x1 M1 g1.lole' g2 hM1 hB1 (hp.mono (Off.kr g1.kr)) hu1) (fun y hy => ?_)
  refine .P2 ?_
  refine .nil (.seq (.cond rfl (fun ht54 => ?_) fun ht54 => ?_))
  ·obtain ⟨hy, hyM⟩ := hy
   have hyf : y.1.1 = false := by cases h_ : y.1.1 with | false => rfl | true => rw [h_] at ht54; cases ht54
   refine .seq (.region (.P ?_))
   refine .nil (.seq (.ret (.blk (.seq (.loop (.blk (.seq ?_)))))))
   exact .end_ rfl rfl (by first | exact (fun m hm => ⟨((false, M1), x1), ⟨RelA.fail hR.grown hR.bnd fun h => (by obtain ⟨w, h1, h2, _⟩ := h.2 f (List.mem_of_getElem? hf); have := List.find?_eq_none.1 hfnd w h1; simp [h2] at this), hM1⟩, rfl, hm.sub (.cons _ (.cons_cons _ (List.nil_sublist _)))⟩) | exact (fun m hm => ⟨((false, y.1.2), y.2), ⟨RelA.fail (hR.grown.trans hy.grown) (fun h => hy.bnd (hR.bnd h)) fun h => hy.no hyf (by obtain ⟨w, h1, h2, h3⟩ := h.2 f (List.mem_of_getElem? hf); have he := mem_one hnd h1 hgm (h2.trans hgn.symm); subst he; rw [hp0, hq0] at h3; exact h3.nat), hyM⟩, rfl, hm.sub (.cons_cons _ (List.nil_sublist _))⟩) | exact (fun m hm => ⟨((true, M1), x1), ⟨RelA.good hR (hR.all.all hll (by omega)), hM1⟩, rfl, hm.sub (.cons_cons _ (List.nil_sublist _))⟩))
  obtain ⟨hy, hyM⟩ := hy
  have hyt : y.1.1 = true := by cases h_ : y.1.1 with | true => rfl | false => rw [h_] at ht54; cases ht54
  refine .skip (.blk (.seq (.region (.P ?_))))
  refine .W 55 k ?_
  refine .P ?_
  refine .nil ?_
  exact .loop (k + 1, y.1.2, y.2) ⟨by omega, hR.more hy hyt (hR.all.succ hy.grown hf hgm hgn ⟨p, q, hp0, hq0, (hy.yes hyt).1⟩), hyM⟩ (by show L.length - (k + 1) < L.length - k; omega) ⟨rfl, rfl, rfl, rfl, rfl, trivial⟩ (.cons_cons _ (.cons _ (.refl _)))
 try simp only [nz] at ht35
 refine .exit (.seq (.loop (.here (.seq (.seq (.region (.P ?_)))))))
 refine .nil (.seq (.ret ?_))
 exact .end_ rfl rfl (by first | exact (fun m hm => ⟨((false, M1), x1), ⟨RelA.fail hR.grown hR.bnd fun h => (by obtain ⟨w, h1, h2, _⟩ := h.2 f (List.mem_of_getElem? hf); have := List.find?_eq_none.1 hfnd w h1; simp [h2] at this), hM1⟩, rfl, hm.sub (.cons _ (.cons_cons _ (List.nil_sublist _)))⟩) | exact (fun m hm => ⟨((false, y.1.2), y.2), ⟨RelA.fail (hR.grown.trans hy.grown) (fun h => hy.bnd (hR.bnd h)) fun h => hy.no hyf (by obtain ⟨w, h1, h2, h3⟩ := h.2 f (List.mem_of_getElem? hf); have he := mem_one hnd h1 hgm (h2.trans hgn.symm); subst he; rw [hp0, hq0] at h3; exact h3.nat), hyM⟩, rfl, hm.sub (.cons_cons _ (List.nil_sublist _))⟩) | exact (fun m hm => ⟨((true, M1), x1), ⟨RelA.good hR (hR.all.all hll (by omega)), hM1⟩, rfl, hm.sub (.cons_cons _ (List.nil_sublist _))⟩))
theorem PT165 : PairT prog 165 3 .i64 := ⟨underlying165, underlying3, sz3, fun _ _ => by kernel_rfl, fun _ _ => by kernel_rfl⟩
theorem cequal_step {l : List Ty} {al : Option Addr} {cl bs bm n : Nat} {M : Prs} {x0 : List MapEntry × Nat} {a b_ : Nat} {m : AW} (hm : m.lo ≤ m.next) (hk : Knows [bm] m m (MapC bm x0)) (hM : MetA M x0) (hBd : Bnd l M) (hp : CmpPre l al cl bs bm m) (hn : unmet l.length M < n + 1) (hWl : Well l) (ha : a < l.length) (hb_ : b_ < l.length) (ih : ∀ p q : Nat, p < l.length → q < l.length → EqualC prog l al cl bs bm n p q) : Fc prog 105 [ptr bs, .int .i64 (Int.ofNat (a)), .int .i64 (Int.ofNat (b_))] m fun v m' => EqQ l bm M a b_ m v m' := by
 have hsS := hp.hs
 have hbsl := hsS.1
 have hsnd := hWl.sound
 obtain ⟨a_, cap_, he_, hnl, hl⟩ := hp.hl
 cases he_
 obtain ⟨x_, hx_⟩ := gx ha
 obtain ⟨y_, hy_⟩ := gx hb_
 rcases hl with ⟨e0, -⟩ | ⟨b, off, cs, el, g, md, mate, rfl, ⟨hb, hh⟩, hle, hc⟩
 ·rw [e0] at ha; simp at ha
 have hrX := hc a x_ hx_
 obtain ⟨veX, vfX, vaX, hrX, heX, hfX, hgX⟩ := hrX
 obtain ⟨aeX, ceX, rfl, hneX, heX⟩ := heX
 have hfSX := hfX
 obtain ⟨afX, cfX, rfl, hnfX, hfX⟩ := hfX
 obtain ⟨aaX, caX, rfl, hnaX, hgX⟩ := hgX
 have hrY := hc b_ y_ hy_
 obtain ⟨veY, vfY, vaY, hrY, heY, hfY, hgY⟩ := hrY
 obtain ⟨aeY, ceY, rfl, hneY, heY⟩ := heY
 have hfSY := hfY
 obtain ⟨afY, cfY, rfl, hnfY, hfY⟩ := hfY
 obtain ⟨aaY, caY, rfl, hnaY, hgY⟩ := hgY
 have hM0 := hM
 obtain ⟨lM, hP, hD⟩ := hM
 refine Fc.bodyS (S := [bm]) (c := _) func105 rfl rfl rfl rfl hk ?_
 refine .seq (.region (.P ?_))
 refine .nil (.seq (.seq (.seq (.region ?_))))
 iterate 4 refine .P ?_
 refine .splitB 14 rfl (fun hs_14 => ?_) (fun hs_14 => ?_)
 ·try simp only [nz] at hs_14
  have hab : a = b_ := by omega
  iterate 8 refine .O ?_
  refine .P ?_
  refine .nil (.seq (.cond_true rfl (.seq (.region (.P ?_)))))
  refine .nil (.seq (.ret (.seq ?_)))
  exact .end_ rfl rfl (fun m hm => ⟨((true, M), x0), ⟨EqA.here (.inl hab), hM0⟩, rfl, hm⟩)
 try simp only [nz] at hs_14
 refine .P2 ?_
 refine .F fa163_1 ?_
 refine .M ag161 (Off.sees rfl rfl _ _ hsS) rfl ?_
 refine .P2 ?_
 refine .p (v := pairV .i64 (Int.ofNat a, Int.ofNat b_)) rfl rfl rfl (by kernel_rfl) ?_
 refine .lookup (K := pairV .i64) (kv := (Int.ofNat a, Int.ofNat b_)) .one hP (KeyOk.pair PT165) rfl rfl rfl rfl underlying161 zr4 rfl rfl (MetA.look hD a b_) ?_
 refine .P ?_
 refine .nil (.seq (.cond rfl (fun ht23 => ?_) fun ht23 => ?_))
 ·have hin := of_decide_eq_true ht23
  refine .seq (.region (.P ?_))
  refine .nil (.seq (.ret (.seq ?_)))
  exact .end_ rfl rfl (fun m hm => ⟨((true, M), x0), ⟨EqA.here (.inr hin), hM0⟩, rfl, hm⟩)
 have hnm := of_decide_eq_false ht23
 refine .skip (.seq (.seq (.region (.P2 ?_))))
 refine .F fa163_1 ?_
 refine .M ag161 (Off.sees rfl rfl _ _ hsS) rfl ?_
 refine .P2 ?_
 refine .p (v := pairV .i64 (Int.ofNat a, Int.ofNat b_)) rfl rfl rfl (by kernel_rfl) ?_
 refine .mapUpdate (K := pairV .i64) (kv := (Int.ofNat a, Int.ofNat b_)) .one hP (KeyOk.pair PT165) rfl rfl rfl underlying161 rfl rfl rfl (fun es1 c1 hP1 => ?_)
 have hM0 := MetA.put (c := c1) hD hP1
 have hB0 := hBd.cons ha hb_
 have hn0 : unmet l.length ((a, b_) :: M) < n := by have := unmet_lt ha hb_ hnm (M' := (a, b_) :: M) (fun p hp => List.mem_cons_of_mem _ hp) List.mem_cons_self; omega
 refine .nil (.seq (.seq ?_))
 refine .D [(15, 0), (15, 1), (15, 3), (3, 7), (15, 0), (15, 31), (3, 63), (13, 0), (13, 128), (13, 384), (1, 896), (13, 0), (13, 3968), (1, 8064), (11, 0), (11, 0), (7, 49279), (7, 131071)] (by kernel_rfl) (by kernel_rfl) (fun base hbase hB => ?_)
 iterate 2 refine .P ?_
 refine .F fa163_0 ?_
 refine .M ag22 (Off.sees rfl rfl _ _ hsS) rfl ?_
 refine .P ?_
 refine .K underlying22 sz50 ?_
 refine .loadAgg rfl rfl rfl rfl rfl rfl rfl rfl ag50 sz50 (Off.sees rfl rfl _ _ ⟨hb, hh⟩) (by omega) hrX ?_
 iterate 2 refine .P ?_
 refine .F fa163_0 ?_
 refine .loadOld rfl rfl rfl rfl rfl rfl ag22 (Off.sees rfl rfl _ _ hsS) rfl (by first | exact hB _ _ (.head _) | exact hB _ _ (.tail _ (.head _)) | exact hB _ _ (.tail _ (.tail _ (.head _))) | exact hB _ _ (.tail _ (.tail _ (.tail _ (.head _)))) | exact hB _ _ (List.mem_append_right _ (.head _)) | exact hB _ _ (List.mem_append_right _ (.tail _ (.head _))) | exact Nat.lt_of_lt_of_le ‹_› hbase) ?_
 refine .P ?_
 refine .K underlying22 sz50 ?_
 refine .loadAggOld rfl rfl rfl rfl rfl rfl ag50 sz50 (Off.sees rfl rfl _ _ ⟨hb, hh⟩) (by omega) hrY (by first | exact hB _ _ (.head _) | exact hB _ _ (.tail _ (.head _)) | exact hB _ _ (.tail _ (.tail _ (.head _))) | exact hB _ _ (.tail _ (.tail _ (.tail _ (.head _)))) | exact hB _ _ (List.mem_append_right _ (.head _)) | exact hB _ _ (List.mem_append_right _ (.tail _ (.head _))) | exact Nat.lt_of_lt_of_le ‹_› hbase) ?_
 refine .alloc rfl rfl rfl rfl rfl zr50 (fun b7 hn7 hb7 => ?_)
 refine .alloc rfl rfl rfl rfl rfl zr50 (fun b8 hn8 hb8 => ?_)
 refine .storeNew rfl rfl (by kernel_rfl) hn7 rfl rfl rfl rfl rfl sz50 rfl (by first | exact .head | exact .tail .head | exact .tail (.tail .head) | exact .tail (.tail (.tail .head)) | exact updo) rfl ?_
 refine .storeNew rfl rfl (by kernel_rfl) hn8 rfl rfl rfl rfl rfl sz50 rfl (by first | exact .head | exact .tail .head | exact .tail (.tail .head) | exact .tail (.tail (.tail .head)) | exact updo) rfl ?_
 refine .nil (.seq ?_)
 refine .joinA (HeadR x_ y_) [] ?_ (fun hhd => ?_)
 ·refine .seq (.region (.F fa50_0 ?_))
  refine .L ag3 ?_
  refine .F fa50_0 ?_
  refine .L ag3 ?_
  refine .P2 ?_
  refine .splitB 50 rfl (fun hs_50 => ?_) (fun hs_50 => ?_)
  ·try simp only [nz] at hs_50
   iterate 7 refine .O ?_
   refine .P2 ?_
   iterate 7 refine .O ?_
   refine .P2 ?_
   iterate 10 refine .O ?_
   refine .P ?_
   refine .nil (.seq (.cond_true rfl (.seq (.region (.P ?_)))))
   refine .nil (.seq (.ret (.jn ?_)))
   exact .end_ rfl rfl (fun m hm => ⟨((false, (a, b_) :: M), (es1, c1)), ⟨EqA.fail (fun p hp => List.mem_cons_of_mem _ hp) (fun hM => hM.cons ha hb_) (fun h => (by obtain ⟨h1, h2, h3, h4⟩ := (h.ty hsnd hx_ hy_).head; first | omega | exact absurd (h4 (by omega)) (by assumption))), hM0⟩, rfl, hm.sub (.cons _ (.cons _ (.refl _)))⟩)
  try simp only [nz] at hs_50
  refine .F fa50_1 ?_
  refine .L ag32 ?_
  refine .G (ln32 ..) ?_
  refine .F fa50_1 ?_
  refine .L ag32 ?_
  refine .G (ln32 ..) ?_
  refine .P3 ?_
  refine .splitB 59 rfl (fun hs_59 => ?_) (fun hs_59 => ?_)
  ·try simp only [nz] at hs_59
   iterate 7 refine .O ?_
   refine .P2 ?_
   iterate 10 refine .O ?_
   refine .P ?_
   refine .nil (.seq (.cond_true rfl (.seq (.region (.P ?_)))))
   refine .nil (.seq (.ret (.jn ?_)))
   exact .end_ rfl rfl (fun m hm => ⟨((false, (a, b_) :: M), (es1, c1)), ⟨EqA.fail (fun p hp => List.mem_cons_of_mem _ hp) (fun hM => hM.cons ha hb_) (fun h => (by obtain ⟨h1, h2, h3, h4⟩ := (h.ty hsnd hx_ hy_).head; first | omega | exact absurd (h4 (by omega)) (by assumption))), hM0⟩, rfl, hm.sub (.cons _ (.cons _ (.refl _)))⟩)
  try simp only [nz] at hs_59
  refine .F fa50_4 ?_
  refine .L ag48 ?_
  refine .G (ln48 ..) ?_
  refine .F fa50_4 ?_
  refine .L ag48 ?_
  refine .G (ln48 ..) ?_
  refine .P3 ?_
  refine .splitB 68 rfl (fun hs_68 => ?_) (fun hs_68 => ?_)
  ·try simp only [nz] at hs_68
   iterate 10 refine .O ?_
   refine .P ?_
   refine .nil (.seq (.cond_true rfl (.seq (.region (.P ?_)))))
   refine .nil (.seq (.ret (.jn ?_)))
   exact .end_ rfl rfl (fun m hm => ⟨((false, (a, b_) :: M), (es1, c1)), ⟨EqA.fail (fun p hp => List.mem_cons_of_mem _ hp) (fun hM => hM.cons ha hb_) (fun h => (by obtain ⟨h1, h2, h3, h4⟩ := (h.ty hsnd hx_ hy_).head; first | omega | exact absurd (h4 (by omega)) (by assumption))), hM0⟩, rfl, hm.sub (.cons _ (.cons _ (.refl _)))⟩)
  try simp only [nz] at hs_68
  refine .F fa50_0 ?_
  refine .L ag3 ?_
  refine .P2 ?_
  refine .splitB 72 rfl (fun hs_72 => ?_) (fun hs_72 => ?_)
  ·try simp only [nz] at hs_72
   refine .F fa50_2 ?_
   refine .L ag9 ?_
   refine .F fa50_2 ?_
   refine .L ag9 ?_
   refine .P3 ?_
   refine .nil (.seq (.cond rfl (fun ht79 => ?_) fun ht79 => ?_))
   ·try simp only [nz] at ht79
    refine .seq (.region (.P ?_))
    refine .nil (.seq (.ret (.jn ?_)))
    exact .end_ rfl rfl (fun m hm => ⟨((false, (a, b_) :: M), (es1, c1)), ⟨EqA.fail (fun p hp => List.mem_cons_of_mem _ hp) (fun hM => hM.cons ha hb_) (fun h => (by obtain ⟨h1, h2, h3, h4⟩ := (h.ty hsnd hx_ hy_).head; first | omega | exact absurd (h4 (by omega)) (by assumption))), hM0⟩, rfl, hm.sub (.cons _ (.cons _ (.refl _)))⟩)
   try simp only [nz] at ht79
   refine .skip ?_
   exact .J (⟨by omega, by omega, by omega, fun h9 => (by first | assumption | omega)⟩)
  try simp only [nz] at hs_72
  iterate 5 refine .O ?_
  refine .P2 ?_
  refine .nil (.seq (.cond_false rfl (.skip ?_)))
  exact .J (⟨by omega, by omega, by omega, fun h9 => (by first | assumption | omega)⟩)
 refine .seq (.seq (.region (.F fa50_1 ?_)))
 refine .L ag32 ?_
 refine .G (ln32 ..) ?_
 refine .P ?_
 refine .nil (.seq (.block ?_))
 refine .swap (Pick.perm (.tail (.tail .one))) (.loop (α := Nat × Prs × (List MapEntry × Nat)) (fun q => [(0, ptr bs), (7, ptr b7), (8, ptr b8), (81, .slice aeX x_.elems.length ceX), (82, .int .i64 (Int.ofNat (x_.elems.length))), (83, .int .i64 (Int.ofNat (q.1)))]) (fun q => [(bm, .map q.2.2.1 q.2.2.2), (b8, .cells [.int .i64 y_.kind, .slice aeY y_.elems.length ceY, .string y_.name, .slice afY y_.fields.length cfY, .slice aaY y_.arms.length caY] 50 false .plain none), (b7, .cells [.int .i64 x_.kind, .slice aeX x_.elems.length ceX, .string x_.name, .slice afX x_.fields.length cfX, .slice aaX x_.arms.length caX] 50 false .plain none)]) (fun q => q.1 ≤ x_.elems.length ∧ RowA l ((a, b_) :: M) q.2.1 (ElsU (InM q.2.1) x_.elems y_.elems q.1) ∧ MetA q.2.1 q.2.2) (fun q => x_.elems.length - q.1) (0, ((a, b_) :: M), (es1, c1)) ⟨Nat.zero_le _, RowA.init (fun _ _ _ h => absurd h (Nat.not_lt_zero _)), hM0⟩ ⟨rfl, rfl, rfl, rfl, rfl, rfl, trivial⟩ (.refl _) (fun q hq0 => ?_))
 obtain ⟨i, M1, x1⟩ := q
 obtain ⟨hi, hR, hM1⟩ := hq0
 simp only at hi hR hM1
 have hB1 := hR.bnd hB0
 have hu1 := Nat.lt_of_le_of_lt (unmet_le (n := l.length) hR.grown) hn0
 refine .seq (.region (.P ?_))
 refine .nil (.seq (.seq (.cond rfl (fun ht84 => ?_) fun ht84 => ?_)))
 ·try simp only [nz] at ht84
  have hltE : i < x_.elems.length := by omega
  obtain ⟨p0, hp0⟩ := gx hltE
  obtain ⟨bE, offE, csE, elE, gE, mdE, mateE, rfl, ⟨hbE, hhE⟩, hleE, hcE⟩ := so heX hltE
  have hrp := hcE i p0 hp0
  have hltG : i < y_.elems.length := by have := hhd.2.1; omega
  obtain ⟨q0, hq0_⟩ := gx hltG
  obtain ⟨bG, offG, csG, elG, gG, mdG, mateG, rfl, ⟨hbG, hhG⟩, hleG, hcG⟩ := so heY hltG
  have hrq := hcG i q0 hq0_
  obtain ⟨p, rfl, hpl⟩ := parts_in (hsnd a x_ hx_) (parts_elem hp0)
  obtain ⟨q, rfl, hql⟩ := parts_in (hsnd b_ y_ hy_) (parts_elem hq0_)
  refine .skip (.seq (.seq (.block (.seq (.region (.P2 ?_))))))
  refine .nil (.seq (.seq ?_))
  refine .D [(15, 0), (15, 0), (3, 2), (15, 0), (15, 14), (3, 30), (15, 0), (3, 64), (15, 0), (15, 448), (3, 960), (7, 2047), (15, 4095)] (by kernel_rfl) (by kernel_rfl) (fun base hbase hB => ?_)
  refine .P ?_
  refine .F fa50_1 ?_
  refine .J ag32 ?_
  refine .P ?_
  refine .K underlying32 sz3 ?_
  refine .M ag3 (Off.sees rfl rfl _ _ ⟨hbE, hhE⟩) (cell_of_take hrp (k := 0) rfl) ?_
  refine .F fa50_1 ?_
  refine .J ag32 ?_
  refine .P ?_
  refine .K underlying32 sz3 ?_
  refine .M ag3 (Off.sees rfl rfl _ _ ⟨hbG, hhG⟩) (cell_of_take hrq (k := 0) rfl) ?_
  refine .callc (fun y : CmpY => EqA l M1 p q y.1 ∧ MetA y.1.2 y.2) (fun y => .bool y.1.1) (fun y => [(bm, .map y.2.1 y.2.2)]) .one rfl rfl (by kernel_rfl) (by kernel_rfl) rfl rfl rfl rfl rfl rfl (fun m2 g0 g2 gb gr => ih p q hpl hql m2 x1 M1 g0 g2 hM1 hB1 (hp.mono gb) hu1) (fun y hy => ?_)
  refine .p rfl rfl rfl rfl rfl (.of (.nil (.seq (.cond rfl (fun ht98 => ?_) fun ht98 => ?_))))
  ·obtain ⟨hy, hyM⟩ := hy
   have hyf : y.1.1 = false := by cases h_ : y.1.1 with | false => rfl | true => rw [h_] at ht98; cases ht98
   refine .seq (.region (.P ?_))
   refine .nil (.seq (.ret (.blk (.seq (.loop (.blk (.seq ?_)))))))
   exact .end_ rfl rfl (fun m hm => ⟨((false, y.1.2), y.2), ⟨EqA.stop hx_ hy_ hR hy.grown hy.bnd fun h => hy.no hyf (((h.ty hsnd hx_ hy_).els.2 i _ _ hp0 hq0_).nat), hyM⟩, rfl, hm.sub (.cons_cons _ (List.nil_sublist _))⟩)
  obtain ⟨hy, hyM⟩ := hy
  have hyt : y.1.1 = true := by cases h_ : y.1.1 with | true => rfl | false => rw [h_] at ht98; cases ht98
  refine .skip (.blk (.seq (.region (.P ?_))))
  refine .W 99 i ?_
  refine .P ?_
  refine .nil ?_
  exact .loop (i + 1, y.1.2, y.2) ⟨by omega, hR.more hy hyt (hR.all.succ hy.grown hp0 hq0_ ⟨p, q, rfl, rfl, (hy.yes hyt).1⟩), hyM⟩ (by show x_.elems.length - (i + 1) < x_.elems.length - i; omega) ⟨rfl, rfl, rfl, rfl, rfl, rfl, trivial⟩ (.refl _)
 try simp only [nz] at ht84
 have hels : ElsR (InM M1) x_.elems y_.elems := hR.all.all hhd.2.1 (by omega)
 refine .exit (.seq (.loop (.here (.seq (.seq (.seq (.region (.F fa50_0 ?_))))))))
 refine .L ag3 ?_
 refine .P ?_
 refine .nil (.seq (.cond rfl (fun ht102 => ?_) fun ht102 => ?_))
 ·try simp only [nz] at ht102
  have hk13 : x_.kind = 13 := by omega
  refine .seq (.region (.P ?_))
  refine .F fa50_3 ?_
  refine .L ag47 ?_
  refine .F fa50_3 ?_
  refine .L ag47 ?_
  refine .callc (fun y : CmpY => RelA l M1 (fun R => MemR R x_.fields y_.fields) y.1 ∧ MetA y.1.2 y.2) (fun y => .bool y.1.1) (fun y => [(bm, .map y.2.1 y.2.2)]) .one rfl rfl rfl rfl rfl rfl (fun m2 g1 g2 => cmembers_ok (x0 := x1) g1.lole' g2 hM1 hB1 (hp.mono (Off.kr g1.kr)) hu1 ih (hfSX.mono (Off.kr g1.kr) fun _ _ h => h) (hfSY.mono (Off.kr g1.kr) fun _ _ h => h) (parts_ok_fld (hsnd a x_ hx_) fun f_ hf_ => parts_fldm hf_) (parts_ok_fld (hsnd b_ y_ hy_) fun f_ hf_ => parts_fldm hf_) (nodup_fields (hWl.all b_ y_ hy_))) (fun y hy => ?_)
  refine .P ?_
  refine .nil (.seq (.ret (.seq ?_)))
  exact .end_ rfl rfl (fun m hm => ⟨y, ⟨EqA.mods hsnd hx_ hy_ hhd hk13 (single_zero (hWl.all a x_ hx_)).1 (single_zero (hWl.all b_ y_ hy_)).1 hR hels hy.1, hy.2⟩, rfl, hm.sub (.cons_cons _ (List.nil_sublist _))⟩)
 try simp only [nz] at ht102
 have hk13 : x_.kind ≠ 13 := by omega
 refine .skip (.seq (.seq (.seq (.region (.P ?_)))))
 refine .F fa50_3 ?_
 refine .L ag47 ?_
 refine .F fa50_3 ?_
 refine .L ag47 ?_
 refine .callc (fun y : CmpY => RelA l M1 (fun R => FldsR R x_.fields y_.fields) y.1 ∧ MetA y.1.2 y.2) (fun y => .bool y.1.1) (fun y => [(bm, .map y.2.1 y.2.2)]) .one rfl rfl rfl rfl rfl rfl (fun m2 g1 g2 => cfields_ok (x0 := x1) g1.lole' g2 hM1 hB1 (hp.mono (Off.kr g1.kr)) hu1 ih (hfSX.mono (Off.kr g1.kr) fun _ _ h => h) (hfSY.mono (Off.kr g1.kr) fun _ _ h => h) (parts_ok_fld (hsnd a x_ hx_) fun f_ hf_ => parts_fldm hf_) (parts_ok_fld (hsnd b_ y_ hy_) fun f_ hf_ => parts_fldm hf_)) (fun y hy => ?_)
 refine .P ?_
 refine .nil (.seq (.cond rfl (fun ht115 => ?_) fun ht115 => ?_))
 ·obtain ⟨hy, hyM⟩ := hy
  have hyf : y.1.1 = false := by cases h_ : y.1.1 with | false => rfl | true => rw [h_] at ht115; cases ht115
  refine .seq (.region (.P ?_))
  refine .nil (.seq (.ret (.seq ?_)))
  exact .end_ rfl rfl (fun m hm => ⟨((false, y.1.2), y.2), ⟨EqA.stop hx_ hy_ hR hy.grown hy.bnd fun h => hy.no hyf (by have := (h.ty hsnd hx_ hy_).flds; rw [if_neg hk13] at this; exact this), hyM⟩, rfl, hm.sub (.cons_cons _ (List.nil_sublist _))⟩)
 obtain ⟨hy, hyM⟩ := hy
 have hyt : y.1.1 = true := by cases h_ : y.1.1 with | true => rfl | false => rw [h_] at ht115; cases ht115
 refine .skip (.seq (.seq (.seq (.region (.F fa50_4 ?_)))))
 refine .L ag48 ?_
 refine .G (ln48 ..) ?_
 refine .P ?_
 refine .nil (.seq (.block ?_))
 have hR0 := hR.moreR hy hyt (P2 := ElsR (InM y.1.2) x_.elems y_.elems ∧ FldsR (InM y.1.2) x_.fields y_.fields) ⟨hels.mono (InM.mono hy.grown), (hy.yes hyt).2⟩
 have hM0 := hyM
 have hB0 := hR0.bnd (hBd.cons ha hb_)
 have hn0 := Nat.lt_of_le_of_lt (unmet_le (n := l.length) hR0.grown) hn0
 refine .loop (α := Nat × Prs × (List MapEntry × Nat)) (fun q => [(0, ptr bs), (7, ptr b7), (8, ptr b8), (117, .slice aaX x_.arms.length caX), (118, .int .i64 (Int.ofNat (x_.arms.length))), (119, .int .i64 (Int.ofNat (q.1)))]) (fun q => [(bm, .map q.2.2.1 q.2.2.2), (b8, .cells [.int .i64 y_.kind, .slice aeY y_.elems.length ceY, .string y_.name, .slice afY y_.fields.length cfY, .slice aaY y_.arms.length caY] 50 false .plain none), (b7, .cells [.int .i64 x_.kind, .slice aeX x_.elems.length ceX, .string x_.name, .slice afX x_.fields.length cfX, .slice aaX x_.arms.length caX] 50 false .plain none)]) (fun q => q.1 ≤ x_.arms.length ∧ RowA l y.1.2 q.2.1 (ArmsU (InM q.2.1) x_.arms y_.arms q.1) ∧ MetA q.2.1 q.2.2) (fun q => x_.arms.length - q.1) (0, y.1.2, y.2) ⟨Nat.zero_le _, RowA.init (fun _ _ _ h => absurd h (Nat.not_lt_zero _)), hM0⟩ ⟨rfl, rfl, rfl, rfl, rfl, rfl, trivial⟩ (.refl _) (fun q hq0 => ?_)
 obtain ⟨k, M1, x1⟩ := q
 obtain ⟨hk, hR, hM1⟩ := hq0
 simp only at hk hR hM1
 have hB1 := hR.bnd hB0
 have hu1 := Nat.lt_of_le_of_lt (unmet_le (n := l.length) hR.grown) hn0
 refine .seq (.region (.P ?_))
 refine .nil (.seq (.seq (.cond rfl (fun ht120 => ?_) fun ht120 => ?_)))
 ·try simp only [nz] at ht120
  have hltU : k < x_.arms.length := by omega
  obtain ⟨u, hu_⟩ := gx hltU
  obtain ⟨bU, offU, csU, elU, gU, mdU, mateU, rfl, ⟨hbU, hhU⟩, hleU, hcU⟩ := so hgX hltU
  have hru := hcU k u hu_
  have hltW : k < y_.arms.length := by have := hhd.2.2.1; omega
  obtain ⟨w, hw_⟩ := gx hltW
  obtain ⟨bW, offW, csW, elW, gW, mdW, mateW, rfl, ⟨hbW, hhW⟩, hleW, hcW⟩ := so hgY hltW
  have hrw := hcW k w hw_
  obtain ⟨vu, hru, hfu⟩ := hru
  obtain ⟨vw, hrw, hfw⟩ := hrw
  have hfuS := hfu
  have hfwS := hfw
  obtain ⟨au, cu, rfl, hnu, hfu⟩ := hfu
  obtain ⟨aw, cw, rfl, hnw, hfw⟩ := hfw
  refine .skip (.seq (.seq (.block (.seq (.region (.P2 ?_))))))
  refine .nil (.seq (.seq ?_))
  refine .D [(15, 0), (3, 1), (15, 0), (15, 7), (15, 15), (3, 31), (15, 0), (3, 64), (15, 0), (15, 448), (15, 960), (3, 1984), (15, 4095), (15, 8191), (15, 16383), (15, 16383), (3, 49151), (15, 16383), (15, 245759), (15, 507903), (3, 1032191), (15, 16383), (3, 2113535), (15, 16383), (15, 14696447), (15, 31473663), (3, 65028095), (7, 134217727), (15, 268435455), (15, 536870911)] (by kernel_rfl) (by kernel_rfl) (fun base hbase hB => ?_)
  refine .F fa50_4 ?_
  refine .J ag48 ?_
  refine .P ?_
  refine .K underlying48 sz55 ?_
  refine .F fa55_0 ?_
  refine .M ag9 (Off.sees rfl rfl _ _ ⟨hbU, hhU⟩) (cell_of_take hru (k := 0) rfl) ?_
  refine .F fa50_4 ?_
  refine .J ag48 ?_
  refine .P ?_
  refine .K underlying48 sz55 ?_
  refine .F fa55_0 ?_
  refine .M ag9 (Off.sees rfl rfl _ _ ⟨hbW, hhW⟩) (cell_of_take hrw (k := 0) rfl) ?_
  iterate 2 refine .P ?_
  refine .splitB 135 rfl (fun hs_135 => ?_) (fun hs_135 => ?_)
  ·try simp only [nz] at hs_135
   have hnn : u.name ≠ w.name := by assumption
   iterate 15 refine .O ?_
   refine .P ?_
   refine .nil (.seq (.cond_true rfl (.seq (.region (.P ?_)))))
   refine .nil (.seq (.ret (.blk (.seq (.loop (.blk (.seq ?_)))))))
   exact .end_ rfl rfl (fun m hm => ⟨((false, M1), x1), ⟨EqA.stop hx_ hy_ hR0 hR.grown hR.bnd fun h => hnn ((h.ty hsnd hx_ hy_).arms.2 k u w hu_ hw_).1, hM1⟩, rfl, hm.sub (.cons_cons _ (List.nil_sublist _))⟩)
  try simp only [nz] at hs_135
  have hnn : u.name = w.name := by assumption
  refine .P ?_
  refine .F fa50_4 ?_
  refine .J ag48 ?_
  refine .P ?_
  refine .K underlying48 sz55 ?_
  refine .F fa55_1 ?_
  refine .M ag47 (Off.sees rfl rfl _ _ ⟨hbU, hhU⟩) (cell_of_take hru (k := 1) rfl) ?_
  refine .F fa50_4 ?_
  refine .J ag48 ?_
  refine .P ?_
  refine .K underlying48 sz55 ?_
  refine .F fa55_1 ?_
  refine .M ag47 (Off.sees rfl rfl _ _ ⟨hbW, hhW⟩) (cell_of_take hrw (k := 1) rfl) ?_
  refine .callc (fun y : CmpY => RelA l M1 (fun R => FldsR R u.fields w.fields) y.1 ∧ MetA y.1.2 y.2) (fun y => .bool y.1.1) (fun y => [(bm, .map y.2.1 y.2.2)]) .one rfl rfl (by kernel_rfl) (by kernel_rfl) rfl rfl rfl rfl rfl rfl (fun m2 g0 g2 gb gr => cfields_ok (x0 := x1) g0 g2 hM1 hB1 (hp.mono gb) hu1 ih (hfuS.mono gb fun _ _ h => h) (hfwS.mono gb fun _ _ h => h) (parts_ok_fld (hsnd a x_ hx_) fun f_ hf_ => parts_armf (List.mem_of_getElem? hu_) hf_) (parts_ok_fld (hsnd b_ y_ hy_) fun f_ hf_ => parts_armf (List.mem_of_getElem? hw_) hf_)) (fun y hy => ?_)
  refine .p rfl rfl rfl rfl rfl (.p rfl rfl rfl rfl rfl (.of (.nil (.seq (.cond rfl (fun ht151 => ?_) fun ht151 => ?_)))))
  ·obtain ⟨hy, hyM⟩ := hy
   have hyf : y.1.1 = false := by cases h_ : y.1.1 with | false => rfl | true => rw [h_] at ht151; cases ht151
   refine .seq (.region (.P ?_))
   refine .nil (.seq (.ret (.blk (.seq (.loop (.blk (.seq ?_)))))))
   exact .end_ rfl rfl (fun m hm => ⟨((false, y.1.2), y.2), ⟨EqA.stop hx_ hy_ hR0 (hR.grown.trans hy.grown) (fun h => hy.bnd (hR.bnd h)) fun h => hy.no hyf ((h.ty hsnd hx_ hy_).arms.2 k u w hu_ hw_).2, hyM⟩, rfl, hm.sub (.cons_cons _ (List.nil_sublist _))⟩)
  obtain ⟨hy, hyM⟩ := hy
  have hyt : y.1.1 = true := by cases h_ : y.1.1 with | true => rfl | false => rw [h_] at ht151; cases ht151
  refine .skip (.blk (.seq (.region (.P ?_))))
  refine .W 152 k ?_
  refine .P ?_
  refine .nil ?_
  exact .loop (k + 1, y.1.2, y.2) ⟨by omega, hR.moreR hy hyt (hR.all.succ hy.grown hu_ hw_ hnn (hy.yes hyt).2), hyM⟩ (by show x_.arms.length - (k + 1) < x_.arms.length - k; omega) ⟨rfl, rfl, rfl, rfl, rfl, rfl, trivial⟩ (.refl _)
 try simp only [nz] at ht120
 refine .exit (.seq (.loop (.here (.seq (.seq (.region (.P ?_)))))))
 refine .nil (.seq (.ret ?_))
 exact .end_ rfl rfl (fun m hm => ⟨((true, M1), x1), ⟨EqA.close (P := True) hx_ hy_ ⟨hR0.grown.trans hR.grown, fun h => hR.bnd (hR0.bnd h), hR0.closed.trans hR.closed hR.grown, trivial⟩ ⟨hhd, hR0.all.1.mono (InM.mono hR.grown), by rw [if_neg hk13]; exact hR0.all.2.mono (InM.mono hR.grown), hR.all.all hhd.2.2.1 (by omega)⟩, hM1⟩, rfl, hm.sub (.cons_cons _ (List.nil_sublist _))⟩)

/-! What is asked about two types. -/
theorem equal_all {l : List Ty} {al : Option Addr} {cl bs bm : Nat} (hW : Well l) : ∀ (n a b : Nat), a < l.length → b < l.length → EqualC prog l al cl bs bm n a b
 | 0, _, _, _, _ => fun _ _ _ _ _ _ _ _ hlt => absurd hlt (Nat.not_lt_zero _)
 | n + 1, _, _, ha, hb => fun _ _ _ hm hk hM hB hp hn => cequal_step (n := n) hm hk hM hB hp hn hW ha hb (equal_all hW n)
theorem Bnd.nil (l : List Ty) : Bnd l [] := fun p hp => by cases hp
theorem Sl.two {b c : Nat} {t u : Int} {el : TypeId} {g : Bool} {md : CMode} {mate : Option Nat} (hc : 2 ≤ c := by decide) : Sl (InH [(b, .cells [.int .i64 t, .int .i64 u] el g md mate)]) 1 RInt [t, u] (.slice (some ⟨b, 0, none⟩) 2 c) :=
 ⟨some ⟨b, 0, none⟩, c, rfl, ⟨by simp, hc⟩, .inr ⟨b, 0, _, el, g, md, mate, rfl, List.mem_cons_self, by simp, fun i x hx => by
  match i with
  | 0 => cases hx; rfl
  | 1 => cases hx; rfl
  | i + 2 => cases hx⟩⟩
theorem AskP.at2 {l : List Ty} {t u : Int} (h : AskP l [t, u] 0) : ∃ p q : Nat, t = Int.ofNat p ∧ u = Int.ofNat q ∧ p < l.length ∧ q < l.length := by
 have h1 := h.well.2 0 t rfl
 have h2 := h.well.2 1 u rfl
 obtain ⟨p, rfl⟩ := Int.eq_ofNat_of_zero_le h1.1
 obtain ⟨q, rfl⟩ := Int.eq_ofNat_of_zero_le h2.1
 exact ⟨p, q, rfl, rfl, by omega, by omega⟩
/-- An error, or a fact on two types. -/
def TwoP (F : Nat → Nat → Prop) (l : List Ty) (t u : Int) (x : Bool × Int) : Prop := AskP l [t, u] x.2 ∧ (x.2 ≠ 0 → x.1 = false) ∧ (x.2 = 0 → ∃ p q : Nat, t = Int.ofNat p ∧ u = Int.ofNat q ∧ (x.1 = true ↔ F p q))
theorem TwoP.bad {F : Nat → Nat → Prop} {l : List Ty} {t u e : Int} (h : AskP l [t, u] e) (he : e ≠ 0) : TwoP F l t u (false, e) := ⟨h, fun _ => rfl, fun h0 => absurd h0 he⟩
theorem TwoP.good {F : Nat → Nat → Prop} {l : List Ty} {p q : Nat} {z : Bool} (h : AskP l [Int.ofNat p, Int.ofNat q] 0) (hz : z = true ↔ F p q) : TwoP F l (Int.ofNat p) (Int.ofNat q) (z, 0) := ⟨h, fun h0 => absurd rfl h0, fun _ => ⟨p, q, rfl, rfl, hz⟩⟩
theorem TwoP.err {F : Nat → Nat → Prop} {l : List Ty} {t u e : Int} {x : Bool × Int} (h : TwoP F l t u x) (he : AskP l [t, u] e) : x.2 = e := h.1.uniq he
theorem TwoP.no {F : Nat → Nat → Prop} {l : List Ty} {t u e : Int} {x : Bool × Int} (h : TwoP F l t u x) (he : AskP l [t, u] e) (hne : e ≠ 0) : x.1 = false := h.2.1 (by rw [h.err he]; exact hne)
theorem TwoP.is {F : Nat → Nat → Prop} {l : List Ty} {p q : Nat} {x : Bool × Int} {z : Bool} (h : TwoP F l (Int.ofNat p) (Int.ofNat q) x) (he : AskP l [Int.ofNat p, Int.ofNat q] 0) (hz : z = true ↔ F p q) : x.1 = z := by
 obtain ⟨p', q', h1, h2, h3⟩ := h.2.2 (h.err he)
 cases h1
 cases h2
 rw [Bool.eq_iff_iff, h3, hz]
def AsgX (l : List Ty) (p q : Nat) (x y : Ty) : Prop := (valueB x = true ∧ valueB y = true ∧ EqT l p q) ∨ (y.kind = 14 ∧ (x.kind = 6 ∨ x.kind = 7 ∨ x.kind = 8 ∨ x.kind = 9 ∨ x.kind = 13)) ∨ (y.kind ≠ 14 ∧ (x.kind = 9 ∧ y.kind = 9 ∧ x.name.size = 0 ∧ y.name.size ≠ 0) ∧ ∃ p' q' : Nat, x.elems[0]? = some (Int.ofNat p') ∧ y.elems[0]? = some (Int.ofNat q') ∧ EqT l p' q')
def AsgT (l : List Ty) (p q : Nat) : Prop := ∃ x y, l[p]? = some x ∧ l[q]? = some y ∧ AsgX l p q x y
theorem AsgT.of {l : List Ty} {p q : Nat} {x y : Ty} {z : Bool} (hx : l[p]? = some x) (hy : l[q]? = some y) (h : z = true ↔ AsgX l p q x y) : z = true ↔ AsgT l p q := by
 rw [h]
 constructor
 ·exact fun h => ⟨x, y, hx, hy, h⟩
 rintro ⟨x', y', h1, h2, h3⟩
 rw [hx] at h1
 rw [hy] at h2
 cases h1
 cases h2
 exact h3
theorem AsgX.any {l : List Ty} {p q : Nat} {x y : Ty} (h : y.kind = 14) : AsgX l p q x y ↔ (x.kind = 6 ∨ x.kind = 7 ∨ x.kind = 8 ∨ x.kind = 9 ∨ x.kind = 13) := by
 have hv : valueB y = false := by
  unfold valueB
  rw [decide_eq_false]
  omega
 unfold AsgX
 rw [hv]
 constructor
 ·rintro (h1 | h1 | h1)
  ·cases h1.2.1
  ·exact h1.2
  exact absurd h h1.1
 exact fun h1 => .inr (.inl ⟨h, h1⟩)
theorem AsgX.vals {l : List Ty} {p q : Nat} {x y : Ty} (h : valueB x = true ∧ valueB y = true ∧ EqT l p q) : AsgX l p q x y := .inl h
theorem equal_ok {l : List Ty} {vl : Value} {a b_ : Nat} {m : AW} (hm : m.lo ≤ m.next) (hlS : Sl (Mem m) 5 (RTy (Mem m)) l vl) (hWl : Well l) (ha : a < l.length) (hb_ : b_ < l.length) : Fc prog 64 [vl, .int .i64 (Int.ofNat (a)), .int .i64 (Int.ofNat (b_))] m fun v m' => ∃ z : Bool, (z = true ↔ EqT l a b_) ∧ v = .bool z ∧ Ext m m' ∧ News m m' [] := by
 have hlS0 := hlS
 obtain ⟨al, cl, rfl, hnl, hl⟩ := hlS
 refine Fc.body (c := _) func64 rfl rfl rfl rfl hm ?_
 refine .seq (.region (.P ?_))
 refine .nil (.seq (.seq (.region (.P ?_))))
 refine .makeMap rfl rfl rfl rfl (fun b9 hb9 => ?_)
 refine .p (v := .agg ⟨[.slice al l.length cl, .map (some b9)]⟩) rfl rfl rfl (by kernel_rfl) ?_
 refine .box rfl rfl rfl rfl rfl (fun b11 hb11 => ?_)
 refine .P ?_
 refine .nil (.seq (.seq (.region (.P3 ?_))))
 refine .callc (fun y : CmpY => EqA l [] a b_ y.1 ∧ MetA y.1.2 y.2) (fun y => .bool y.1.1) (fun y => [(b9, .map y.2.1 y.2.2)]) (.tail .one) rfl rfl rfl rfl rfl rfl (fun m2 g1 g2 => equal_all hWl _ a b_ ha hb_ m2 ([], 0) [] g1.lole' g2 (MetA.nil 0) (Bnd.nil l) ⟨Off.known g1 (.head _), hlS0.mono (Off.old g1) (RTy.mono (Off.old g1))⟩ (Nat.lt_succ_self _)) (fun y hy => ?_)
 refine .P ?_
 refine .nil (.seq (.ret ?_))
 exact .end_ rfl rfl (fun m hm => ⟨y.1.1, hy.1.top, rfl, hm.ext, News.nil _ _⟩)
theorem Equal_ok {l : List Ty} {vl : Value} {t u : Int} {m : AW} (hm : m.lo ≤ m.next) (hlS : Sl (Mem m) 5 (RTy (Mem m)) l vl) (hwl : ∀ (i : Nat) (a : Ty), l[i]? = some a → FewT a) (hn14 : l.length ≤ 14) : Fc prog 20 [vl, .int .i64 t, .int .i64 u] m fun v m' => ∃ x : Bool × Int, TwoP (EqT l) l t u x ∧ v = .tuple ⟨[.bool x.1, .int .i64 x.2]⟩ ∧ Ext m m' ∧ News m m' [] := by
 have hlS0 := hlS
 obtain ⟨al, cl, rfl, hnl, hl⟩ := hlS
 refine Fc.body (c := _) func20 rfl rfl rfl rfl hm ?_
 refine .seq (.region (.P2 ?_))
 refine .nil (.seq (.seq (.seq (.region (.P3 ?_)))))
 refine .buildSlice rfl rfl rfl rfl rfl (bs32_2 ..) (fun b12 hb12 => ?_)
 refine .calln _ _ _ rfl rfl rfl rfl rfl rfl (fun m hm => asked_ok hm.lole (hlS0.mono (Mem.kr hm) (RTy.mono (Mem.kr hm))) hwl hn14 ((Sl.two (b := b12) (c := 2) (el := 3) (g := false) (md := .plain) (mate := none)).mono (InH.kr (l := [(b12, .cells [.int .i64 t, .int .i64 u] 3 false .plain none)]) hm (fun p_ hp_ => by rw [List.mem_singleton.1 hp_]; exact List.mem_cons_self)) fun _ _ h => h)) (fun e he => ?_)
 refine .P ?_
 refine .nil (.seq (.seq (.region (.P2 ?_))))
 refine .nil (.seq (.cond rfl (fun ht15 => ?_) fun ht15 => ?_))
 ·try simp only [nz] at ht15
  have hne : e ≠ 0 := by omega
  refine .seq (.region (.P3 ?_))
  refine .nil (.seq (.ret (.seq ?_)))
  exact .end_ rfl rfl (fun m hm => ⟨(false, e), TwoP.bad he hne, rfl, hm.ext, News.nil _ _⟩)
 try simp only [nz] at ht15
 have he0 : e = 0 := by omega
 subst he0
 obtain ⟨p, q, rfl, rfl, hp, hq⟩ := he.at2
 have hFi := he.fine
 have hWl := hFi.well
 refine .skip (.seq (.seq (.region (.P3 ?_))))
 refine .calln _ _ _ rfl rfl rfl rfl rfl rfl (fun m hm => equal_ok hm.lole (hlS0.mono (Mem.kr hm) (RTy.mono (Mem.kr hm))) hWl hp hq) (fun z hz => ?_)
 refine .P2 ?_
 refine .nil (.seq (.ret ?_))
 exact .end_ rfl rfl (fun m hm => ⟨(z, 0), TwoP.good he hz, rfl, hm.ext, News.nil _ _⟩)

/-! The reference's comparison: the pairs that were met lie in a slice. -/
def RPr (x : Nat × Nat) (cs : List Value) : Prop := cs = [.int .i64 (Int.ofNat x.1), .int .i64 (Int.ofNat x.2)]
theorem RPr.flats : ∀ x cs, RPr x cs → flats cs = true := fun _ _ h => by rw [h]; rfl
abbrev PrSt := Gro × List Value × Prs
structure MetS (n : Nat) (M : Prs) (x : PrSt) : Prop where
 flat : Flat 2 RPr x.2.2 x.2.1
 ok : x.1.Ok x.2.2.length
 mem : ∀ p, p ∈ x.2.2 ↔ p ∈ M
 few : x.2.2.length + unmet n M ≤ n * n
theorem unmet_nil (n : Nat) : unmet n [] = n * n := by
 unfold unmet
 rw [List.filter_eq_self.2 (fun _ _ => by simp), List.length_range]
theorem MetS.nil (n : Nat) : MetS n [] (.no, [], []) := ⟨Flat.nil, rfl, fun p => by simp, by rw [unmet_nil]; simp⟩
theorem MetS.put {n : Nat} {M : Prs} {g : Gro} {cs : List Value} {L : Prs} {x : PrSt} {a b : Nat} (h : MetS n M x) (ha : a < n) (hb : b < n) (hn : (a, b) ∉ M) (hL : x.2.2 ++ [(a, b)] = L) (hF : Flat 2 RPr L cs) (hO : g.Ok L.length) : MetS n ((a, b) :: M) (g, cs, L) := by
 subst hL
 refine ⟨hF, hO, fun p => ?_, ?_⟩
 ·show p ∈ x.2.2 ++ [(a, b)] ↔ _
  rw [List.mem_append, h.mem, List.mem_singleton, List.mem_cons]
  exact Or.comm
 have h1 := unmet_lt ha hb hn (M' := (a, b) :: M) (fun p hp => List.mem_cons_of_mem _ hp) List.mem_cons_self
 have h2 := h.few
 show (x.2.2 ++ [(a, b)]).length + _ ≤ _
 rw [List.length_append, List.length_singleton]
 omega
theorem MetS.small {n : Nat} {M : Prs} {x : PrSt} (h : MetS n M x) (hn : n ≤ 28) : x.2.2.length ≤ 784 := by
 have h1 := h.few
 have h2 : n * n ≤ 28 * 28 := Nat.mul_le_mul hn hn
 omega
/-- The members or fields are compared last. -/
theorem EqA.last {l : List Ty} {M M1 : Prs} {a b : Nat} {x y : Ty} {P : Prop} {z : Bool × Prs} {Py : (Nat → Nat → Prop) → Prop} (hb8 : Sound8 l) (hx : l[a]? = some x) (hy : l[b]? = some y) (hh : HeadR x y) (hR : RowA l ((a, b) :: M) M1 P) (he : ElsR (InM M1) x.elems y.elems) (hA : ArmsR (InM M1) x.arms y.arms) (hz : RelA l M1 Py z) (hPy : ∀ R, Py R ↔ (if x.kind = 13 then MemR R x.fields y.fields else FldsR R x.fields y.fields)) : EqA l M a b z := by
 obtain ⟨zb, M2⟩ := z
 cases zb with
 | true =>
  obtain ⟨h1, h2⟩ := hz.yes rfl
  exact EqA.close (P := True) hx hy ⟨hR.grown.trans hz.grown, fun h => hz.bnd (hR.bnd h), hR.closed.trans h1 hz.grown, trivial⟩ ⟨hh, he.mono (InM.mono hz.grown), (hPy _).1 h2, hA.mono (InM.mono hz.grown)⟩
 | false =>
  refine EqA.fail (fun p hp => hz.grown _ (hR.grown _ (List.mem_cons_of_mem _ hp))) (fun hM => hz.bnd (hR.bnd fun p hp => ?_)) fun h => hz.no rfl ((hPy _).2 (h.ty hb8 hx hy).flds)
  rcases List.mem_cons.1 hp with rfl | hp
  ·exact ⟨(List.getElem?_eq_some_iff.1 hx).1, (List.getElem?_eq_some_iff.1 hy).1⟩
  exact hM p hp
/-! Fields that are sorted by their names. -/
theorem lt_irrefl : ∀ l : List UInt8, ltBytes l l = false
 | [] => rfl
 | a :: l => by
  unfold ltBytes
  rw [nblt, nbeq, decide_eq_false (Nat.lt_irrefl _), decide_eq_true rfl]
  exact lt_irrefl l
theorem lt_trans : ∀ a b c : List UInt8, ltBytes a b = true → ltBytes b c = true → ltBytes a c = true
 | [], [], [], h, _ => h
 | [], _ :: _, [], _, h => by cases h
 | [], [], _ :: _, h, _ => by cases h
 | [], _ :: _, _ :: _, _, _ => rfl
 | _ :: _, [], _, h, _ => by cases h
 | _ :: _, _ :: _, [], _, h => by cases h
 | a :: x, b :: y, c :: z, h1, h2 => by
  unfold ltBytes at h1 h2 ⊢
  rw [nblt, nbeq] at h1 h2 ⊢
  by_cases e : a.toNat < c.toNat
  ·rw [decide_eq_true e]
   rfl
  by_cases e1 : a.toNat < b.toNat
  ·by_cases e2 : b.toNat < c.toNat
   ·omega
   rw [decide_eq_false e2] at h2
   by_cases e3 : b.toNat = c.toNat
   ·omega
   rw [decide_eq_false e3] at h2
   cases h2
  rw [decide_eq_false e1] at h1
  by_cases e3 : a.toNat = b.toNat
  ·rw [decide_eq_true e3] at h1
   by_cases e2 : b.toNat < c.toNat
   ·omega
   rw [decide_eq_false e2] at h2
   by_cases e4 : b.toNat = c.toNat
   ·rw [decide_eq_true e4] at h2
    rw [decide_eq_false e, decide_eq_true (e3.trans e4)]
    exact lt_trans x y z h1 h2
   rw [decide_eq_false e4] at h2
   cases h2
  rw [decide_eq_false e3] at h1
  cases h1
theorem Gro.len {g : Gro} {n : Nat} (h : g.Ok n) : ∃ a c, g.V n = .slice a n c := by
 cases g with
 | no =>
  have : n = 0 := h
  subst this
  exact ⟨none, 0, rfl⟩
 | emp b =>
  have : n = 0 := h
  subst this
  exact ⟨_, 0, rfl⟩
 | one b => exact ⟨_, _, rfl⟩
 | two b b0 old => exact ⟨_, _, rfl⟩

/-! Tables whose types were moved. -/
def mvF (n : Nat) (f : Fld) : Fld := ⟨f.name, f.type + Int.ofNat n⟩
def mvA (n : Nat) (a : Arm) : Arm := ⟨a.name, a.fields.map (mvF n)⟩
def mvT (n : Nat) (t : Ty) : Ty := ⟨t.kind, t.elems.map (· + Int.ofNat n), t.name, t.fields.map (mvF n), t.arms.map (mvA n)⟩
theorem mv_wr {p : Int} {q n : Nat} (h : p = Int.ofNat q) (hq : q + n ≤ 9223372036854775807) : wr .i64 (p + Int.ofNat n) = p + Int.ofNat n := by
 subst h
 show (bif Nat.ble (q + n) 9223372036854775807 then Int.ofNat (q + n) else _) = _
 rw [nble, decide_eq_true hq]
 rfl
theorem mv_perm {G R : Hp} {x y : Nat × AObj} : (G ++ (x :: (y :: R))).Perm (y :: (G ++ (x :: R))) := by
 have h1 : (G ++ (x :: (y :: R))).Perm (x :: (y :: (G ++ R))) := List.perm_middle.trans (List.Perm.cons _ List.perm_middle)
 exact (h1.trans (List.Perm.swap _ _ _)).trans (List.Perm.cons _ List.perm_middle.symm)
theorem mv_perm3 {A B C D : Hp} {x y z : Nat × AObj} : (A ++ (x :: (B ++ (y :: (z :: (C ++ D)))))).Perm (x :: (y :: (z :: (A ++ ((B ++ C) ++ D))))) := by
 refine List.perm_middle.trans (List.Perm.cons _ ?_)
 rw [← List.append_assoc]
 refine List.perm_middle.trans (List.Perm.cons _ ?_)
 refine List.perm_middle.trans (List.Perm.cons _ ?_)
 exact List.Perm.of_eq (by simp [List.append_assoc])
def InR (L : List Fld) : Prop := ∀ (j : Nat) (f : Fld), L[j]? = some f → ∃ q : Nat, f.type = Int.ofNat q ∧ q < 1000
theorem map_take_succ {α β : Type} {f : α → β} {l : List α} {i : Nat} {x : α} (h : l[i]? = some x) : (l.take (i + 1)).map f = (l.take i).map f ++ [f x] := by
 rw [take_succ' h, List.map_append]
 rfl
theorem InR.parts {N : Nat} {t : Ty} (hb : badB N t = false) (hN : N ≤ 1000) {L : List Fld} (hL : ∀ x, x ∈ L → x.type ∈ partsL t) : InR L := fun j x hx => by
 obtain ⟨q, e, h⟩ := parts_ok_fld hb hL j x hx
 exact ⟨q, e, by omega⟩
theorem mv_sub {A B C D E : Hp} {x : Nat × AObj} : (A ++ (B ++ (C ++ D))).Sublist (x :: (A ++ (B ++ (C ++ (D ++ E))))) := by
 refine .cons _ ?_
 refine (List.Sublist.refl _).append ?_
 refine (List.Sublist.refl _).append ?_
 exact (List.Sublist.refl _).append (List.sublist_append_left _ _)
theorem mvd1_ok {L : List Fld} {vl : Value} {bn n : Nat} {m : AW} (hm : m.lo ≤ m.next) (hlS : Sl (Mem m) 2 RFld L vl) (hL : L.length ≤ 1000) (hin : InR L) (hn : n ≤ 1000) (hbn : Mem m bn (.cells [.int .i64 (Int.ofNat n)] 3 false .plain none)) : Fc prog 117 [vl, ptr bn] m fun v m' => ∃ z : Gro × List Value, (Flat 2 RFld (L.map (mvF n)) z.2 ∧ z.1.Ok (L.map (mvF n)).length) ∧ v = z.1.V (L.map (mvF n)).length ∧ Ext m m' ∧ News m m' (z.1.H 132 z.2) := by
 obtain ⟨aL, cL, rfl, hnL, hl⟩ := hlS
 refine Fc.body (c := _) func117 rfl rfl rfl rfl hm ?_
 refine .seq (.region (.P ?_))
 refine .nil (.seq (.seq (.region (.P ?_))))
 refine .nil (.seq (.seq (.seq (.region (.P ?_)))))
 refine .G (ln47 ..) ?_
 refine .P ?_
 refine .nil (.seq (.block ?_))
 refine .loop (α := Nat × Gro × List Value × List Fld) (fun q => [(1, ptr bn), (4, q.2.1.V q.2.2.2.length), (7, .slice aL L.length cL), (8, .int .i64 (Int.ofNat (L.length))), (9, .int .i64 (Int.ofNat (q.1)))]) (fun q => q.2.1.H 132 q.2.2.1) (fun q => q.1 ≤ L.length ∧ q.2.2.2 = (L.take q.1).map (mvF n) ∧ Flat 2 RFld q.2.2.2 q.2.2.1 ∧ q.2.1.Ok q.2.2.2.length) (fun q => L.length - q.1) (0, .no, [], []) ⟨Nat.zero_le _, rfl, Flat.nil, rfl⟩ ⟨rfl, rfl, rfl, rfl, rfl, trivial⟩ (List.nil_sublist _) (fun q hq0 => ?_)
 obtain ⟨i, g_, cs_, out⟩ := q
 obtain ⟨hi, he, hF, hO⟩ := hq0
 simp only at hi he hF hO
 have hlo : out.length = i := by rw [he, List.length_map, List.length_take]; omega
 refine .seq (.region (.P ?_))
 refine .nil (.seq (.seq (.cond rfl (fun ht10 => ?_) fun ht10 => ?_)))
 ·try simp only [nz] at ht10
  have hltA : i < L.length := by omega
  obtain ⟨f, hf⟩ := gx hltA
  obtain ⟨bA, offA, csA, elA, gA, mdA, mateA, rfl, ⟨hbA, hhA⟩, hleA, hcA⟩ := so hl hltA
  have hrf := hcA i f hf
  obtain ⟨qf, hqf, hql⟩ := hin i f hf
  refine .skip (.seq (.seq (.block (.seq (.region (.K underlying47 sz132 ?_))))))
  refine .A ag132 sz132 (.base hhA hbA (by simp)) hrf ?_
  refine .alloc rfl rfl rfl rfl zr132 (fun b6 hb6 => ?_)
  refine .S sz132 ?_
  refine .nil (.seq (.region (.P ?_)))
  refine .F fa132_0 ?_
  refine .L ag9 ?_
  refine .F fa132_1 ?_
  refine .L ag3 ?_
  refine .M ag3 (Mem.sees rfl rfl _ _ hbn) rfl ?_
  refine .P ?_
  refine .as 19 (.int .i64 (f.type + Int.ofNat n)) rfl (congrArg (Value.int .i64) (mv_wr hqf (by omega))) ?_
  refine .p (v := .agg ⟨[.string f.name, .int .i64 (f.type + Int.ofNat n)]⟩) rfl rfl rfl (by kernel_rfl) ?_
  refine .buildSlice rfl rfl rfl rfl rfl (bs47_1 ..) (fun b21 hb21 => ?_)
  refine .appendSl (R := RFld) (l0 := out) (l := [mvF n f]) (L := (out ++ [mvF n f])) (g := g_) (cs := cs_) rfl (.tail (.tail .all)) hF hO (Sl.single (R := RFld) (x := mvF n f) (b := b21) (c := 1) (el := 132) (g := false) (md := .plain) (mate := none) rfl rfl) ((InH.sees (by intro p_ hp_; rw [List.mem_singleton.1 hp_]; exact List.mem_cons_self))) RFld.flats (by simp; omega) rfl rfl rfl rfl underlying47 underlying47 ap132 rfl rfl (fun g1 cs1 hF1 hO1 => ?_)
  refine .P ?_
  refine .nil (.blk (.seq (.region (.P ?_))))
  refine .W 23 i ?_
  refine .P ?_
  refine .nil ?_
  exact .loop (i + 1, g1, cs1, out ++ [mvF n f]) ⟨hltA, by rw [he, map_take_succ hf], hF1, hO1⟩ (by show L.length - (i + 1) < L.length - i; omega) ⟨rfl, rfl, rfl, rfl, rfl, trivial⟩ (List.sublist_append_left _ _)
 try simp only [nz] at ht10
 have hie : i = L.length := by omega
 subst hie
 rw [List.take_length] at he
 subst he
 refine .exit (.seq (.loop (.here (.seq (.seq (.region (.P2 ?_)))))))
 refine .nil (.seq (.ret ?_))
 exact .end_ rfl rfl (fun m hm => ⟨(g_, cs_), ⟨hF, hO⟩, rfl, hm.ext, hm.news (.refl _)⟩)
theorem rmvd_ok {L : List Fld} {vl : Value} {n : Nat} {m : AW} (hm : m.lo ≤ m.next) (hlS : Sl (Mem m) 2 RFld L vl) (hL : L.length ≤ 1000) (hin : InR L) (hn : n ≤ 1000) : Fc prog 69 [vl, .int .i64 (Int.ofNat (n))] m fun v m' => ∃ z : Gro × List Value, (Flat 2 RFld (L.map (mvF n)) z.2 ∧ z.1.Ok (L.map (mvF n)).length) ∧ v = z.1.V (L.map (mvF n)).length ∧ Ext m m' ∧ News m m' (z.1.H 132 z.2) := by
 obtain ⟨aL, cL, rfl, hnL, hl⟩ := hlS
 refine Fc.body (c := _) func69 rfl rfl rfl rfl hm ?_
 refine .seq (.region (.P ?_))
 refine .nil (.seq (.seq (.region (.P ?_))))
 refine .nil (.seq (.seq (.seq (.region (.P ?_)))))
 refine .nil (.seq (.block ?_))
 refine .loop (α := Nat × Gro × List Value × List Fld) (fun q => [(0, .slice aL L.length cL), (1, .int .i64 (Int.ofNat (n))), (5, q.2.1.V q.2.2.2.length), (6, .int .i64 (Int.ofNat (q.1)))]) (fun q => q.2.1.H 132 q.2.2.1) (fun q => q.1 ≤ L.length ∧ q.2.2.2 = (L.take q.1).map (mvF n) ∧ Flat 2 RFld q.2.2.2 q.2.2.1 ∧ q.2.1.Ok q.2.2.2.length) (fun q => L.length - q.1) (0, .no, [], []) ⟨Nat.zero_le _, rfl, Flat.nil, rfl⟩ ⟨rfl, rfl, rfl, rfl, trivial⟩ (List.nil_sublist _) (fun q hq0 => ?_)
 obtain ⟨i, g_, cs_, out⟩ := q
 obtain ⟨hi, he, hF, hO⟩ := hq0
 simp only at hi he hF hO
 have hlo : out.length = i := by rw [he, List.length_map, List.length_take]; omega
 refine .seq (.seq (.region (.P2 ?_)))
 refine .G (ln47 ..) ?_
 refine .P ?_
 refine .nil (.seq (.cond rfl (fun ht10 => ?_) fun ht10 => ?_))
 ·try simp only [nz] at ht10
  have hltA : i < L.length := by omega
  obtain ⟨f, hf⟩ := gx hltA
  obtain ⟨bA, offA, csA, elA, gA, mdA, mateA, rfl, ⟨hbA, hhA⟩, hleA, hcA⟩ := so hl hltA
  have hrf := hcA i f hf
  obtain ⟨qf, hqf, hql⟩ := hin i f hf
  refine .skip (.seq (.seq (.block ?_)))
  refine .D [(15, 0), (15, 0), (15, 0), (15, 6), (15, 14), (3, 30), (15, 0), (15, 0), (15, 192), (15, 448), (3, 960), (15, 0), (15, 4032), (15, 8190), (11, 16382), (7, 32767), (15, 65535)] (by kernel_rfl) (by kernel_rfl) (fun base hbase hB => ?_)
  iterate 3 refine .P ?_
  refine .K underlying47 sz132 ?_
  refine .F fa132_0 ?_
  refine .M ag9 (.base hhA hbA (by simp)) (cell_of_take hrf (k := 0) rfl) ?_
  iterate 2 refine .P ?_
  refine .K underlying47 sz132 ?_
  refine .F fa132_1 ?_
  refine .M ag3 (.base hhA hbA (by simp)) (cell_of_take hrf (k := 1) rfl) ?_
  iterate 2 refine .P ?_
  refine .as 25 (.int .i64 (f.type + Int.ofNat n)) rfl (congrArg (Value.int .i64) (mv_wr hqf (by omega))) ?_
  refine .p (v := .agg ⟨[.string f.name, .int .i64 (f.type + Int.ofNat n)]⟩) rfl rfl rfl rfl (by kernel_rfl) ?_
  refine .buildSlice rfl rfl rfl rfl rfl rfl (bs47_1 ..) (fun b27 hn27 hb27 => ?_)
  refine .appendSl (R := RFld) (l0 := out) (l := [mvF n f]) (L := (out ++ [mvF n f])) (g := g_) (cs := cs_) rfl (.tail .all) hF hO (Sl.single (R := RFld) (x := mvF n f) (b := b27) (c := 1) (el := 132) (g := false) (md := .plain) (mate := none) rfl rfl) ((InH.sees (by intro p_ hp_; rw [List.mem_singleton.1 hp_]; exact List.mem_cons_self))) RFld.flats (by simp; omega) rfl rfl (by kernel_rfl) (by kernel_rfl) rfl rfl rfl rfl underlying47 underlying47 ap132 rfl rfl (fun g1 cs1 hF1 hO1 => ?_)
  refine .P ?_
  refine .nil (.blk (.seq (.region (.P2 ?_))))
  refine .W 12 i ?_
  refine .P ?_
  refine .nil ?_
  exact .loop (i + 1, g1, cs1, out ++ [mvF n f]) ⟨hltA, by rw [he, map_take_succ hf], hF1, hO1⟩ (by show L.length - (i + 1) < L.length - i; omega) ⟨rfl, rfl, rfl, rfl, trivial⟩ (List.sublist_append_left _ _)
 try simp only [nz] at ht10
 have hie : i = L.length := by omega
 subst hie
 rw [List.take_length] at he
 subst he
 refine .exit (.seq (.loop (.here (.seq (.seq (.region (.P2 ?_)))))))
 refine .nil (.seq (.ret ?_))
 exact .end_ rfl rfl (fun m hm => ⟨(g_, cs_), ⟨hF, hO⟩, rfl, hm.ext, hm.news (.refl _)⟩)
theorem mvd_ok {t : Ty} {cs : List Value} {n N : Nat} {m : AW} (hm : m.lo ≤ m.next) (ht : RTy (Mem m) t cs) (hw : FewT t) (hbd : badB N t = false) (hN : N ≤ 1000) (hn : n ≤ 1000) : Fc prog 68 [.agg ⟨cs⟩, .int .i64 (Int.ofNat (n))] m fun v m' => ∃ x : Hp × List Value, RTy (InH x.1) (mvT n t) x.2 ∧ v = .agg ⟨x.2⟩ ∧ Ext m m' ∧ News m m' x.1 := by
 obtain ⟨ve, vf, va, rfl, he, hf, ha⟩ := ht
 have heS := he
 have hfS := hf
 have haS := ha
 obtain ⟨ae, ce, rfl, hne, he⟩ := he
 obtain ⟨af, cf, rfl, hnf, hf⟩ := hf
 obtain ⟨aa, ca, rfl, hna, ha⟩ := ha
 have k1 := hw.elems
 have k2 := hw.fields
 have k3 := hw.arms
 refine Fc.body (c := _) func68 rfl rfl rfl rfl hm ?_
 refine .seq (.region ?_)
 refine .box rfl rfl rfl rfl rfl (fun b2 hb2 => ?_)
 refine .box rfl rfl rfl rfl rfl (fun b3 hb3 => ?_)
 refine .alloc rfl rfl rfl rfl zr50 (fun b4 hb4 => ?_)
 refine .nil (.seq (.seq (.region (.P2 ?_))))
 refine .nil (.seq (.seq ?_))
 refine .D [(13, 0), (1, 1), (13, 0), (1, 4), (15, 0), (15, 0), (3, 32), (7, 112), (15, 255), (8, 0), (7, 1023)] (by kernel_rfl) (by kernel_rfl) (fun base hbase hB => ?_)
 refine .F fa50_0 ?_
 refine .R ag3 hB ?_
 refine .F fa50_2 ?_
 refine .R ag9 hB ?_
 refine .P ?_
 refine .F fa50_3 ?_
 refine .J ag47 ?_
 refine .calln _ _ _ rfl rfl rfl rfl rfl rfl rfl rfl rfl (fun m hm => mvd1_ok (n := n) hm.lole (hfS.mono (Mem.kr hm) fun _ _ h => h) (by omega) (InR.parts hbd hN fun x_ hx_ => parts_fldm hx_) hn (⟨(hm.has b3 _ (.tail _ (.head _))).2, (hm.has b3 _ (.tail _ (.head _))).1⟩ : Mem m b3 _)) (fun z hz => ?_)
 obtain ⟨zg, zc⟩ := z
 obtain ⟨hzF, hzO⟩ := hz
 simp only at hzF hzO
 have hS2 := Gro.sl (el := 132) hzF hzO (by first | omega | (simp; omega))
 obtain ⟨a2, c2, hh19, -, -⟩ := id hS2
 rw [hh19] at hS2
 refine .as 19 (.slice a2 (t.fields.map (mvF n)).length c2) rfl hh19 ?_
 refine .p (v := .agg ⟨[.int .i64 t.kind, .slice none 0 0, .string t.name, .slice a2 (t.fields.map (mvF n)).length c2, .slice none 0 0]⟩) rfl rfl rfl rfl (by kernel_rfl) ?_
 refine .alloc rfl rfl rfl rfl rfl zr50 (fun b6 hn6 hb6 => ?_)
 refine .store rfl rfl (by kernel_rfl) (by kernel_rfl) rfl rfl rfl rfl rfl sz50 rfl (by first | exact .head | exact .tail .head | exact .tail (.tail .head) | exact .tail (.tail (.tail .head)) | exact updo) rfl ?_
 refine .nil (.seq (.seq (.seq (.region (.F fa50_1 ?_)))))
 refine .M ag32 (.tail (.app (.tail (.tail .head)))) rfl ?_
 refine .G (ln32 ..) ?_
 refine .P ?_
 refine .nil (.seq (.block ?_))
 refine .loop (α := Nat × Gro × List Value × List Int × Value) (fun q => [(2, ptr b2), (3, ptr b3), (4, ptr b4), (5, .func (.func 117) ⟨[]⟩ ⟨[ptr b3]⟩), (6, ptr b6), (22, .slice ae t.elems.length ce), (23, .int .i64 (Int.ofNat (t.elems.length))), (24, .int .i64 (Int.ofNat (q.1)))]) (fun q => (b6, .cells [.int .i64 t.kind, q.2.2.2.2, .string t.name, .slice a2 (t.fields.map (mvF n)).length c2, .slice none 0 0] 50 false .plain none) :: (q.2.1.H 3 q.2.2.1 ++ (zg.H 132 zc ++ [(b4, .cells [.int .i64 0, .slice none 0 0, .string ⟨⟨[]⟩⟩, .slice none 0 0, .slice none 0 0] 50 false .plain none), (b3, .cells [.int .i64 (Int.ofNat n)] 3 false .plain none), (b2, .cells [.int .i64 t.kind, .slice ae t.elems.length ce, .string t.name, .slice af t.fields.length cf, .slice aa t.arms.length ca] 50 false .plain none)]))) (fun q => q.1 ≤ t.elems.length ∧ q.2.2.2.1 = (t.elems.take q.1).map (· + Int.ofNat n) ∧ Flat 1 RInt q.2.2.2.1 q.2.2.1 ∧ q.2.1.Ok q.2.2.2.1.length ∧ q.2.2.2.2 = q.2.1.V q.2.2.2.1.length) (fun q => t.elems.length - q.1) (0, .no, [], [], .slice none 0 0) ⟨Nat.zero_le _, rfl, Flat.nil, rfl, rfl⟩ ⟨rfl, rfl, rfl, rfl, rfl, rfl, rfl, rfl, trivial⟩ (.refl _) (fun q hq0 => ?_)
 obtain ⟨i, g_, cs_, out, w⟩ := q
 obtain ⟨hi, hout, hF, hO, hwE⟩ := hq0
 simp only at hi hout hF hO hwE
 have hlo : out.length = i := by rw [hout, List.length_map, List.length_take]; omega
 refine .seq (.region (.P ?_))
 refine .nil (.seq (.seq (.cond rfl (fun ht25 => ?_) fun ht25 => ?_)))
 ·try simp only [nz] at ht25
  have hltE : i < t.elems.length := by omega
  obtain ⟨p, hp0⟩ := gx hltE
  obtain ⟨bE, offE, csE, elE, gE, mdE, mateE, rfl, ⟨hbE, hhE⟩, hleE, hcE⟩ := so he hltE
  have hrp := hcE i p hp0
  obtain ⟨qp, hqp, hqpl⟩ := parts_in hbd (parts_elem hp0)
  refine .skip (.seq (.seq (.block (.seq (.region (.K underlying32 sz3 ?_))))))
  refine .M ag3 (.base hhE hbE (by simp)) (cell_of_take hrp (k := 0) rfl) ?_
  refine .P ?_
  refine .nil (.seq (.region (.F fa50_1 ?_)))
  refine .L ag32 ?_
  refine .as 29 (g_.V out.length) rfl hwE ?_
  refine .P ?_
  refine .M ag3 (.tail (.app (.app (.tail .head)))) rfl ?_
  refine .P ?_
  refine .as 32 (.int .i64 (p + Int.ofNat n)) rfl (congrArg (Value.int .i64) (mv_wr hqp (by omega))) ?_
  refine .buildSlice rfl rfl rfl rfl rfl (bs32_1 ..) (fun b33 hb33 => ?_)
  refine .appendSl (R := RInt) (l0 := out) (l := [p + Int.ofNat n]) (L := (out ++ [p + Int.ofNat n])) (g := g_) (cs := cs_) rfl (.tail (.tail .here)) hF hO (Sl.single (R := RInt) (x := p + Int.ofNat n) (b := b33) (c := 1) (el := 3) (g := false) (md := .plain) (mate := none) rfl rfl) ((InH.sees (by intro p_ hp_; rw [List.mem_singleton.1 hp_]; exact List.mem_cons_self))) RInt.flats (by simp; omega) rfl rfl rfl rfl underlying32 underlying32 ap3 rfl rfl (fun g5 cs5 hF5 hO5 => ?_)
  obtain ⟨a5, c5, hw5⟩ := Gro.len hO5
  refine .as 34 (.slice a5 (out ++ [p + Int.ofNat n]).length c5) rfl hw5 ?_
  refine .F fa50_1 ?_
  refine .store rfl rfl rfl rfl rfl sz32 rfl (Upd.app (.tail .head)) rfl ?_
  refine .nil (.blk (.seq (.region (.P ?_))))
  refine .W 36 i ?_
  refine .P ?_
  refine .nil (.swap mv_perm ?_)
  exact .loop (i + 1, g5, cs5, out ++ [p + Int.ofNat n], _) ⟨by omega, by rw [hout]; exact (map_take_succ (f := (· + Int.ofNat n)) hp0).symm, hF5, hO5, hw5.symm⟩ (by show t.elems.length - (i + 1) < t.elems.length - i; omega) ⟨rfl, rfl, rfl, rfl, rfl, rfl, rfl, rfl, trivial⟩ (.cons_cons _ ((List.Sublist.refl _).append (.cons _ (.refl _))))
 try simp only [nz] at ht25
 have hie : i = t.elems.length := by omega
 subst hie
 rw [List.take_length] at hout
 subst hout
 have hSe : Sl (InH (g_.H 3 cs_)) 1 RInt (t.elems.map (· + Int.ofNat n)) w := by rw [hwE]; exact Gro.sl hF hO (by simp; omega)
 obtain ⟨a7, c7, rfl, -, -⟩ := id hSe
 refine .exit (.seq (.loop (.here (.seq (.seq (.seq (.region (.F fa50_4 ?_))))))))
 refine .M ag48 (.tail (.app (.app (.tail (.tail .head))))) rfl ?_
 refine .G (ln48 ..) ?_
 refine .P ?_
 refine .nil (.seq (.block ?_))
 refine .loop (α := Nat × Gro × List Value × List Arm × Hp × Value) (fun q => [(2, ptr b2), (3, ptr b3), (4, ptr b4), (5, .func (.func 117) ⟨[]⟩ ⟨[ptr b3]⟩), (6, ptr b6), (38, .slice aa t.arms.length ca), (39, .int .i64 (Int.ofNat (t.arms.length))), (40, .int .i64 (Int.ofNat (q.1)))]) (fun q => (b6, .cells [.int .i64 t.kind, .slice a7 (t.elems.map (· + Int.ofNat n)).length c7, .string t.name, .slice a2 (t.fields.map (mvF n)).length c2, q.2.2.2.2.2] 50 false .plain none) :: (q.2.1.H 55 q.2.2.1 ++ (q.2.2.2.2.1 ++ (g_.H 3 cs_ ++ (zg.H 132 zc ++ [(b4, .cells [.int .i64 0, .slice none 0 0, .string ⟨⟨[]⟩⟩, .slice none 0 0, .slice none 0 0] 50 false .plain none), (b3, .cells [.int .i64 (Int.ofNat n)] 3 false .plain none), (b2, .cells [.int .i64 t.kind, .slice ae t.elems.length ce, .string t.name, .slice af t.fields.length cf, .slice aa t.arms.length ca] 50 false .plain none)]))))) (fun q => q.1 ≤ t.arms.length ∧ q.2.2.2.1 = (t.arms.take q.1).map (mvA n) ∧ Flat 2 (RArm (InH q.2.2.2.2.1)) q.2.2.2.1 q.2.2.1 ∧ q.2.1.Ok q.2.2.2.1.length ∧ q.2.2.2.2.2 = q.2.1.V q.2.2.2.1.length) (fun q => t.arms.length - q.1) (0, .no, [], [], [], .slice none 0 0) ⟨Nat.zero_le _, rfl, Flat.nil, rfl, rfl⟩ ⟨rfl, rfl, rfl, rfl, rfl, rfl, rfl, rfl, trivial⟩ (.refl _) (fun q hq0 => ?_)
 obtain ⟨k, g3, cs3, L3, F2, wa⟩ := q
 obtain ⟨hk, hL3, hF3, hO3, hw3⟩ := hq0
 simp only at hk hL3 hF3 hO3 hw3
 have hL3l : L3.length = k := by rw [hL3, List.length_map, List.length_take]; omega
 refine .seq (.region (.P ?_))
 refine .nil (.seq (.seq (.cond rfl (fun ht41 => ?_) fun ht41 => ?_)))
 ·try simp only [nz] at ht41
  have hltX : k < t.arms.length := by omega
  obtain ⟨x, hx⟩ := gx hltX
  obtain ⟨bX, offX, csX, elX, gX, mdX, mateX, rfl, ⟨hbX, hhX⟩, hleX, hcX⟩ := so ha hltX
  have hrx := hcX k x hx
  obtain ⟨vx, hrx, hxS⟩ := hrx
  obtain ⟨axf, cxf, rfl, hnxf, hxf⟩ := id hxS
  have k4 := hw.afields k x hx
  refine .skip (.seq (.seq (.block (.seq (.region (.K underlying48 sz55 ?_))))))
  refine .A ag55 sz55 (.base hhX hbX (by simp)) hrx ?_
  refine .alloc rfl rfl rfl rfl zr55 (fun b10 hb10 => ?_)
  refine .S sz55 ?_
  refine .nil (.seq ?_)
  refine .D [(13, 0), (1, 1), (13, 0), (1, 4), (15, 0), (15, 0), (3, 32), (7, 112), (15, 252), (11, 508), (7, 1023), (15, 2047), (7, 4095)] (by kernel_rfl) (by kernel_rfl) (fun base hbase hB => ?_)
  refine .F fa50_4 ?_
  refine .R ag48 hB ?_
  refine .as 45 (g3.V L3.length) rfl hw3 ?_
  refine .F fa55_0 ?_
  refine .R ag9 hB ?_
  refine .P ?_
  refine .F fa55_1 ?_
  refine .J ag47 ?_
  refine .calln _ _ _ rfl rfl rfl rfl rfl rfl rfl rfl rfl (fun m hm => mvd1_ok (n := n) hm.lole (hxS.mono (Mem.kr hm) fun _ _ h => h) (by omega) (InR.parts hbd hN fun x_ hx_ => parts_armf (List.mem_of_getElem? hx) hx_) hn (⟨(hm.has b3 _ (.tail _ (.tail _ (List.mem_append_right _ (List.mem_append_right _ (List.mem_append_right _ (List.mem_append_right _ (.tail _ (.head _))))))))).2, (hm.has b3 _ (.tail _ (.tail _ (List.mem_append_right _ (List.mem_append_right _ (List.mem_append_right _ (List.mem_append_right _ (.tail _ (.head _))))))))).1⟩ : Mem m b3 _)) (fun z4 hz4 => ?_)
  obtain ⟨z4g, z4c⟩ := z4
  obtain ⟨hz4F, hz4O⟩ := hz4
  simp only at hz4F hz4O
  have hS4 := Gro.sl (el := 132) hz4F hz4O (by first | omega | (simp; omega))
  obtain ⟨a4, c4, hh51, -, -⟩ := id hS4
  rw [hh51] at hS4
  refine .as 51 (.slice a4 (x.fields.map (mvF n)).length c4) rfl hh51 ?_
  refine .p (v := .agg ⟨[.string x.name, .slice a4 (x.fields.map (mvF n)).length c4]⟩) rfl rfl rfl rfl (by kernel_rfl) ?_
  refine .buildSlice rfl rfl rfl rfl rfl rfl (bs48_1 ..) (fun b53 hn53 hb53 => ?_)
  refine .appendSl (R := RArm (InH (z4g.H 132 z4c ++ F2))) (l0 := L3) (l := [mvA n x]) (L := (L3 ++ [mvA n x])) (g := g3) (cs := cs3) rfl (.tail (.over (.tail (.tail .here)))) (flat_mono hF3 (RArm.mono inB)) hO3 (Sl.single (R := RArm (InH (z4g.H 132 z4c ++ F2))) (x := mvA n x) (b := b53) (c := 1) (el := 55) (g := false) (md := .plain) (mate := none) ⟨_, rfl, hS4.mono inA fun _ _ h => h⟩ rfl) ((InH.sees (by intro p_ hp_; rw [List.mem_singleton.1 hp_]; exact List.mem_cons_self))) RArm.flats (by simp; omega) rfl rfl (by kernel_rfl) (by kernel_rfl) rfl rfl rfl rfl underlying48 underlying48 ap55 rfl rfl (fun g6 cs6 hF6 hO6 => ?_)
  obtain ⟨a6, c6, hw6⟩ := Gro.len hO6
  refine .as 54 (.slice a6 (L3 ++ [mvA n x]).length c6) rfl hw6 ?_
  refine .F fa50_4 ?_
  refine .store rfl rfl (by kernel_rfl) (by kernel_rfl) rfl rfl rfl rfl rfl sz48 rfl (Upd.app (.tail (Upd.app (.tail .head)))) rfl ?_
  refine .nil (.blk (.seq (.region (.P ?_))))
  refine .W 56 k ?_
  refine .P ?_
  refine .nil (.swap mv_perm3 ?_)
  exact .loop (k + 1, g6, cs6, L3 ++ [mvA n x], z4g.H 132 z4c ++ F2, _) ⟨by omega, by rw [hL3]; exact (map_take_succ hx).symm, hF6, hO6, hw6.symm⟩ (by show t.arms.length - (k + 1) < t.arms.length - k; omega) ⟨rfl, rfl, rfl, rfl, rfl, rfl, rfl, rfl, trivial⟩ (.cons _ (.cons _ (.refl _)))
 try simp only [nz] at ht41
 have hke : k = t.arms.length := by omega
 subst hke
 rw [List.take_length] at hL3
 subst hL3
 have hSa : Sl (InH (g3.H 55 cs3)) 2 (RArm (InH F2)) (t.arms.map (mvA n)) wa := by rw [hw3]; exact Gro.sl hF3 hO3 (by simp; omega)
 obtain ⟨a8, c8, rfl, -, -⟩ := id hSa
 refine .exit (.seq (.loop (.here (.seq (.seq (.region (.E ag50 sz50 ?_)))))))
 refine .store rfl rfl rfl rfl rfl sz50 rfl (.tail (Upd.app (Upd.app (Upd.app (Upd.app .head))))) rfl ?_
 refine .nil (.seq (.ret ?_))
 refine .endH rfl (.agg rfl ag50 sz50 (by exact .tail (.app (.app (.app (.app .head))))) (by exact Nat.le_of_ble_eq_true rfl) rfl .nil) ?_
 exact fun m hm => ⟨(g3.H 55 cs3 ++ (F2 ++ (g_.H 3 cs_ ++ zg.H 132 zc)), [.int .i64 t.kind, .slice a7 (t.elems.map (· + Int.ofNat n)).length c7, .string t.name, .slice a2 (t.fields.map (mvF n)).length c2, .slice a8 (t.arms.map (mvA n)).length c8]), ⟨_, _, _, rfl, hSe.mono (fun b o h => inB b o (inB b o (inA b o h))) fun _ _ h => h, hS2.mono (fun b o h => inB b o (inB b o (inB b o h))) fun _ _ h => h, hSa.mono inA (RArm.mono fun b o h => inB b o (inA b o h))⟩, rfl, hm.ext, hm.news mv_sub⟩

/-! A table behind another one. -/
def joinL (l l2 : List Ty) : List Ty := l ++ l2.map (mvT l.length)
theorem joinL_len (l l2 : List Ty) : (joinL l l2).length = l.length + l2.length := by simp [joinL]
theorem joinL_left {l l2 : List Ty} {i : Nat} (h : i < l.length) : (joinL l l2)[i]? = l[i]? := List.getElem?_append_left h
theorem joinL_right {l l2 : List Ty} {i : Nat} : (joinL l l2)[l.length + i]? = (l2[i]?).map (mvT l.length) := by
 unfold joinL
 rw [List.getElem?_append_right (by omega), Nat.add_sub_cancel_left, List.getElem?_map]
theorem joinL_cases {l l2 : List Ty} {i : Nat} {x : Ty} (h : (joinL l l2)[i]? = some x) : (i < l.length ∧ l[i]? = some x) ∨ ∃ j y, i = l.length + j ∧ l2[j]? = some y ∧ x = mvT l.length y := by
 by_cases hi : i < l.length
 ·rw [joinL_left hi] at h
  exact .inl ⟨hi, h⟩
 obtain ⟨j, rfl⟩ : ∃ j, i = l.length + j := ⟨i - l.length, by omega⟩
 rw [joinL_right] at h
 cases hy : l2[j]? with
 | none => rw [hy] at h; cases h
 | some y =>
  rw [hy] at h
  cases h
  exact .inr ⟨j, y, rfl, hy, rfl⟩
theorem mvF_names (n : Nat) (L : List Fld) : fnames (L.map (mvF n)) = fnames L := by
 unfold fnames
 rw [List.map_map]
 rfl
theorem mvA_names (n : Nat) (L : List Arm) : anames (L.map (mvA n)) = anames L := by
 unfold anames
 rw [List.map_map]
 rfl
theorem mvF_types (n : Nat) (L : List Fld) : ftypes (L.map (mvF n)) = (ftypes L).map (· + Int.ofNat n) := by
 unfold ftypes
 rw [List.map_map, List.map_map]
 rfl
theorem mvA_fields (n : Nat) (L : List Arm) : afields (L.map (mvA n)) = (afields L).map (mvF n) := by
 unfold afields
 induction L with
 | nil => rfl
 | cons a L ih =>
  rw [List.map_cons, List.flatMap_cons, List.flatMap_cons, List.map_append, ih]
  rfl
theorem mvT_parts (n : Nat) (t : Ty) : partsL (mvT n t) = (partsL t).map (· + Int.ofNat n) := by
 unfold partsL mvT
 simp only [mvF_types, mvA_fields, List.map_append]
theorem mvT_bad {m n N : Nat} {t : Ty} (h : badB m t = false) (hN : n + m ≤ N) : badB N (mvT n t) = false := by
 refine bad_no fun j p _ hp => ?_
 rw [mvT_parts, List.getElem?_map] at hp
 cases hq : (partsL t)[j]? with
 | none => rw [hq] at hp; cases hp
 | some p0 =>
  rw [hq] at hp
  cases hp
  obtain ⟨q, rfl, hql⟩ := parts_in h hq
  simp only [Int.ofNat_eq_natCast]
  omega
theorem bad_mono {m N : Nat} {t : Ty} (h : badB m t = false) (hN : m ≤ N) : badB N t = false := by
 refine bad_no fun j p _ hp => ?_
 obtain ⟨q, rfl, hql⟩ := parts_in h hp
 simp only [Int.ofNat_eq_natCast]
 omega
theorem mvT_named (n : Nat) (t : Ty) : namedB (mvT n t) = namedB t := by
 have h1 : headB (mvT n t) = headB t := rfl
 unfold namedB
 rw [h1]
 congr 2
 ·show (t.fields.map (mvF n)).all _ = _
  rw [List.all_map]
  rfl
 show (t.arms.map (mvA n)).all _ = _
 rw [List.all_map]
 congr 1
 funext a
 show armB (mvA n a) = armB a
 unfold armB
 congr 1
 show (a.fields.map (mvF n)).all _ = _
 rw [List.all_map]
 rfl
theorem mvT_twice (n : Nat) (t : Ty) : twiceB (mvT n t) = twiceB t := by
 unfold twiceB mvT
 simp only [mvF_names, mvA_names]
 congr 2
 rw [List.any_map]
 congr 1
 funext a
 show dupB (fnames (t.fields.map (mvF n) ++ a.fields.map (mvF n))) = _
 rw [← List.map_append, mvF_names]
theorem mvT_shaped (n : Nat) (t : Ty) : shapedB (mvT n t) = shapedB t := by
 unfold shapedB mvT
 simp only [List.length_map]
theorem single_of {n : Nat} {t : Ty} (h1 : shapedB t = true) (h2 : badB n t = false) (h3 : namedB t = true) (h4 : twiceB t = false) (h5 : 0 ≤ t.kind) (h6 : t.kind ≤ 14) : singleE n t = 0 := by
 unfold singleE
 rw [if_neg (by omega), if_neg (by rw [h1]; decide), if_neg (by rw [h2]; decide), if_neg (by rw [h3]; decide), if_neg (by rw [h4]; decide)]
theorem Well.join {l l2 : List Ty} (h : Well l) (h2 : Well l2) : Well (joinL l l2) := ⟨fun i x hx => by
 rw [joinL_len]
 rcases joinL_cases hx with ⟨_, hx⟩ | ⟨j, y, _, hy, rfl⟩
 ·obtain ⟨a1, a2, a3, a4, a5, a6⟩ := single_zero (h.all i x hx)
  exact single_of a1 (bad_mono a2 (by omega)) a3 a4 a5 a6
 obtain ⟨a1, a2, a3, a4, a5, a6⟩ := single_zero (h2.all j y hy)
 exact single_of (by rw [mvT_shaped]; exact a1) (mvT_bad a2 (by omega)) (by rw [mvT_named]; exact a3) (by rw [mvT_twice]; exact a4) a5 a6⟩
theorem FewT.mv {n : Nat} {t : Ty} (h : FewT t) : FewT (mvT n t) where
 elems := by have := h.elems; simpa [mvT] using this
 fields := by have := h.fields; simpa [mvT] using this
 arms := by have := h.arms; simpa [mvT] using this
 name := h.name
 fname := fun j x hx => by
  have hx : (t.fields.map (mvF n))[j]? = some x := hx
  rw [List.getElem?_map] at hx
  cases hy : t.fields[j]? with
  | none => rw [hy] at hx; cases hx
  | some y =>
   rw [hy] at hx
   cases hx
   exact h.fname j y hy
 aname := fun j x hx => by
  have hx : (t.arms.map (mvA n))[j]? = some x := hx
  rw [List.getElem?_map] at hx
  cases hy : t.arms[j]? with
  | none => rw [hy] at hx; cases hx
  | some y =>
   rw [hy] at hx
   cases hx
   exact h.aname j y hy
 afields := fun j x hx => by
  have hx : (t.arms.map (mvA n))[j]? = some x := hx
  rw [List.getElem?_map] at hx
  cases hy : t.arms[j]? with
  | none => rw [hy] at hx; cases hx
  | some y =>
   rw [hy] at hx
   cases hx
   have := h.afields j y hy
   simpa [mvA] using this
 afname := fun j x hx k y hy => by
  have hx : (t.arms.map (mvA n))[j]? = some x := hx
  rw [List.getElem?_map] at hx
  cases hz : t.arms[j]? with
  | none => rw [hz] at hx; cases hx
  | some z =>
   rw [hz] at hx
   cases hx
   have hy : (z.fields.map (mvF n))[k]? = some y := hy
   rw [List.getElem?_map] at hy
   cases hu : z.fields[k]? with
   | none => rw [hu] at hy; cases hy
   | some u =>
    rw [hu] at hy
    cases hy
    exact h.afname j z hz k u hu
theorem few_join {l l2 : List Ty} (h : ∀ (i : Nat) (a : Ty), l[i]? = some a → FewT a) (h2 : ∀ (i : Nat) (a : Ty), l2[i]? = some a → FewT a) : ∀ (i : Nat) (a : Ty), (joinL l l2)[i]? = some a → FewT a := fun i a ha => by
 rcases joinL_cases ha with ⟨_, ha⟩ | ⟨j, y, _, hy, rfl⟩
 ·exact h i a ha
 exact (h2 j y hy).mv
abbrev KJ (F : Hp) (K0 : Kn) : Kn := fun b o => InH F b o ∨ K0 b o
theorem KJ.mono {F F' : Hp} {K0 : Kn} (k : ∀ b o, InH F b o → InH F' b o) : ∀ b o, KJ F K0 b o → KJ F' K0 b o := fun b o h => h.imp (k b o) id
theorem join_fin {F : Hp} {K0 : Kn} {L : List Ty} {g : Gro} {cs : List Value} (hF : Flat 5 (RTy (KJ F K0)) L cs) (hO : g.Ok L.length) (hl : L.length ≤ 9223372036854775807) : Sl (KJ (g.H 50 cs ++ F) K0) 5 (RTy (KJ (g.H 50 cs ++ F) K0)) L (g.V L.length) :=
 (Gro.sl hF hO hl).mono (fun b o h => .inl (List.mem_append_left _ h)) (RTy.mono (KJ.mono inB))
theorem RTy.flats {K : Kn} : ∀ x cs, RTy K x cs → flats cs = true := by
 rintro x cs ⟨ve, vf, va, rfl, ⟨ae, ce, rfl, _⟩, ⟨af, cf, rfl, _⟩, ⟨aa, ca, rfl, _⟩⟩
 rfl
theorem rJoined_ok {l l2 : List Ty} {va vb : Value} {K0 : Kn} {m : AW} (hm : m.lo ≤ m.next) (hK0 : ∀ b o, K0 b o → Mem m b o) (hlS : Sl K0 5 (RTy K0) l va) (hlT : Sl K0 5 (RTy K0) l2 vb) (hwl2 : ∀ (i : Nat) (a : Ty), l2[i]? = some a → FewT a) (hbd2 : ∀ (i : Nat) (a : Ty), l2[i]? = some a → badB l2.length a = false) (h100 : l.length ≤ 100) (h101 : l2.length ≤ 100) : Fc prog 27 [va, vb] m fun v m' => ∃ x : Hp × Value, Sl (KJ x.1 K0) 5 (RTy (KJ x.1 K0)) (joinL l l2) x.2 ∧ v = x.2 ∧ Ext m m' ∧ News m m' x.1 := by
 have hlA := hlS
 obtain ⟨aA, cA, rfl, hnA, -⟩ := hlS
 obtain ⟨aB, cB, rfl, hnB, hl⟩ := hlT.mono hK0 (RTy.mono hK0)
 refine Fc.body (c := _) func27 rfl rfl rfl rfl hm ?_
 refine .seq (.region (.P ?_))
 refine .nil (.seq (.seq (.region ?_)))
 refine .buildSlice rfl rfl rfl rfl rfl (bs22_0) (fun b10 hb10 => ?_)
 refine .P ?_
 refine .appendSl (R := RTy K0) (l0 := []) (l := l) (L := l) (g := .emp b10) (cs := []) rfl .one Flat.nil rfl (hlA) ((fun b o h => Mem.sees rfl rfl b o (hK0 b o h))) RTy.flats (by simp; omega) rfl rfl rfl rfl underlying22 underlying22 ap50 rfl rfl (fun g1 cs1 hF1 hO1 => ?_)
 refine .P ?_
 refine .nil (.seq (.seq (.seq (.region (.P ?_)))))
 refine .nil (.seq (.block ?_))
 refine .loop (α := Nat × Gro × List Value × List Ty × Hp) (fun q => [(0, .slice aA l.length cA), (1, .slice aB l2.length cB), (5, q.2.1.V q.2.2.2.1.length), (6, .int .i64 (Int.ofNat (q.1)))]) (fun q => q.2.1.H 50 q.2.2.1 ++ q.2.2.2.2) (fun q => q.1 ≤ l2.length ∧ q.2.2.2.1 = l ++ (l2.take q.1).map (mvT l.length) ∧ Flat 5 (RTy (KJ q.2.2.2.2 K0)) q.2.2.2.1 q.2.2.1 ∧ q.2.1.Ok q.2.2.2.1.length) (fun q => l2.length - q.1) (0, g1, cs1, l, []) ⟨Nat.zero_le _, by simp, flat_mono hF1 (RTy.mono fun b o h => .inr h), hO1⟩ ⟨rfl, rfl, rfl, rfl, trivial⟩ (.refl _) (fun q hq0 => ?_)
 obtain ⟨i, g_, cs_, out, F⟩ := q
 obtain ⟨hi, hout, hF, hO⟩ := hq0
 simp only at hi hout hF hO
 have hlo : out.length = l.length + i := by rw [hout, List.length_append, List.length_map, List.length_take]; omega
 refine .seq (.seq (.region (.P2 ?_)))
 refine .G (ln22 ..) ?_
 refine .P ?_
 refine .nil (.seq (.cond rfl (fun ht16 => ?_) fun ht16 => ?_))
 ·try simp only [nz] at ht16
  have hlt : i < l2.length := by omega
  obtain ⟨a, ha⟩ := gx hlt
  obtain ⟨b, off, cs, el, g, md, mate, rfl, ⟨hb, hh⟩, hle, hc⟩ := so hl hlt
  have hr := hc i a ha
  obtain ⟨ve, vf, va_, hr, he, hf, hga⟩ := hr
  have heS := he
  have hfS := hf
  obtain ⟨ae, ce, rfl, hne, he⟩ := he
  obtain ⟨af, cf, rfl, hnf, hf⟩ := hf
  obtain ⟨aa, ca, rfl, hna, hga⟩ := hga
  have hw := hwl2 i a ha
  have hbd := hbd2 i a ha
  have k1 := hw.elems
  have k2 := hw.fields
  have k3 := hw.arms
  refine .skip (.seq (.seq (.block (.seq ?_))))
  refine .D [(13, 0), (13, 0), (13, 3), (13, 7), (1, 15), (13, 0), (13, 0), (13, 96), (13, 224), (1, 480), (15, 0), (15, 0), (15, 3072), (15, 7168), (3, 15360), (15, 0), (3, 32768), (7, 130048), (15, 262143), (8, 0), (7, 1048575)] (by kernel_rfl) (by kernel_rfl) (fun base hbase hB => ?_)
  iterate 2 refine .P ?_
  refine .K underlying22 sz50 ?_
  refine .F fa50_0 ?_
  refine .loadOld rfl rfl rfl rfl rfl rfl ag3 (.base hh hb (by simp)) (cell_of_take hr (k := 0) rfl) (by first | exact hB _ _ (.head _) | exact hB _ _ (.tail _ (.head _)) | exact hB _ _ (.tail _ (.tail _ (.head _))) | exact hB _ _ (.tail _ (.tail _ (.tail _ (.head _)))) | exact hB _ _ (List.mem_append_right _ (.head _)) | exact hB _ _ (List.mem_append_right _ (.tail _ (.head _))) | exact Nat.lt_of_lt_of_le ‹_› hbase) ?_
  iterate 2 refine .P ?_
  refine .K underlying22 sz50 ?_
  refine .F fa50_2 ?_
  refine .loadOld rfl rfl rfl rfl rfl rfl ag9 (.base hh hb (by simp)) (cell_of_take hr (k := 2) rfl) (by first | exact hB _ _ (.head _) | exact hB _ _ (.tail _ (.head _)) | exact hB _ _ (.tail _ (.tail _ (.head _))) | exact hB _ _ (.tail _ (.tail _ (.tail _ (.head _)))) | exact hB _ _ (List.mem_append_right _ (.head _)) | exact hB _ _ (List.mem_append_right _ (.tail _ (.head _))) | exact Nat.lt_of_lt_of_le ‹_› hbase) ?_
  iterate 2 refine .P ?_
  refine .K underlying22 sz50 ?_
  refine .F fa50_3 ?_
  refine .M ag47 (.base hh hb (by simp)) (cell_of_take hr (k := 3) rfl) ?_
  refine .P ?_
  refine .len rfl rfl rfl rfl rfl rfl (ln22 ..) ?_
  refine .calln _ _ _ rfl rfl rfl rfl rfl rfl rfl rfl rfl (fun m hm => rmvd_ok (n := l.length) hm.lole (hfS.mono (Mem.kr hm) fun _ _ h => h) (by omega) (InR.parts hbd (by omega) fun x_ hx_ => parts_fldm hx_) (by omega)) (fun z hz => ?_)
  obtain ⟨zg, zc⟩ := z
  obtain ⟨hzF, hzO⟩ := hz
  simp only at hzF hzO
  have hS2 := Gro.sl (el := 132) hzF hzO (by first | omega | (simp; omega))
  obtain ⟨a2, c2, hh36, -, -⟩ := id hS2
  rw [hh36] at hS2
  refine .as 36 (.slice a2 (a.fields.map (mvF l.length)).length c2) rfl hh36 ?_
  refine .p (v := .agg ⟨[.int .i64 a.kind, .slice none 0 0, .string a.name, .slice a2 (a.fields.map (mvF l.length)).length c2, .slice none 0 0]⟩) rfl rfl rfl rfl (by kernel_rfl) ?_
  refine .alloc rfl rfl rfl rfl rfl zr50 (fun b7 hn7 hb7 => ?_)
  refine .store rfl rfl (by kernel_rfl) (by kernel_rfl) rfl rfl rfl rfl rfl sz50 rfl (by first | exact .head | exact .tail .head | exact .tail (.tail .head) | exact .tail (.tail (.tail .head)) | exact updo) rfl ?_
  refine .nil (.seq (.seq (.seq (.region (.P ?_)))))
  refine .nil (.seq (.block ?_))
  refine .loop (α := Nat × Gro × List Value × List Int × Value) (fun q => [(0, .slice aA l.length cA), (1, .slice (some ⟨b, off, none⟩) l2.length cB), (5, g_.V out.length), (6, .int .i64 (Int.ofNat (i))), (7, ptr b7), (8, .int .i64 (Int.ofNat (q.1)))]) (fun q => (b7, .cells [.int .i64 a.kind, q.2.2.2.2, .string a.name, .slice a2 (a.fields.map (mvF l.length)).length c2, .slice none 0 0] 50 false .plain none) :: (q.2.1.H 3 q.2.2.1 ++ (zg.H 132 zc ++ (g_.H 50 cs_ ++ F)))) (fun q => q.1 ≤ a.elems.length ∧ q.2.2.2.1 = (a.elems.take q.1).map (· + Int.ofNat l.length) ∧ Flat 1 RInt q.2.2.2.1 q.2.2.1 ∧ q.2.1.Ok q.2.2.2.1.length ∧ q.2.2.2.2 = q.2.1.V q.2.2.2.1.length) (fun q => a.elems.length - q.1) (0, .no, [], [], .slice none 0 0) ⟨Nat.zero_le _, rfl, Flat.nil, rfl, rfl⟩ ⟨rfl, rfl, rfl, rfl, rfl, rfl, trivial⟩ (.refl _) (fun q hq0 => ?_)
  obtain ⟨j, gN, csN, oE, w⟩ := q
  obtain ⟨hj, hoE, hFE, hOE, hwE⟩ := hq0
  simp only at hj hoE hFE hOE hwE
  have hlE : oE.length = j := by rw [hoE, List.length_map, List.length_take]; omega
  refine .seq (.seq (.region (.P3 ?_)))
  refine .K underlying22 sz50 ?_
  refine .F fa50_1 ?_
  refine .M ag32 (.base hh hb (by simp)) (cell_of_take hr (k := 1) rfl) ?_
  refine .G (ln32 ..) ?_
  refine .P ?_
  refine .nil (.seq (.cond rfl (fun ht45 => ?_) fun ht45 => ?_))
  ·try simp only [nz] at ht45
   have hltE : j < a.elems.length := by omega
   obtain ⟨p, hp0⟩ := gx hltE
   obtain ⟨bE, offE, csE, elE, gE, mdE, mateE, rfl, ⟨hbE, hhE⟩, hleE, hcE⟩ := so he hltE
   have hrp := hcE j p hp0
   obtain ⟨qp, hqp, hqpl⟩ := parts_in hbd (parts_elem hp0)
   refine .skip (.seq (.seq (.block ?_)))
   refine .D [(15, 0), (3, 1), (15, 0), (15, 0), (15, 12), (15, 28), (3, 60), (15, 0), (15, 252), (3, 508), (15, 0), (3, 1024), (15, 4092), (11, 8188), (7, 16383), (15, 32767), (7, 65535)] (by kernel_rfl) (by kernel_rfl) (fun base hbase hB => ?_)
   refine .F fa50_1 ?_
   refine .J ag32 ?_
   refine .as 49 (gN.V oE.length) rfl hwE ?_
   iterate 2 refine .P ?_
   refine .K underlying22 sz50 ?_
   refine .F fa50_1 ?_
   refine .M ag32 (.base hh hb (by simp)) (cell_of_take hr (k := 1) rfl) ?_
   refine .P ?_
   refine .K underlying32 sz3 ?_
   refine .M ag3 (.base hhE hbE (by simp)) (cell_of_take hrp (k := 0) rfl) ?_
   refine .P ?_
   refine .len rfl rfl rfl rfl rfl rfl (ln22 ..) ?_
   refine .P ?_
   refine .as 60 (.int .i64 (p + Int.ofNat l.length)) rfl (congrArg (Value.int .i64) (mv_wr hqp (by omega))) ?_
   refine .buildSlice rfl rfl rfl rfl rfl rfl (bs32_1 ..) (fun b61 hn61 hb61 => ?_)
   refine .appendSl (R := RInt) (l0 := oE) (l := [p + Int.ofNat l.length]) (L := (oE ++ [p + Int.ofNat l.length])) (g := gN) (cs := csN) rfl (.tail (.tail .here)) hFE hOE (Sl.single (R := RInt) (x := p + Int.ofNat l.length) (b := b61) (c := 1) (el := 3) (g := false) (md := .plain) (mate := none) rfl rfl) ((InH.sees (by intro p_ hp_; rw [List.mem_singleton.1 hp_]; exact List.mem_cons_self))) RInt.flats (by simp; omega) rfl rfl (by kernel_rfl) (by kernel_rfl) rfl rfl rfl rfl underlying32 underlying32 ap3 rfl rfl (fun g5 cs5 hF5 hO5 => ?_)
   obtain ⟨a5, c5, hw5⟩ := Gro.len hO5
   refine .as 62 (.slice a5 (oE ++ [p + Int.ofNat l.length]).length c5) rfl hw5 ?_
   refine .F fa50_1 ?_
   refine .store rfl rfl (by kernel_rfl) (by kernel_rfl) rfl rfl rfl rfl rfl sz32 rfl (Upd.app (.tail .head)) rfl ?_
   refine .nil (.blk (.seq (.region (.P2 ?_))))
   refine .W 47 j ?_
   refine .P ?_
   refine .nil (.swap mv_perm ?_)
   exact .loop (j + 1, g5, cs5, oE ++ [p + Int.ofNat l.length], _) ⟨by omega, by rw [hoE]; exact (map_take_succ (f := (· + Int.ofNat l.length)) hp0).symm, hF5, hO5, hw5.symm⟩ (by show a.elems.length - (j + 1) < a.elems.length - j; omega) ⟨rfl, rfl, rfl, rfl, rfl, rfl, trivial⟩ (.cons_cons _ ((List.Sublist.refl _).append (.cons _ (.refl _))))
  try simp only [nz] at ht45
  have hje : j = a.elems.length := by omega
  subst hje
  rw [List.take_length] at hoE
  subst hoE
  have hSe : Sl (InH (gN.H 3 csN)) 1 RInt (a.elems.map (· + Int.ofNat l.length)) w := by rw [hwE]; exact Gro.sl hFE hOE (by simp; omega)
  obtain ⟨a7, c7, rfl, -, -⟩ := id hSe
  refine .exit (.seq (.loop (.here (.seq (.seq (.seq (.region (.P ?_))))))))
  refine .nil (.seq (.block ?_))
  refine .loop (α := Nat × Gro × List Value × List Arm × Hp × Value) (fun q => [(0, .slice aA l.length cA), (1, .slice (some ⟨b, off, none⟩) l2.length cB), (5, g_.V out.length), (6, .int .i64 (Int.ofNat (i))), (7, ptr b7), (9, .int .i64 (Int.ofNat (q.1)))]) (fun q => (b7, .cells [.int .i64 a.kind, .slice a7 (a.elems.map (· + Int.ofNat l.length)).length c7, .string a.name, .slice a2 (a.fields.map (mvF l.length)).length c2, q.2.2.2.2.2] 50 false .plain none) :: (q.2.1.H 55 q.2.2.1 ++ (q.2.2.2.2.1 ++ (gN.H 3 csN ++ (zg.H 132 zc ++ (g_.H 50 cs_ ++ F)))))) (fun q => q.1 ≤ a.arms.length ∧ q.2.2.2.1 = (a.arms.take q.1).map (mvA l.length) ∧ Flat 2 (RArm (InH q.2.2.2.2.1)) q.2.2.2.1 q.2.2.1 ∧ q.2.1.Ok q.2.2.2.1.length ∧ q.2.2.2.2.2 = q.2.1.V q.2.2.2.1.length) (fun q => a.arms.length - q.1) (0, .no, [], [], [], .slice none 0 0) ⟨Nat.zero_le _, rfl, Flat.nil, rfl, rfl⟩ ⟨rfl, rfl, rfl, rfl, rfl, rfl, trivial⟩ (.refl _) (fun q hq0 => ?_)
  obtain ⟨k, g3, cs3, L3, F2, wa⟩ := q
  obtain ⟨hk, hL3, hF3, hO3, hw3⟩ := hq0
  simp only at hk hL3 hF3 hO3 hw3
  have hL3l : L3.length = k := by rw [hL3, List.length_map, List.length_take]; omega
  refine .seq (.seq (.region (.P3 ?_)))
  refine .K underlying22 sz50 ?_
  refine .F fa50_4 ?_
  refine .M ag48 (.base hh hb (by simp)) (cell_of_take hr (k := 4) rfl) ?_
  refine .G (ln48 ..) ?_
  refine .P ?_
  refine .nil (.seq (.cond rfl (fun ht71 => ?_) fun ht71 => ?_))
  ·try simp only [nz] at ht71
   have hltX : k < a.arms.length := by omega
   obtain ⟨x, hx⟩ := gx hltX
   obtain ⟨bX, offX, csX, elX, gX, mdX, mateX, rfl, ⟨hbX, hhX⟩, hleX, hcX⟩ := so hga hltX
   have hrx := hcX k x hx
   obtain ⟨vx, hrx, hxS⟩ := hrx
   obtain ⟨axf, cxf, rfl, hnxf, hxf⟩ := id hxS
   have k4 := hw.afields k x hx
   refine .skip (.seq (.seq (.block ?_)))
   refine .D [(13, 0), (1, 1), (13, 0), (13, 0), (13, 12), (13, 28), (1, 60), (13, 0), (13, 252), (13, 508), (1, 1020), (15, 0), (15, 0), (15, 6144), (15, 14336), (3, 30720), (15, 0), (15, 129024), (15, 260096), (3, 522240), (15, 0), (3, 1048576), (7, 4192256), (15, 8388604), (11, 16777212), (7, 33554431), (15, 67108863), (7, 134217727)] (by kernel_rfl) (by kernel_rfl) (fun base hbase hB => ?_)
   refine .F fa50_4 ?_
   refine .R ag48 hB ?_
   refine .as 75 (g3.V L3.length) rfl hw3 ?_
   iterate 2 refine .P ?_
   refine .K underlying22 sz50 ?_
   refine .F fa50_4 ?_
   refine .loadOld rfl rfl rfl rfl rfl rfl ag48 (.base hh hb (by simp)) (cell_of_take hr (k := 4) rfl) (by first | exact hB _ _ (.head _) | exact hB _ _ (.tail _ (.head _)) | exact hB _ _ (.tail _ (.tail _ (.head _))) | exact hB _ _ (.tail _ (.tail _ (.tail _ (.head _)))) | exact hB _ _ (List.mem_append_right _ (.head _)) | exact hB _ _ (List.mem_append_right _ (.tail _ (.head _))) | exact Nat.lt_of_lt_of_le ‹_› hbase) ?_
   refine .P ?_
   refine .K underlying48 sz55 ?_
   refine .F fa55_0 ?_
   refine .loadOld rfl rfl rfl rfl rfl rfl ag9 (.base hhX hbX (by simp)) (cell_of_take hrx (k := 0) rfl) (by first | exact hB _ _ (.head _) | exact hB _ _ (.tail _ (.head _)) | exact hB _ _ (.tail _ (.tail _ (.head _))) | exact hB _ _ (.tail _ (.tail _ (.tail _ (.head _)))) | exact hB _ _ (List.mem_append_right _ (.head _)) | exact hB _ _ (List.mem_append_right _ (.tail _ (.head _))) | exact Nat.lt_of_lt_of_le ‹_› hbase) ?_
   iterate 2 refine .P ?_
   refine .K underlying22 sz50 ?_
   refine .F fa50_4 ?_
   refine .M ag48 (.base hh hb (by simp)) (cell_of_take hr (k := 4) rfl) ?_
   refine .P ?_
   refine .K underlying48 sz55 ?_
   refine .F fa55_1 ?_
   refine .M ag47 (.base hhX hbX (by simp)) (cell_of_take hrx (k := 1) rfl) ?_
   refine .P ?_
   refine .len rfl rfl rfl rfl rfl rfl (ln22 ..) ?_
   refine .calln _ _ _ rfl rfl rfl rfl rfl rfl rfl rfl rfl (fun m hm => rmvd_ok (n := l.length) hm.lole (hxS.mono (Mem.kr hm) fun _ _ h => h) (by omega) (InR.parts hbd (by omega) fun x_ hx_ => parts_armf (List.mem_of_getElem? hx) hx_) (by omega)) (fun z4 hz4 => ?_)
   obtain ⟨z4g, z4c⟩ := z4
   obtain ⟨hz4F, hz4O⟩ := hz4
   simp only at hz4F hz4O
   have hS4 := Gro.sl (el := 132) hz4F hz4O (by first | omega | (simp; omega))
   obtain ⟨a4, c4, hh96, -, -⟩ := id hS4
   rw [hh96] at hS4
   refine .as 96 (.slice a4 (x.fields.map (mvF l.length)).length c4) rfl hh96 ?_
   refine .p (v := .agg ⟨[.string x.name, .slice a4 (x.fields.map (mvF l.length)).length c4]⟩) rfl rfl rfl rfl (by kernel_rfl) ?_
   refine .buildSlice rfl rfl rfl rfl rfl rfl (bs48_1 ..) (fun b98 hn98 hb98 => ?_)
   refine .appendSl (R := RArm (InH (z4g.H 132 z4c ++ F2))) (l0 := L3) (l := [mvA l.length x]) (L := (L3 ++ [mvA l.length x])) (g := g3) (cs := cs3) rfl (.tail (.over (.tail .here))) (flat_mono hF3 (RArm.mono inB)) hO3 (Sl.single (R := RArm (InH (z4g.H 132 z4c ++ F2))) (x := mvA l.length x) (b := b98) (c := 1) (el := 55) (g := false) (md := .plain) (mate := none) ⟨_, rfl, hS4.mono inA fun _ _ h => h⟩ rfl) ((InH.sees (by intro p_ hp_; rw [List.mem_singleton.1 hp_]; exact List.mem_cons_self))) RArm.flats (by simp; omega) rfl rfl (by kernel_rfl) (by kernel_rfl) rfl rfl rfl rfl underlying48 underlying48 ap55 rfl rfl (fun g7 cs7 hF7 hO7 => ?_)
   obtain ⟨a8, c8, hw7⟩ := Gro.len hO7
   refine .as 99 (.slice a8 (L3 ++ [mvA l.length x]).length c8) rfl hw7 ?_
   refine .F fa50_4 ?_
   refine .store rfl rfl (by kernel_rfl) (by kernel_rfl) rfl rfl rfl rfl rfl sz48 rfl (Upd.app (.tail (Upd.app .head))) rfl ?_
   refine .nil (.blk (.seq (.region (.P2 ?_))))
   refine .W 73 k ?_
   refine .P ?_
   refine .nil (.swap own_perm1 ?_)
   exact .loop (k + 1, g7, cs7, L3 ++ [mvA l.length x], z4g.H 132 z4c ++ F2, _) ⟨by omega, by rw [hL3]; exact (map_take_succ hx).symm, hF7, hO7, hw7.symm⟩ (by show a.arms.length - (k + 1) < a.arms.length - k; omega) ⟨rfl, rfl, rfl, rfl, rfl, rfl, trivial⟩ (.cons _ (.refl _))
  try simp only [nz] at ht71
  have hke : k = a.arms.length := by omega
  subst hke
  rw [List.take_length] at hL3
  subst hL3
  have hSa : Sl (InH (g3.H 55 cs3)) 2 (RArm (InH F2)) (a.arms.map (mvA l.length)) wa := by rw [hw3]; exact Gro.sl hF3 hO3 (by simp; omega)
  obtain ⟨a9, c9, rfl, -, -⟩ := id hSa
  refine .exit (.seq (.loop (.here (.seq (.region (.P ?_))))))
  refine .E ag50 sz50 ?_
  refine .buildSlice rfl rfl rfl rfl rfl (bs22_1 ..) (fun b103 hb103 => ?_)
  refine .appendSl (R := RTy (KJ (g3.H 55 cs3 ++ (F2 ++ (gN.H 3 csN ++ (zg.H 132 zc ++ F)))) K0)) (l0 := out) (l := [mvT l.length a]) (L := (out ++ [mvT l.length a])) (g := g_) (cs := cs_) rfl (.tail (.tail (.over (.over (.over (.over .here)))))) (flat_mono hF (RTy.mono (KJ.mono fun b o h => inB b o (inB b o (inB b o (inB b o h)))))) hO (Sl.single (R := RTy (KJ (g3.H 55 cs3 ++ (F2 ++ (gN.H 3 csN ++ (zg.H 132 zc ++ F)))) K0)) (x := mvT l.length a) (b := b103) (c := 1) (el := 50) (g := false) (md := .plain) (mate := none) ⟨_, _, _, rfl, hSe.mono (fun b o h => .inl (inB b o (inB b o (inA b o h)))) fun _ _ h => h, hS2.mono (fun b o h => .inl (inB b o (inB b o (inB b o (inA b o h))))) fun _ _ h => h, hSa.mono (fun b o h => .inl (inA b o h)) (RArm.mono fun b o h => .inl (inB b o (inA b o h)))⟩ rfl) ((InH.sees (by intro p_ hp_; rw [List.mem_singleton.1 hp_]; exact List.mem_cons_self))) RTy.flats (by simp; omega) rfl rfl rfl rfl underlying22 underlying22 ap50 rfl rfl (fun g6 cs6 hF6 hO6 => ?_)
  refine .P ?_
  refine .nil (.blk (.seq (.region (.P2 ?_))))
  refine .W 18 i ?_
  refine .P ?_
  refine .nil ?_
  exact .loop (i + 1, g6, cs6, out ++ [mvT l.length a], g3.H 55 cs3 ++ (F2 ++ (gN.H 3 csN ++ (zg.H 132 zc ++ F)))) ⟨by omega, by rw [hout, map_take_succ ha, List.append_assoc], hF6, hO6⟩ (by show l2.length - (i + 1) < l2.length - i; omega) ⟨rfl, rfl, rfl, rfl, trivial⟩ (List.Sublist.append_left (.cons _ (.cons _ (.refl _))) _)
 try simp only [nz] at ht16
 have hie : i = l2.length := by omega
 subst hie
 rw [List.take_length] at hout
 subst hout
 refine .exit (.seq (.loop (.here (.seq (.seq (.region (.P2 ?_)))))))
 refine .nil (.seq (.ret ?_))
 exact .end_ rfl rfl (fun m hm => ⟨(g_.H 50 cs_ ++ F, g_.V (l ++ l2.map (mvT l.length)).length), join_fin hF hO (by rw [joinL_len]; omega), rfl, hm.ext, hm.news (.refl _)⟩)

/-! What is asked of two tables. -/
def AcrP (l l2 : List Ty) (t u : Int) (x : Bool × Int) : Prop := ∃ e1, ChkP l e1 ∧ ((e1 ≠ 0 ∧ x = (false, e1)) ∨ (e1 = 0 ∧ ∃ e2, ChkP l2 e2 ∧ ((e2 ≠ 0 ∧ x = (false, e2)) ∨ (e2 = 0 ∧ ((¬ (0 ≤ t ∧ t < l.length ∧ 0 ≤ u ∧ u < l2.length) ∧ x = (false, 11)) ∨ ∃ p q : Nat, t = Int.ofNat p ∧ u = Int.ofNat q ∧ p < l.length ∧ q < l2.length ∧ x.2 = 0 ∧ (x.1 = true ↔ EqT (joinL l l2) p (q + l.length)))))))
theorem AcrP.bad1 {l l2 : List Ty} {t u e : Int} (h : ChkP l e) (he : e ≠ 0) : AcrP l l2 t u (false, e) := ⟨e, h, .inl ⟨he, rfl⟩⟩
theorem AcrP.bad2 {l l2 : List Ty} {t u e : Int} (h : ChkP l 0) (h2 : ChkP l2 e) (he : e ≠ 0) : AcrP l l2 t u (false, e) := ⟨0, h, .inr ⟨rfl, e, h2, .inl ⟨he, rfl⟩⟩⟩
theorem AcrP.out {l l2 : List Ty} {t u : Int} (h : ChkP l 0) (h2 : ChkP l2 0) (hn : ¬ (0 ≤ t ∧ t < l.length ∧ 0 ≤ u ∧ u < l2.length)) : AcrP l l2 t u (false, 11) := ⟨0, h, .inr ⟨rfl, 0, h2, .inr ⟨rfl, .inl ⟨hn, rfl⟩⟩⟩⟩
theorem AcrP.good {l l2 : List Ty} {p q : Nat} {z : Bool} (h : ChkP l 0) (h2 : ChkP l2 0) (hp : p < l.length) (hq : q < l2.length) (hz : z = true ↔ EqT (joinL l l2) p (q + l.length)) : AcrP l l2 (Int.ofNat p) (Int.ofNat q) (z, 0) := ⟨0, h, .inr ⟨rfl, 0, h2, .inr ⟨rfl, .inr ⟨p, q, rfl, rfl, hp, hq, rfl, hz⟩⟩⟩⟩
theorem AcrP.at1 {l l2 : List Ty} {t u e : Int} {x : Bool × Int} (h : AcrP l l2 t u x) (he : ChkP l e) (hne : e ≠ 0) : x = (false, e) := by
 obtain ⟨e1, h1, h2⟩ := h
 have := h1.uniq he
 subst this
 rcases h2 with ⟨_, h2⟩ | ⟨h2, _⟩
 ·exact h2
 exact absurd h2 hne
theorem AcrP.at2 {l l2 : List Ty} {t u e : Int} {x : Bool × Int} (h : AcrP l l2 t u x) (h0 : ChkP l 0) (he : ChkP l2 e) (hne : e ≠ 0) : x = (false, e) := by
 obtain ⟨e1, h1, h2⟩ := h
 have := h1.uniq h0
 subst this
 rcases h2 with ⟨h2, _⟩ | ⟨_, e2, h3, h4⟩
 ·exact absurd rfl h2
 have := h3.uniq he
 subst this
 rcases h4 with ⟨_, h4⟩ | ⟨h4, _⟩
 ·exact h4
 exact absurd h4 hne
theorem AcrP.at4 {l l2 : List Ty} {p q : Nat} {x : Bool × Int} (h : AcrP l l2 (Int.ofNat p) (Int.ofNat q) x) (h0 : ChkP l 0) (h02 : ChkP l2 0) (hp : p < l.length) (hq : q < l2.length) : x.2 = 0 ∧ (x.1 = true ↔ EqT (joinL l l2) p (q + l.length)) := by
 obtain ⟨e1, h1, h2⟩ := h
 have := h1.uniq h0
 subst this
 rcases h2 with ⟨h2, _⟩ | ⟨_, e2, h3, h4⟩
 ·exact absurd rfl h2
 have := h3.uniq h02
 subst this
 rcases h4 with ⟨h4, _⟩ | ⟨_, h4⟩
 ·exact absurd rfl h4
 rcases h4 with ⟨h4, _⟩ | ⟨p', q', e1, e2, _, _, h5, h6⟩
 ·exact absurd ⟨Int.natCast_nonneg _, Int.ofNat_lt.2 hp, Int.natCast_nonneg _, Int.ofNat_lt.2 hq⟩ h4
 cases e1
 cases e2
 exact ⟨h5, h6⟩
theorem Across_ok {l l2 : List Ty} {va vb : Value} {t u : Int} {m : AW} (hm : m.lo ≤ m.next) (hlS : Sl (Mem m) 5 (RTy (Mem m)) l va) (hlT : Sl (Mem m) 5 (RTy (Mem m)) l2 vb) (hwl : ∀ (i : Nat) (a : Ty), l[i]? = some a → FewT a) (hwl2 : ∀ (i : Nat) (a : Ty), l2[i]? = some a → FewT a) (hn14 : l.length ≤ 14) (hm14 : l2.length ≤ 14) : Fc prog 26 [va, .int .i64 t, vb, .int .i64 u] m fun v m' => ∃ x : Bool × Int, AcrP l l2 t u x ∧ v = .tuple ⟨[.bool x.1, .int .i64 x.2]⟩ ∧ Ext m m' ∧ News m m' [] := by
 have hlA := hlS
 have hlB := hlT
 obtain ⟨aA, cA, rfl, hnA, -⟩ := hlS
 obtain ⟨aB, cB, rfl, hnB, hl⟩ := hlT
 refine Fc.body (c := _) func26 rfl rfl rfl rfl hm ?_
 refine .seq (.region (.P2 ?_))
 refine .nil (.seq (.seq (.seq (.region (.P ?_)))))
 refine .calln _ _ _ rfl rfl rfl rfl rfl rfl (fun m hm => check_ok hm.lole (hlA.mono (Mem.kr hm) (RTy.mono (Mem.kr hm))) hwl hn14) (fun e1 he1 => ?_)
 refine .P ?_
 refine .nil (.seq (.seq (.region (.P2 ?_))))
 refine .nil (.seq (.cond rfl (fun ht18 => ?_) fun ht18 => ?_))
 ·try simp only [nz] at ht18
  have hne : e1 ≠ 0 := by omega
  refine .seq (.region (.P3 ?_))
  refine .nil (.seq (.ret (.seq ?_)))
  exact .end_ rfl rfl (by first | exact (fun m hm => ⟨(false, e1), AcrP.bad1 he1 hne, rfl, hm.ext, News.nil _ _⟩) | exact (fun m hm => ⟨(false, e2), AcrP.bad2 he1 he2 hne, rfl, hm.ext, News.nil _ _⟩) | exact (fun m hm => ⟨(false, 11), AcrP.out he1 he2 (by omega), rfl, hm.ext, News.nil _ _⟩) | exact (fun m hm => ⟨(z, 0), AcrP.good he1 he2 hp hq hz, rfl, hm.ext, News.nil _ _⟩))
 try simp only [nz] at ht18
 have he10 : e1 = 0 := by omega
 subst he10
 refine .skip (.seq (.seq (.seq (.region (.P ?_)))))
 refine .calln _ _ _ rfl rfl rfl rfl rfl rfl (fun m hm => check_ok hm.lole (hlB.mono (Mem.kr hm) (RTy.mono (Mem.kr hm))) hwl2 hm14) (fun e2 he2 => ?_)
 refine .P ?_
 refine .nil (.seq (.seq (.region (.P2 ?_))))
 refine .nil (.seq (.cond rfl (fun ht23 => ?_) fun ht23 => ?_))
 ·try simp only [nz] at ht23
  have hne : e2 ≠ 0 := by omega
  refine .seq (.region (.P3 ?_))
  refine .nil (.seq (.ret (.seq ?_)))
  exact .end_ rfl rfl (by first | exact (fun m hm => ⟨(false, e1), AcrP.bad1 he1 hne, rfl, hm.ext, News.nil _ _⟩) | exact (fun m hm => ⟨(false, e2), AcrP.bad2 he1 he2 hne, rfl, hm.ext, News.nil _ _⟩) | exact (fun m hm => ⟨(false, 11), AcrP.out he1 he2 (by omega), rfl, hm.ext, News.nil _ _⟩) | exact (fun m hm => ⟨(z, 0), AcrP.good he1 he2 hp hq hz, rfl, hm.ext, News.nil _ _⟩))
 try simp only [nz] at ht23
 have he20 : e2 = 0 := by omega
 subst he20
 refine .skip (.seq (.seq (.seq (.region (.P3 ?_)))))
 refine .splitB 27 rfl (fun hs_27 => ?_) (fun hs_27 => ?_)
 ·try simp only [nz] at hs_27
  iterate 4 refine .O ?_
  refine .P2 ?_
  iterate 2 refine .O ?_
  refine .P2 ?_
  iterate 4 refine .O ?_
  refine .P ?_
  refine .nil (.seq (.cond_true rfl (.seq (.region (.P2 ?_)))))
  refine .nil (.seq (.ret (.seq ?_)))
  exact .end_ rfl rfl (by first | exact (fun m hm => ⟨(false, e1), AcrP.bad1 he1 hne, rfl, hm.ext, News.nil _ _⟩) | exact (fun m hm => ⟨(false, e2), AcrP.bad2 he1 he2 hne, rfl, hm.ext, News.nil _ _⟩) | exact (fun m hm => ⟨(false, 11), AcrP.out he1 he2 (by omega), rfl, hm.ext, News.nil _ _⟩) | exact (fun m hm => ⟨(z, 0), AcrP.good he1 he2 hp hq hz, rfl, hm.ext, News.nil _ _⟩))
 try simp only [nz] at hs_27
 refine .P2 ?_
 refine .G (ln22 ..) ?_
 refine .P3 ?_
 refine .splitB 33 rfl (fun hs_33 => ?_) (fun hs_33 => ?_)
 ·try simp only [nz] at hs_33
  iterate 2 refine .O ?_
  refine .P2 ?_
  iterate 4 refine .O ?_
  refine .P ?_
  refine .nil (.seq (.cond_true rfl (.seq (.region (.P2 ?_)))))
  refine .nil (.seq (.ret (.seq ?_)))
  exact .end_ rfl rfl (by first | exact (fun m hm => ⟨(false, e1), AcrP.bad1 he1 hne, rfl, hm.ext, News.nil _ _⟩) | exact (fun m hm => ⟨(false, e2), AcrP.bad2 he1 he2 hne, rfl, hm.ext, News.nil _ _⟩) | exact (fun m hm => ⟨(false, 11), AcrP.out he1 he2 (by omega), rfl, hm.ext, News.nil _ _⟩) | exact (fun m hm => ⟨(z, 0), AcrP.good he1 he2 hp hq hz, rfl, hm.ext, News.nil _ _⟩))
 try simp only [nz] at hs_33
 iterate 4 refine .P ?_
 refine .splitB 37 rfl (fun hs_37 => ?_) (fun hs_37 => ?_)
 ·try simp only [nz] at hs_37
  iterate 4 refine .O ?_
  refine .P ?_
  refine .nil (.seq (.cond_true rfl (.seq (.region (.P2 ?_)))))
  refine .nil (.seq (.ret (.seq ?_)))
  exact .end_ rfl rfl (by first | exact (fun m hm => ⟨(false, e1), AcrP.bad1 he1 hne, rfl, hm.ext, News.nil _ _⟩) | exact (fun m hm => ⟨(false, e2), AcrP.bad2 he1 he2 hne, rfl, hm.ext, News.nil _ _⟩) | exact (fun m hm => ⟨(false, 11), AcrP.out he1 he2 (by omega), rfl, hm.ext, News.nil _ _⟩) | exact (fun m hm => ⟨(z, 0), AcrP.good he1 he2 hp hq hz, rfl, hm.ext, News.nil _ _⟩))
 try simp only [nz] at hs_37
 refine .P2 ?_
 refine .G (ln22 ..) ?_
 refine .P2 ?_
 refine .nil (.seq (.cond rfl (fun ht42 => ?_) fun ht42 => ?_))
 ·try simp only [nz] at ht42
  refine .seq (.region (.P2 ?_))
  refine .nil (.seq (.ret (.seq ?_)))
  exact .end_ rfl rfl (by first | exact (fun m hm => ⟨(false, e1), AcrP.bad1 he1 hne, rfl, hm.ext, News.nil _ _⟩) | exact (fun m hm => ⟨(false, e2), AcrP.bad2 he1 he2 hne, rfl, hm.ext, News.nil _ _⟩) | exact (fun m hm => ⟨(false, 11), AcrP.out he1 he2 (by omega), rfl, hm.ext, News.nil _ _⟩) | exact (fun m hm => ⟨(z, 0), AcrP.good he1 he2 hp hq hz, rfl, hm.ext, News.nil _ _⟩))
 try simp only [nz] at ht42
 obtain ⟨p, rfl⟩ := Int.eq_ofNat_of_zero_le (show 0 ≤ t by omega)
 obtain ⟨q, rfl⟩ := Int.eq_ofNat_of_zero_le (show 0 ≤ u by omega)
 have hp : p < l.length := by omega
 have hq : q < l2.length := by omega
 have h1w := he1.fine.well
 have h2w := he2.fine.well
 refine .skip (.seq (.seq (.region ?_)))
 refine .buildSlice rfl rfl rfl rfl rfl (bs22_0) (fun b43 hb43 => ?_)
 refine .P ?_
 refine .appendSl (R := RTy (Mem m)) (l0 := []) (l := l) (L := l) (g := .emp b43) (cs := []) rfl .one Flat.nil rfl (hlA) ((Mem.sees rfl rfl)) RTy.flats (by simp; omega) rfl rfl rfl rfl underlying22 underlying22 ap50 rfl rfl (fun g1 cs1 hF1 hO1 => ?_)
 refine .P ?_
 refine .nil (.seq (.seq (.seq (.region (.P ?_)))))
 refine .G (ln22 ..) ?_
 refine .P ?_
 refine .nil (.seq (.block ?_))
 refine .loop (α := Nat × Gro × List Value × List Ty × Hp) (fun q_ => [(0, .slice aA l.length cA), (1, .int .i64 (Int.ofNat p)), (2, .slice aB l2.length cB), (3, .int .i64 (Int.ofNat q)), (12, q_.2.1.V q_.2.2.2.1.length), (46, .slice aB l2.length cB), (47, .int .i64 (Int.ofNat (l2.length))), (48, .int .i64 (Int.ofNat (q_.1)))]) (fun q_ => q_.2.1.H 50 q_.2.2.1 ++ q_.2.2.2.2) (fun q_ => q_.1 ≤ l2.length ∧ q_.2.2.2.1 = l ++ (l2.take q_.1).map (mvT l.length) ∧ Flat 5 (RTy (KJ q_.2.2.2.2 (Mem m))) q_.2.2.2.1 q_.2.2.1 ∧ q_.2.1.Ok q_.2.2.2.1.length) (fun q_ => l2.length - q_.1) (0, g1, cs1, l, []) ⟨Nat.zero_le _, by simp, flat_mono hF1 (RTy.mono fun b o h => .inr h), hO1⟩ ⟨rfl, rfl, rfl, rfl, rfl, rfl, rfl, rfl, trivial⟩ (.refl _) (fun q_ hq0 => ?_)
 obtain ⟨i, g_, cs_, out, F⟩ := q_
 obtain ⟨hi, hout, hF, hO⟩ := hq0
 simp only at hi hout hF hO
 have hlo : out.length = l.length + i := by rw [hout, List.length_append, List.length_map, List.length_take]; omega
 refine .seq (.region (.P ?_))
 refine .nil (.seq (.seq (.cond rfl (fun ht49 => ?_) fun ht49 => ?_)))
 ·try simp only [nz] at ht49
  have hlt : i < l2.length := by omega
  obtain ⟨a, ha⟩ := gx hlt
  obtain ⟨b, off, cs, el, g, md, mate, rfl, ⟨hb, hh⟩, hle, hc⟩ := so hl hlt
  have hr := hc i a ha
  obtain ⟨ve, vf, va_, hr, he, hf, hga⟩ := hr
  have heS := he
  have hfS := hf
  obtain ⟨ae, ce, rfl, hne, he⟩ := he
  obtain ⟨af, cf, rfl, hnf, hf⟩ := hf
  obtain ⟨aa, ca, rfl, hna, hga⟩ := hga
  have hw := hwl2 i a ha
  have hbd := h2w.sound i a ha
  have k1 := hw.elems
  have k2 := hw.fields
  have k3 := hw.arms
  have hraS : RTy (Mem m) a [.int .i64 a.kind, .slice ae a.elems.length ce, .string a.name, .slice af a.fields.length cf, .slice aa a.arms.length ca] := ⟨_, _, _, rfl, heS, hfS, ⟨aa, ca, rfl, hna, hga⟩⟩
  refine .skip (.seq (.seq (.block (.seq (.region (.K underlying22 sz50 ?_))))))
  refine .A ag50 sz50 (.base hh hb (by simp)) hr ?_
  refine .alloc rfl rfl rfl rfl zr50 (fun b14 hb14 => ?_)
  refine .S sz50 ?_
  refine .nil (.seq (.region (.P ?_)))
  refine .E ag50 sz50 ?_
  refine .P ?_
  refine .G (ln22 ..) ?_
  refine .calln _ _ _ rfl rfl rfl rfl rfl rfl (fun m hm => mvd_ok (n := l.length) hm.lole (RTy.mono (Mem.kr hm) _ _ hraS) hw hbd (by omega) (by omega)) (fun z hz => ?_)
  obtain ⟨zh, zcs⟩ := z
  simp only at hz
  have hzS := hz
  obtain ⟨ve2, vf2, va2, rfl, ⟨aze, cze, rfl, -⟩, ⟨azf, czf, rfl, -⟩, ⟨aza, cza, rfl, -⟩⟩ := hz
  refine .buildSlice rfl rfl rfl rfl rfl (bs22_1 ..) (fun b57 hb57 => ?_)
  refine .appendSl (R := RTy (KJ (zh ++ F) (Mem m))) (l0 := out) (l := [mvT l.length a]) (L := (out ++ [mvT l.length a])) (g := g_) (cs := cs_) rfl (.tail (.over (.tail .here))) (flat_mono hF (RTy.mono (KJ.mono inB))) hO (Sl.single (R := RTy (KJ (zh ++ F) (Mem m))) (x := mvT l.length a) (b := b57) (c := 1) (el := 50) (g := false) (md := .plain) (mate := none) (RTy.mono (fun b o h => .inl (inA b o h)) _ _ hzS) rfl) ((InH.sees (by intro p_ hp_; rw [List.mem_singleton.1 hp_]; exact List.mem_cons_self))) RTy.flats (by simp; omega) rfl rfl rfl rfl underlying22 underlying22 ap50 rfl rfl (fun g6 cs6 hF6 hO6 => ?_)
  refine .P ?_
  refine .nil (.blk (.seq (.region (.P ?_))))
  refine .W 59 i ?_
  refine .P ?_
  refine .nil ?_
  exact .loop (i + 1, g6, cs6, out ++ [mvT l.length a], zh ++ F) ⟨by omega, by rw [hout, map_take_succ ha, List.append_assoc], hF6, hO6⟩ (by show l2.length - (i + 1) < l2.length - i; omega) ⟨rfl, rfl, rfl, rfl, rfl, rfl, rfl, rfl, trivial⟩ (List.Sublist.append_left (.cons _ (List.Sublist.append_left (.cons _ (.refl _)) _)) _)
 try simp only [nz] at ht49
 have hie : i = l2.length := by omega
 subst hie
 rw [List.take_length] at hout
 subst hout
 refine .exit (.seq (.loop (.here (.seq (.seq (.region ?_))))))
 iterate 4 refine .P ?_
 refine .G (ln22 ..) ?_
 refine .P ?_
 refine .as 65 (.int .i64 (Int.ofNat (q + l.length))) rfl (congrArg (Value.int .i64) (mv_wr (n := l.length) (q := q) rfl (by omega))) ?_
 refine .calln _ _ _ rfl rfl rfl rfl rfl rfl (fun m hm => equal_ok (l := joinL l l2) (b_ := q + l.length) hm.lole ((join_fin (L := joinL l l2) hF hO (by rw [joinL_len]; omega)).mono (fun b o h => h.elim (fun h => InH.kr hm (fun p_ hp_ => hp_) b o h) (Mem.kr hm b o)) (RTy.mono (fun b o h => h.elim (fun h => InH.kr hm (fun p_ hp_ => hp_) b o h) (Mem.kr hm b o)))) (h1w.join h2w) (by rw [joinL_len]; omega) (by rw [joinL_len]; omega)) (fun z hz => ?_)
 refine .P2 ?_
 refine .nil (.seq (.ret ?_))
 exact .end_ rfl rfl (by first | exact (fun m hm => ⟨(false, e1), AcrP.bad1 he1 hne, rfl, hm.ext, News.nil _ _⟩) | exact (fun m hm => ⟨(false, e2), AcrP.bad2 he1 he2 hne, rfl, hm.ext, News.nil _ _⟩) | exact (fun m hm => ⟨(false, 11), AcrP.out he1 he2 (by omega), rfl, hm.ext, News.nil _ _⟩) | exact (fun m hm => ⟨(z, 0), AcrP.good he1 he2 hp hq hz, rfl, hm.ext, News.nil _ _⟩))

/-! A table among others, its indices moved. -/
theorem mvF_zero (f : Fld) : mvF 0 f = f := by
 cases f
 simp [mvF]
theorem mvA_zero (a : Arm) : mvA 0 a = a := by
 cases a
 simp only [mvA, Arm.mk.injEq, true_and]
 exact (List.map_congr_left fun f _ => mvF_zero f).trans (List.map_id _)
theorem mvT_zero (t : Ty) : mvT 0 t = t := by
 cases t
 simp only [mvT, Ty.mk.injEq, true_and]
 exact ⟨(List.map_congr_left (g := id) fun p _ => by simp).trans (List.map_id _), (List.map_congr_left fun f _ => mvF_zero f).trans (List.map_id _), (List.map_congr_left fun f _ => mvA_zero f).trans (List.map_id _)⟩
theorem mvF_two (a b : Nat) (f : Fld) : mvF a (mvF b f) = mvF (b + a) f := by
 simp only [mvF, Fld.mk.injEq, true_and, Int.ofNat_eq_natCast]
 omega
theorem mvA_two (a b : Nat) (x : Arm) : mvA a (mvA b x) = mvA (b + a) x := by
 simp only [mvA, Arm.mk.injEq, true_and, List.map_map]
 exact List.map_congr_left fun f _ => mvF_two a b f
theorem mvT_two (a b : Nat) (t : Ty) : mvT a (mvT b t) = mvT (b + a) t := by
 simp only [mvT, Ty.mk.injEq, true_and, List.map_map]
 exact ⟨List.map_congr_left fun p _ => by simp only [Function.comp_apply, Int.ofNat_eq_natCast]; omega, List.map_congr_left fun f _ => mvF_two a b f, List.map_congr_left fun f _ => mvA_two a b f⟩
theorem mvT_with (k : Nat) (t : Ty) (s : ByteArray) : withL (mvT k t) s = (withL t s).map (·.map (mvF k)) := by
 unfold withL
 split
 ·rfl
 show ((t.arms.map (mvA k)).find? _).map _ = _
 rw [List.find?_map, Option.map_map, Option.map_map]
 rw [show ((fun a : Arm => decide (a.name = s)) ∘ mvA k) = fun a : Arm => decide (a.name = s) from rfl]
 congr 1
 funext a
 show t.fields.map (mvF k) ++ a.fields.map (mvF k) = (t.fields ++ a.fields).map (mvF k)
 rw [List.map_append]
theorem parts_mem_in {n : Nat} {t : Ty} (hb : badB n t = false) {L : List Int} (hL : ∀ {p}, p ∈ L → p ∈ partsL t) (p : Int) (hp : p ∈ L) : ∃ q : Nat, p = Int.ofNat q ∧ q < n := by
 obtain ⟨j, hj⟩ := List.getElem?_of_mem (hL hp)
 exact parts_in hb hj
structure Emb (l L : List Ty) (k : Nat) : Prop where
 snd : Sound8 l
 at_ : ∀ (u : Nat) (t : Ty), l[u]? = some t → L[k + u]? = some (mvT k t)
section
variable {l L : List Ty} {k : Nat} (e : Emb l L k)
include e
theorem Emb.toE {q : Nat} {t : Ty} (h : l[q]? = some t) : L[(Int.ofNat q + Int.ofNat k).toNat]? = some (mvT k t) := by
 rw [show (Int.ofNat q + Int.ofNat k).toNat = k + q by simp only [Int.ofNat_eq_natCast]; omega]
 exact e.at_ q t h
theorem Emb.kindE {q : Nat} (h : q < l.length) : kindAt L (Int.ofNat q + Int.ofNat k) = kindAt l (Int.ofNat q) := by
 have h1 := List.getElem?_eq_getElem h
 rw [kindAt_get h1]
 unfold kindAt
 rw [e.toE h1]
 rfl
theorem Emb.valE {q : Nat} (h : q < l.length) : valAt L (Int.ofNat q + Int.ofNat k) = valAt l (Int.ofNat q) := by
 have h1 := List.getElem?_eq_getElem h
 rw [valAt_get h1]
 unfold valAt
 rw [e.toE h1]
 simp only [valueB, mvT, List.length_map]
theorem Emb.modE {t : Ty} (hb : badB l.length t = false) (i : Nat) : modF L (mvT k t) i = modF l t i := by
 unfold modF
 rw [show (mvT k t).fields = t.fields.map (mvF k) from rfl, List.getElem?_map]
 cases hx : t.fields[i]? with
 | none => rfl
 | some x =>
  obtain ⟨j, hj⟩ := List.getElem?_of_mem (parts_fldm (List.mem_of_getElem? hx))
  obtain ⟨q, h1, h2⟩ := parts_in hb hj
  show decide (kindAt L (x.type + Int.ofNat k) = 12) = _
  simp only [h1, e.kindE h2]
theorem Emb.fnE {t : Ty} (hb : badB l.length t = false) (i : Nat) : fnF L (mvT k t) i = fnF l t i := by
 unfold fnF
 rw [show (mvT k t).elems = t.elems.map (· + Int.ofNat k) from rfl, List.getElem?_map, List.length_map]
 cases hx : t.elems[i]? with
 | none => rfl
 | some x =>
  obtain ⟨j, hj⟩ := List.getElem?_of_mem (parts_elems (List.mem_of_getElem? hx))
  obtain ⟨q, rfl, h2⟩ := parts_in hb hj
  simp only [Option.map_some, e.kindE h2, e.valE h2]
theorem Emb.partE {t : Ty} (hb : badB l.length t = false) (i : Nat) : partF L (mvT k t) i = partF l t i := by
 unfold partF
 rw [mvT_parts, List.getElem?_map]
 cases hx : (partsL t)[i]? with
 | none => rfl
 | some x =>
  obtain ⟨q, rfl, h2⟩ := parts_in hb hx
  simp only [Option.map_some, e.valE h2]
theorem Emb.fitX {t : Ty} (hb : badB l.length t = false) : fitE L (mvT k t) = fitE l t := by
 unfold fitE
 rw [show (mvT k t).kind = t.kind from rfl, show (mvT k t).name = t.name from rfl, show (mvT k t).fields = t.fields.map (mvF k) from rfl, show (mvT k t).elems = t.elems.map (· + Int.ofNat k) from rfl, List.getElem?_map, List.length_map, List.length_map, mvT_parts, List.length_map,
  allN_congr fun i _ => e.modE hb i, allN_congr fun i _ => e.fnE hb i, allN_congr fun i _ => e.partE hb i]
 congr 1
 cases hx : t.elems[0]? with
 | none => rfl
 | some x =>
  obtain ⟨j, hj⟩ := List.getElem?_of_mem (parts_elems (List.mem_of_getElem? hx))
  obtain ⟨q, rfl, h2⟩ := parts_in hb hj
  have h1 := List.getElem?_eq_getElem h2
  simp only [Option.map_some, e.toE h1, show (Int.ofNat q).toNat = q from rfl, h1, mvT_with, Option.isSome_map]
  rfl
theorem Emb.edgeE {u v : Nat} (hu : u < l.length) (h : Edge L (k + u) v) : ∃ w, v = k + w ∧ Edge l u w := by
 obtain ⟨t, h1, h2, h3⟩ := h
 have h4 := List.getElem?_eq_getElem hu
 rw [e.at_ u _ h4] at h1
 cases h1
 rw [mvT_parts] at h3
 obtain ⟨p, hp, hv⟩ := List.mem_map.1 h3
 obtain ⟨j, hj⟩ := List.getElem?_of_mem hp
 obtain ⟨q, rfl, h5⟩ := parts_in (e.snd u _ h4) hj
 refine ⟨q, ?_, _, h4, h2, hp⟩
 simp only [Int.ofNat_eq_natCast] at hv
 omega
end
def SzE (n k : Nat) (sz sz' : List Int) : Prop := ∀ q, q < n → sz'[k + q]? = sz[q]?
section
variable {n k : Nat} {sz sz' : List Int} (e : SzE n k sz sz')
include e
theorem SzE.atE {q : Nat} (h : q < n) : szAt sz' (Int.ofNat q + Int.ofNat k) = szAt sz (Int.ofNat q) := by
 unfold szAt
 rw [show (Int.ofNat q + Int.ofNat k).toNat = k + q by simp only [Int.ofNat_eq_natCast]; omega, e q h]
 rfl
theorem SzE.foldE {l : List Int} (hl : ∀ p, p ∈ l → ∃ q : Nat, p = Int.ofNat q ∧ q < n) : foldS sz' (l.map (· + Int.ofNat k)) = foldS sz l := by
 unfold foldS
 rw [List.foldl_map]
 have key : ∀ (l : List Int) (s : Int), (∀ p, p ∈ l → ∃ q : Nat, p = Int.ofNat q ∧ q < n) → l.foldl (fun n p => cap257 (n + szAt sz' (p + Int.ofNat k))) s = l.foldl (fun n p => cap257 (n + szAt sz p)) s := by
  intro l
  induction l with
  | nil => exact fun _ _ => rfl
  | cons f l ih =>
   intro s h
   obtain ⟨q, rfl, hq⟩ := h f List.mem_cons_self
   rw [List.foldl_cons, List.foldl_cons, e.atE hq]
   exact ih _ fun p hp => h p (List.mem_cons_of_mem _ hp)
 exact key l 0 hl
theorem SzE.sumE {L : List Fld} (hl : ∀ x, x ∈ L → ∃ q : Nat, x.type = Int.ofNat q ∧ q < n) : sumF sz' (L.map (mvF k)) = sumF sz L := by
 rw [sumF_foldS, sumF_foldS, mvF_types, e.foldE]
 intro p hp
 obtain ⟨x, hx, rfl⟩ := List.mem_map.1 hp
 exact hl x hx
theorem SzE.stepE {t : Ty} (hb : badB n t = false) : szStep sz' (mvT k t) = szStep sz t := by
 unfold szStep
 rw [show (mvT k t).kind = t.kind from rfl, show (mvT k t).fields = t.fields.map (mvF k) from rfl, show (mvT k t).elems = t.elems.map (· + Int.ofNat k) from rfl, show (mvT k t).arms = t.arms.map (mvA k) from rfl, List.length_map, e.foldE (parts_mem_in hb parts_elems), e.sumE fun x hx => parts_mem_in hb (fun h => h) x.type (parts_fldm hx)]
end
/-! A table with a moved copy of itself. -/
theorem Emb.leftE {l l2 : List Ty} (hb : Sound8 l) : Emb l (joinL l l2) 0 := ⟨hb, fun u t h => by
 rw [mvT_zero, Nat.zero_add, joinL_left (List.getElem?_eq_some_iff.1 h).1]
 exact h⟩
theorem Emb.rightE {l l2 : List Ty} (hb : Sound8 l2) : Emb l2 (joinL l l2) l.length := ⟨hb, fun u t h => by
 rw [joinL_right, h]
 rfl⟩
theorem joinL_emb {l l2 : List Ty} (hb : Sound8 l) (hb2 : Sound8 l2) {i : Nat} {x : Ty} (h : (joinL l l2)[i]? = some x) : (∃ j, j < l.length ∧ i = 0 + j ∧ ∃ y, l[j]? = some y ∧ x = mvT 0 y) ∨ ∃ j, j < l2.length ∧ i = l.length + j ∧ ∃ y, l2[j]? = some y ∧ x = mvT l.length y := by
 rcases joinL_cases h with ⟨h1, h2⟩ | ⟨j, y, rfl, h2, rfl⟩
 ·exact .inl ⟨i, h1, (Nat.zero_add i).symm, x, h2, (mvT_zero x).symm⟩
 exact .inr ⟨j, (List.getElem?_eq_some_iff.1 h2).1, rfl, y, h2, rfl⟩
theorem SzE.armLE {n k : Nat} {sz sz' : List Int} (e : SzE n k sz sz') {t : Ty} (hb : badB n t = false) (a : Arm) : armL sz' (mvT k t) (mvA k a) = armL sz t a := by
 unfold Proofs.YtmfbljaemhpokaaGreatDoor.armL
 rw [mvT_with, show (mvA k a).name = a.name from rfl]
 cases h : withL t a.name with
 | none => rfl
 | some L =>
  simp only [Option.map_some]
  rw [e.sumE fun x hx => parts_mem_in hb (fun h => h) x.type (withL_parts h hx)]
theorem SzE.largeE {n k : Nat} {sz sz' : List Int} (e : SzE n k sz sz') {t : Ty} (hb : badB n t = false) (s : Int) : largeB sz' s (mvT k t) = largeB sz s t := by
 unfold largeB
 rw [show (mvT k t).arms = t.arms.map (mvA k) from rfl, List.any_map]
 congr 1
 exact List.any_congr rfl fun a => e.armLE hb a
theorem SzE.at2E {n k : Nat} {sz sz' : List Int} (e : SzE n k sz sz') {q : Nat} (h : q < n) : szAt sz' (Int.ofNat (k + q)) = szAt sz (Int.ofNat q) := by
 unfold szAt
 rw [show (Int.ofNat (k + q)).toNat = k + q from rfl, e q h]
 rfl
theorem allN_all {f : Nat → Bool} : ∀ {n : Nat}, allN f n = true → ∀ i, i < n → f i = true
 | 0, _, i, h => absurd h (Nat.not_lt_zero _)
 | n + 1, h, i, hi => by
  rw [allN_succ, Bool.and_eq_true] at h
  by_cases e : i = n
  ·rw [e]
   exact h.2
  exact allN_all h.1 i (by omega)
theorem allN_of {f : Nat → Bool} : ∀ {n : Nat}, (∀ i, i < n → f i = true) → allN f n = true
 | 0, _ => rfl
 | n + 1, h => by rw [allN_succ, allN_of fun i hi => h i (by omega), h n (by omega)]; rfl
theorem RI.mvE {R : Nat → Nat → Prop} {n k : Nat} {t : Ty} (hR : ∀ q, q < n → R q (q + k)) (hb : badB n t = false) {p : Int} (hp : p ∈ partsL t) : RI R p (p + Int.ofNat k) := by
 obtain ⟨q, rfl, hq⟩ := parts_mem_in hb (fun h => h) p hp
 exact ⟨q, q + k, rfl, rfl, hR q hq⟩
theorem FldsR.mvE {R : Nat → Nat → Prop} {n k : Nat} {t : Ty} (hR : ∀ q, q < n → R q (q + k)) (hb : badB n t = false) {L : List Fld} (hL : ∀ x, x ∈ L → x.type ∈ partsL t) : FldsR R L (L.map (mvF k)) := ⟨(List.length_map _).symm, fun i f g hf hg => by
 rw [List.getElem?_map, hf] at hg
 cases hg
 exact ⟨rfl, RI.mvE hR hb (hL f (List.mem_of_getElem? hf))⟩⟩
theorem TyR.mvE {R : Nat → Nat → Prop} {n k : Nat} {t : Ty} (hR : ∀ q, q < n → R q (q + k)) (hb : badB n t = false) : TyR R t (mvT k t) where
 head := ⟨rfl, (List.length_map _).symm, (List.length_map _).symm, fun _ => rfl⟩
 els := ⟨(List.length_map _).symm, fun i p q hp hq => by
  rw [show (mvT k t).elems = t.elems.map (· + Int.ofNat k) from rfl, List.getElem?_map, hp] at hq
  cases hq
  exact RI.mvE hR hb (parts_elems (List.mem_of_getElem? hp))⟩
 flds := by
  split
  ·exact ⟨(List.length_map _).symm, fun f hf => ⟨mvF k f, List.mem_map.2 ⟨f, hf, rfl⟩, rfl, RI.mvE hR hb (parts_fldm hf)⟩⟩
  exact FldsR.mvE hR hb fun x hx => parts_fldm hx
 arms := ⟨(List.length_map _).symm, fun i f g hf hg => by
  rw [show (mvT k t).arms = t.arms.map (mvA k) from rfl, List.getElem?_map, hf] at hg
  cases hg
  exact ⟨rfl, FldsR.mvE hR hb fun x hx => parts_armf (List.mem_of_getElem? hf) hx⟩⟩
section
variable {l : List Ty} (h : ChkP l 0)
include h
theorem ChkP.bigE : ∃ r sz, Ranked l r ∧ SzFix l sz ∧ allN (bigAt sz l) l.length = true := by
 rcases h with ⟨h1, h2⟩ | ⟨_, h1, h2⟩ | ⟨h1, h2, hb, h3⟩
 ·exact absurd h2.symm h1
 ·exact absurd h2.symm h1
 rcases h3 with ⟨_, h3⟩ | ⟨r, sz, hr, hz, h4⟩
 ·cases h3
 refine ⟨r, sz, hr, hz, ?_⟩
 split at h4
 ·assumption
 cases h4
theorem ChkP.twiceE : ∃ r sz, Ranked (joinL l l) r ∧ SzFix l sz ∧ SzFix (joinL l l) (sz ++ sz) ∧ ChkP (joinL l l) 0 := by
 have hF := h.fine
 have hW := hF.well
 have hb := hW.sound
 have hWJ := hW.join hW
 have e0 := Emb.leftE (l2 := l) hb
 have e1 := Emb.rightE (l := l) hb
 obtain ⟨r, sz, hr, hz, hbig⟩ := h.bigE
 have z0 : SzE l.length 0 sz (sz ++ sz) := fun q hq => by
  rw [Nat.zero_add]
  exact List.getElem?_append_left (by rw [hz.len]; exact hq)
 have z1 : SzE l.length l.length sz (sz ++ sz) := fun q hq => by
  rw [List.getElem?_append_right (by rw [hz.len]; omega), hz.len, Nat.add_sub_cancel_left]
 have hrJ : Ranked (joinL l l) (fun u => if u < l.length then r u else r (u - l.length)) := fun u v ed => by
  have hu : u < (joinL l l).length := by
   obtain ⟨t, ht, _⟩ := ed
   exact (List.getElem?_eq_some_iff.1 ht).1
  rw [joinL_len] at hu
  by_cases hul : u < l.length
  ·obtain ⟨w, rfl, ew⟩ := e0.edgeE hul (by rw [Nat.zero_add]; exact ed)
   have hw := ew.lt2 hb
   simp only [Nat.zero_add, if_pos hul, if_pos hw]
   exact hr _ _ ew
  obtain ⟨u', rfl⟩ : ∃ u', u = l.length + u' := ⟨u - l.length, by omega⟩
  obtain ⟨w, rfl, ew⟩ := e1.edgeE (by omega) ed
  simp only [if_neg hul, if_neg (show ¬ l.length + w < l.length by omega), Nat.add_sub_cancel_left]
  exact hr _ _ ew
 have hzJ : SzFix (joinL l l) (sz ++ sz) := ⟨by rw [joinL_len, List.length_append, hz.len], fun u t ht => by
  rcases joinL_emb hb hb ht with ⟨j, hj, rfl, y, hy, rfl⟩ | ⟨j, hj, rfl, y, hy, rfl⟩
  ·rw [z0 j hj, z0.stepE (hb j y hy)]
   exact hz.fix_ j y hy
  ·rw [z1 j hj, z1.stepE (hb j y hy)]
   exact hz.fix_ j y hy, fun j s hs => by
  obtain ⟨i, hi⟩ := List.getElem?_of_mem ((List.mem_append.1 (List.mem_of_getElem? hs)).elim id id)
  exact hz.ok i s hi⟩
 refine ⟨_, sz, hrJ, hz, hzJ, .inr (.inr ⟨hWJ.first, first_none fun j y _ hy => ?_, hWJ.sound, .inr ⟨_, _, hrJ, hzJ, ?_⟩⟩)⟩
 ·rcases joinL_emb hb hb hy with ⟨i, hi, rfl, x, hx, rfl⟩ | ⟨i, hi, rfl, x, hx, rfl⟩
  ·rw [e0.fitX (hb i x hx)]
   exact hF.fit i x hx
  rw [e1.fitX (hb i x hx)]
  exact hF.fit i x hx
 have hall : ∀ i, i < (joinL l l).length → bigAt (sz ++ sz) (joinL l l) i = true := fun i hi => by
  have hy := List.getElem?_eq_getElem hi
  rcases joinL_emb hb hb hy with ⟨j, hj, rfl, x, hx, hx2⟩ | ⟨j, hj, rfl, x, hx, hx2⟩
  ·rw [hx2] at hy
   rw [bigAt_get hy, z0.largeE (hb j x hx), z0.at2E hj, ← bigAt_get hx]
   exact allN_all hbig j hj
  rw [hx2] at hy
  rw [bigAt_get hy, z1.largeE (hb j x hx), z1.at2E hj, ← bigAt_get hx]
  exact allN_all hbig j hj
 rw [if_pos (allN_of hall)]
theorem EqT.copy {i : Nat} (hi : i < l.length) : EqT (joinL l l) i (i + l.length) := ⟨fun a b => a < l.length ∧ b = a + l.length, fun a b ⟨ha, e⟩ => .inr (by
 subst e
 have hb := h.fine.well.sound
 have h1 := List.getElem?_eq_getElem ha
 exact ⟨_, _, (joinL_left ha).trans h1, by rw [Nat.add_comm]; exact (Emb.rightE hb).at_ a _ h1, TyR.mvE (fun q hq => ⟨hq, rfl⟩) (hb a _ h1)⟩), hi, rfl⟩
theorem EqT.copy2 {i : Nat} (hi : i < l.length) : EqT (joinL l (joinL l l)) i (i + l.length + l.length) := ⟨fun a b => a < l.length ∧ b = a + (l.length + l.length), fun a b ⟨ha, e⟩ => .inr (by
 subst e
 have hW := h.fine.well
 have hb := hW.sound
 have h1 := List.getElem?_eq_getElem ha
 have h2 := (Emb.rightE (l := l) (hW.join hW).sound).at_ (l.length + a) _ ((Emb.rightE (l := l) hb).at_ a _ h1)
 rw [mvT_two] at h2
 exact ⟨_, _, (joinL_left ha).trans h1, by rw [show a + (l.length + l.length) = l.length + (l.length + a) by omega]; exact h2, TyR.mvE (fun q hq => ⟨hq, rfl⟩) (hb a _ h1)⟩), hi, by omega⟩
end
theorem AskP.oneE {l : List Ty} {p : Nat} (h : ChkP l 0) (hp : p < l.length) : AskP l [Int.ofNat p] 0 := AskP.ok h fun j t hj ht => by
 obtain ⟨rfl⟩ : j = 0 := by simpa using hj
 cases ht
 exact ⟨Int.natCast_nonneg _, Int.ofNat_lt.2 hp⟩
theorem AskP.twoE {l : List Ty} {p q : Nat} (h : ChkP l 0) (hp : p < l.length) (hq : q < l.length) : AskP l [Int.ofNat p, Int.ofNat q] 0 := AskP.ok h fun j t hj ht => by
 have hj : j < 2 := hj
 obtain rfl | rfl : j = 0 ∨ j = 1 := by omega
 ·cases ht
  exact ⟨Int.natCast_nonneg _, Int.ofNat_lt.2 hp⟩
 cases ht
 exact ⟨Int.natCast_nonneg _, Int.ofNat_lt.2 hq⟩
theorem ChkP.copiesE {l : List Ty} (h : ChkP l 0) {i : Nat} (hi : i < l.length) {x1 x2 : Bool × Int} {x3 x4 : Int × Int} (h1 : TwoP (EqT (joinL l l)) (joinL l l) (Int.ofNat i) (Int.ofNat (i + l.length)) x1) (h2 : AcrP l (joinL l l) (Int.ofNat i) (Int.ofNat (i + l.length)) x2) (h3 : SizeP l (Int.ofNat i) x3) (h4 : SizeP (joinL l l) (Int.ofNat (i + l.length)) x4) : x1 = (true, 0) ∧ x2 = (true, 0) ∧ x3.2 = 0 ∧ x4.2 = 0 ∧ x3.1 = x4.1 := by
 obtain ⟨r, sz, hr, hz, hzJ, hJ⟩ := h.twiceE
 obtain ⟨r0, sz0, hr0, hz0, _⟩ := h.bigE
 have hb := h.fine.well.sound
 have hi1 : i < (joinL l l).length := by rw [joinL_len]; omega
 have hi2 : i + l.length < (joinL l l).length := by rw [joinL_len]; omega
 have a1 := AskP.twoE hJ hi1 hi2
 have e1 := h1.is a1 (z := true) ⟨fun _ => EqT.copy h hi, fun _ => rfl⟩
 obtain ⟨e2, e3⟩ := h2.at4 h hJ hi hi2
 obtain ⟨e4, e5⟩ := h3.good hb (AskP.oneE h hi) hr0 hz
 obtain ⟨e6, e7⟩ := h4.good hJ.fine.well.sound (AskP.oneE hJ hi2) hr hzJ
 have z1 : SzE l.length l.length sz (sz ++ sz) := fun q hq => by
  rw [List.getElem?_append_right (by rw [hz.len]; omega), hz.len, Nat.add_sub_cancel_left]
 exact ⟨Prod.ext e1 (h1.err a1), Prod.ext (e3.2 (EqT.copy2 h hi)) e2, e4, e6, by rw [e5, e7, Nat.add_comm, z1.at2E hi]⟩
theorem copies_ok {l : List Ty} {vl : Value} {m : AW} (hm : m.lo ≤ m.next) (hlS : Sl (Mem m) 5 (RTy (Mem m)) l vl) : Fc prog 10 [vl] m fun v m' => v = .bool true ∧ Ext m m' := by
 have hlA := hlS
 obtain ⟨aA, cA, rfl, hnA, -⟩ := hlS
 refine Fc.body (c := _) func10 rfl rfl rfl rfl hm ?_
 refine .seq (.region (.P ?_))
 refine .nil (.seq (.seq (.seq (.region ?_))))
 refine .call _ rfl rfl rfl rfl rfl rfl (fun m hm => awake_ok) ?_
 refine .P3 ?_
 refine .G (ln22 ..) ?_
 refine .P3 ?_
 refine .splitB 20 rfl (fun hs_20 => ?_) (fun hs_20 => ?_)
 ·try simp only [nz] at hs_20
  iterate 3 refine .O ?_
  refine .P2 ?_
  iterate 4 refine .O ?_
  refine .P ?_
  refine .nil (.seq (.cond_true rfl (.seq (.region ?_))))
  refine .call _ rfl rfl rfl rfl rfl rfl (fun m hm => awake_ok) ?_
  refine .P ?_
  refine .nil (.seq (.ret (.seq ?_)))
  exact .end_ rfl rfl (fun m hm => ⟨rfl, hm.ext⟩)
 try simp only [nz] at hs_20
 have h7 : l.length ≤ 7 := by omega
 refine .P ?_
 refine .call _ rfl rfl rfl rfl rfl rfl (fun m hm => few_ok hm.lole (hlA.mono (Mem.kr hm) (RTy.mono (Mem.kr hm)))) ?_
 refine .P3 ?_
 refine .splitB 25 rfl (fun hs_25 => ?_) (fun hs_25 => ?_)
 ·try simp only [nz] at hs_25
  iterate 4 refine .O ?_
  refine .P ?_
  refine .nil (.seq (.cond_true rfl (.seq (.region ?_))))
  refine .call _ rfl rfl rfl rfl rfl rfl (fun m hm => awake_ok) ?_
  refine .P ?_
  refine .nil (.seq (.ret (.seq ?_)))
  exact .end_ rfl rfl (fun m hm => ⟨rfl, hm.ext⟩)
 try simp only [nz] at hs_25
 obtain ⟨hn14, hwl⟩ := few_all hs_25
 refine .P ?_
 refine .calln _ _ _ rfl rfl rfl rfl rfl rfl (fun m hm => own_ok hm.lole (hlA.mono (Mem.kr hm) (RTy.mono (Mem.kr hm))) hwl hn14) (fun zo hzo => ?_)
 refine .calln _ _ _ rfl rfl rfl rfl rfl rfl (fun m hm => check_ok hm.lole (hzo.mono (InH.kr hm fun p_ hp_ => (List.mem_append_left _ hp_)) fun x_ cs_ h_ => RTy.mono (InH.kr hm fun p_ hp_ => (List.mem_append_left _ hp_)) x_ cs_ h_.1) hwl hn14) (fun e0 he0 => ?_)
 refine .P2 ?_
 refine .nil (.seq (.cond rfl (fun ht30 => ?_) fun ht30 => ?_))
 ·try simp only [nz] at ht30
  refine .seq (.region ?_)
  refine .call _ rfl rfl rfl rfl rfl rfl (fun m hm => awake_ok) ?_
  refine .P ?_
  refine .nil (.seq (.ret (.seq ?_)))
  exact .end_ rfl rfl (fun m hm => ⟨rfl, hm.ext⟩)
 try simp only [nz] at ht30
 have he00 : e0 = 0 := by omega
 subst he00
 have hJ0 : ChkP (joinL l l) 0 := by obtain ⟨_, _, _, _, _, h⟩ := he0.twiceE; exact h
 have hwJ := few_join hwl hwl
 have hJ14 : (joinL l l).length ≤ 14 := by rw [joinL_len]; omega
 refine .skip (.seq (.seq (.region (.P2 ?_))))
 refine .calln _ _ _ rfl rfl rfl rfl rfl rfl (fun m hm => rJoined_ok hm.lole (Mem.kr hm) hlA hlA hwl (fun i a ha => he0.fine.well.sound i a ha) (by omega) (by omega)) (fun z hz => ?_)
 obtain ⟨zh, zv⟩ := z
 simp only at hz
 refine .drop (h' := zh) (List.sublist_append_left _ _) ?_
 refine .P ?_
 refine .nil (.seq (.seq (.seq (.region (.P ?_)))))
 refine .calln _ _ _ rfl rfl rfl rfl rfl rfl (fun m hm => own_ok hm.lole (hz.mono (fun b o h => h.elim (fun h => InH.kr hm (fun p_ hp_ => hp_) b o h) (Mem.kr hm b o)) (RTy.mono (fun b o h => h.elim (fun h => InH.kr hm (fun p_ hp_ => hp_) b o h) (Mem.kr hm b o)))) hwJ hJ14) (fun zp hzp => ?_)
 refine .calln _ _ _ rfl rfl rfl rfl rfl rfl (fun m hm => check_ok hm.lole (hzp.mono (InH.kr hm fun p_ hp_ => (List.mem_append_left _ hp_)) fun x_ cs_ h_ => RTy.mono (InH.kr hm fun p_ hp_ => (List.mem_append_left _ hp_)) x_ cs_ h_.1) hwJ hJ14) (fun e1 he1 => ?_)
 refine .P ?_
 refine .nil (.seq (.cond rfl (fun ht38 => ?_) fun ht38 => ?_))
 ·try simp only [nz] at ht38
  have := he1.uniq hJ0; omega
 try simp only [nz] at ht38
 refine .skip (.seq (.seq (.seq (.region (.P ?_)))))
 refine .nil (.seq (.block ?_))
 refine .loop (α := Nat) (fun i => [(0, .slice aA l.length cA), (3, zv), (4, .int .i64 (Int.ofNat (i)))]) (fun i => zh) (fun i => i ≤ l.length) (fun i => l.length - i) 0 (Nat.zero_le _) ⟨rfl, rfl, rfl, trivial⟩ (List.sublist_append_right _ _) (fun i hi => ?_)
 refine .seq (.seq (.region (.P2 ?_)))
 refine .G (ln22 ..) ?_
 refine .P ?_
 refine .nil (.seq (.cond rfl (fun ht42 => ?_) fun ht42 => ?_))
 ·try simp only [nz] at ht42
  refine .skip (.seq (.seq (.block (.seq (.region (.P ?_))))))
  refine .calln _ _ _ rfl rfl rfl rfl rfl rfl (fun m hm => own_ok hm.lole (hz.mono (fun b o h => h.elim (fun h => InH.kr hm (fun p_ hp_ => hp_) b o h) (Mem.kr hm b o)) (RTy.mono (fun b o h => h.elim (fun h => InH.kr hm (fun p_ hp_ => hp_) b o h) (Mem.kr hm b o)))) hwJ hJ14) (fun z1 hz1 => ?_)
  refine .P3 ?_
  refine .G (ln22 ..) ?_
  refine .P ?_
  refine .as 52 (.int .i64 (Int.ofNat (i + l.length))) rfl (congrArg (Value.int .i64) (mv_wr (n := l.length) (q := i) rfl (by omega))) ?_
  refine .calln _ _ _ rfl rfl rfl rfl rfl rfl (fun m hm => Equal_ok (t := Int.ofNat i) (u := Int.ofNat (i + l.length)) hm.lole (hz1.mono (InH.kr hm fun p_ hp_ => (List.mem_append_left _ hp_)) fun x_ cs_ h_ => RTy.mono (InH.kr hm fun p_ hp_ => (List.mem_append_left _ hp_)) x_ cs_ h_.1) hwJ hJ14) (fun x1 hx1 => ?_)
  refine .drop (h' := zh) (List.sublist_append_right _ _) ?_
  iterate 5 refine .P ?_
  refine .nil (.seq (.seq (.region (.P ?_))))
  refine .calln _ _ _ rfl rfl rfl rfl rfl rfl (fun m hm => own_ok hm.lole (hlA.mono (Mem.kr hm) (RTy.mono (Mem.kr hm))) hwl hn14) (fun z2 hz2 => ?_)
  refine .P2 ?_
  refine .calln _ _ _ rfl rfl rfl rfl rfl rfl (fun m hm => own_ok hm.lole (hz.mono (fun b o h => h.elim (fun h => InH.kr hm (fun p_ hp_ => (List.mem_append_right _ hp_)) b o h) (Mem.kr hm b o)) (RTy.mono (fun b o h => h.elim (fun h => InH.kr hm (fun p_ hp_ => (List.mem_append_right _ hp_)) b o h) (Mem.kr hm b o)))) hwJ hJ14) (fun z3 hz3 => ?_)
  refine .P2 ?_
  refine .G (ln22 ..) ?_
  refine .P ?_
  refine .as 65 (.int .i64 (Int.ofNat (i + l.length))) rfl (congrArg (Value.int .i64) (mv_wr (n := l.length) (q := i) rfl (by omega))) ?_
  refine .calln _ _ _ rfl rfl rfl rfl rfl rfl (fun m hm => Across_ok (t := Int.ofNat i) (u := Int.ofNat (i + l.length)) hm.lole (hz2.mono (InH.kr hm fun p_ hp_ => (List.mem_append_right _ (List.mem_append_left _ hp_))) fun x_ cs_ h_ => RTy.mono (InH.kr hm fun p_ hp_ => (List.mem_append_right _ (List.mem_append_left _ hp_))) x_ cs_ h_.1) (hz3.mono (InH.kr hm fun p_ hp_ => (List.mem_append_left _ hp_)) fun x_ cs_ h_ => RTy.mono (InH.kr hm fun p_ hp_ => (List.mem_append_left _ hp_)) x_ cs_ h_.1) hwl hwJ hn14 hJ14) (fun x2 hx2 => ?_)
  refine .drop (h' := zh) ((List.sublist_append_right _ _).trans (List.sublist_append_right _ _)) ?_
  iterate 5 refine .P ?_
  refine .nil (.seq (.seq (.region (.P ?_))))
  refine .calln _ _ _ rfl rfl rfl rfl rfl rfl (fun m hm => own_ok hm.lole (hlA.mono (Mem.kr hm) (RTy.mono (Mem.kr hm))) hwl hn14) (fun z4 hz4 => ?_)
  refine .P ?_
  refine .calln _ _ _ rfl rfl rfl rfl rfl rfl (fun m hm => Size_ok (t := Int.ofNat i) hm.lole (hz4.mono (InH.kr hm fun p_ hp_ => (List.mem_append_left _ hp_)) fun x_ cs_ h_ => RTy.mono (InH.kr hm fun p_ hp_ => (List.mem_append_left _ hp_)) x_ cs_ h_.1) hwl hn14) (fun x3 hx3 => ?_)
  refine .drop (h' := zh) (List.sublist_append_right _ _) ?_
  iterate 5 refine .P ?_
  refine .nil (.seq (.seq (.region (.P ?_))))
  refine .calln _ _ _ rfl rfl rfl rfl rfl rfl (fun m hm => own_ok hm.lole (hz.mono (fun b o h => h.elim (fun h => InH.kr hm (fun p_ hp_ => hp_) b o h) (Mem.kr hm b o)) (RTy.mono (fun b o h => h.elim (fun h => InH.kr hm (fun p_ hp_ => hp_) b o h) (Mem.kr hm b o)))) hwJ hJ14) (fun z5 hz5 => ?_)
  refine .P2 ?_
  refine .G (ln22 ..) ?_
  refine .P ?_
  refine .as 82 (.int .i64 (Int.ofNat (i + l.length))) rfl (congrArg (Value.int .i64) (mv_wr (n := l.length) (q := i) rfl (by omega))) ?_
  refine .calln _ _ _ rfl rfl rfl rfl rfl rfl (fun m hm => Size_ok (t := Int.ofNat (i + l.length)) hm.lole (hz5.mono (InH.kr hm fun p_ hp_ => (List.mem_append_left _ hp_)) fun x_ cs_ h_ => RTy.mono (InH.kr hm fun p_ hp_ => (List.mem_append_left _ hp_)) x_ cs_ h_.1) hwJ hJ14) (fun x4 hx4 => ?_)
  obtain ⟨e1_, e2_, e3_, e4_, e5_⟩ := he0.copiesE (by omega) hx1 hx2 hx3 hx4
  subst e1_
  subst e2_
  refine .drop (h' := zh) (List.sublist_append_right _ _) ?_
  iterate 5 refine .P ?_
  refine .nil (.seq (.seq (.region (.P2 ?_))))
  refine .as 87 (.bool false) rfl (congrArg Value.bool (rfl)) ?_
  refine .P3 ?_
  refine .as 90 (.bool false) rfl (congrArg Value.bool (rfl)) ?_
  iterate 5 refine .P ?_
  refine .as 95 (.bool false) rfl (congrArg Value.bool (by rw [eqI_eq, e5_]; simp)) ?_
  iterate 4 refine .P ?_
  refine .as 99 (.bool false) rfl (congrArg Value.bool (rfl)) ?_
  iterate 4 refine .P ?_
  refine .as 103 (.bool false) rfl (congrArg Value.bool (rfl)) ?_
  iterate 4 refine .P ?_
  refine .as 107 (.bool false) rfl (congrArg Value.bool (by rw [eqI_eq, e3_]; rfl)) ?_
  iterate 4 refine .P ?_
  refine .as 111 (.bool false) rfl (congrArg Value.bool (by rw [eqI_eq, e4_]; rfl)) ?_
  refine .P ?_
  refine .nil (.seq (.cond_false rfl (.skip (.blk (.seq (.region (.P2 ?_)))))))
  refine .W 44 i ?_
  refine .P ?_
  refine .nil ?_
  exact .loop (i + 1) (by omega) (by omega) ⟨rfl, rfl, rfl, trivial⟩ (.refl _)
 try simp only [nz] at ht42
 refine .exit (.seq (.loop (.here (.seq (.seq (.region (.P ?_)))))))
 refine .nil (.seq (.ret ?_))
 exact .end_ rfl rfl (fun m hm => ⟨rfl, hm.ext⟩)
end Go.Proofs.YtmfbljaemhpokaaGreatDoor
