/-
  TypesAcross: the functions that it calls, followed, 2. Conditions: none.
-/
import Derived.Test.YtmfbljaemhpokaaGreatDoorAwk
import Derived.Test.YtmfbljaemhpokaaGreatDoorGra
import Derived.Test.YtmfbljaemhpokaaGreatDoorAcross1
namespace Go.Proofs.YtmfbljaemhpokaaGreatDoor
open Go Go.Ab
set_option linter.unusedVariables false
set_option linter.unusedSimpArgs false
set_option linter.unusedSectionVars false
open Tryz

/-! The reference's comparison: the pairs that were met lie in a slice. -/
def RPr (x : Nat × Nat) (cs : List Value) : Prop := cs = [.int .i64 (Int.ofNat x.1), .int .i64 (Int.ofNat x.2)]
theorem RPr.flats : ∀ x cs, RPr x cs → flats cs = true := fun _ _ h => by rw [h]; rfl
abbrev PrSt := Gro × List Value × Prs
abbrev PrH (bp : Nat) (x : PrSt) : Hp := (bp, .cells [x.1.V x.2.2.length] 106 false .plain none) :: x.1.H 165 x.2.1
abbrev PrS (bp : Nat) (x : PrSt) : List Nat := (PrH bp x).map Prod.fst
structure MetS (n : Nat) (M : Prs) (x : PrSt) : Prop where
 flat : Flat 2 RPr x.2.2 x.2.1
 ok : x.1.Ok x.2.2.length
 mem : ∀ p, p ∈ x.2.2 ↔ p ∈ M
 few : x.2.2.length + unmet n M ≤ n * n
theorem unmet_nil (n : Nat) : unmet n [] = n * n := by
 unfold unmet
 rw [List.filter_eq_self.2 (fun _ _ => by simp), List.length_range]
theorem MetS.nil (n : Nat) : MetS n [] (.no, [], []) := ⟨Flat.nil, rfl, fun p => by simp, by rw [unmet_nil]; simp⟩
theorem MetS.put {n : Nat} {M : Prs} {g : Gro} {cs : List Value} {L : Prs} {x : PrSt} {a b : Nat} (h : MetS n M x) (ha : a < n) (hb : b < n) (hn : (a, b) ∉ M) (hL : x.2.2 ++ [(a, b)] = L) (hF : Flat 2 RPr L cs) (hO : g.Ok L.length) : MetS n ((a, b) :: M) (g, cs, L) := by
 subst hL
 refine ⟨hF, hO, fun p => ?_, ?_⟩
 ·show p ∈ x.2.2 ++ [(a, b)] ↔ _
  rw [List.mem_append, h.mem, List.mem_singleton, List.mem_cons]
  exact Or.comm
 have h1 := unmet_lt ha hb hn (M' := (a, b) :: M) (fun p hp => List.mem_cons_of_mem _ hp) List.mem_cons_self
 have h2 := h.few
 show (x.2.2 ++ [(a, b)]).length + _ ≤ _
 rw [List.length_append, List.length_singleton]
 omega
theorem MetS.small {n : Nat} {M : Prs} {x : PrSt} (h : MetS n M x) (hn : n ≤ 28) : x.2.2.length ≤ 784 := by
 have h1 := h.few
 have h2 : n * n ≤ 28 * 28 := Nat.mul_le_mul hn hn
 omega
abbrev TabR (l : List Ty) (al : Option Addr) (cl : Nat) (S : List Nat) (m : AW) : Prop := Sl (Off S m) 5 (RTy (Off S m)) l (.slice al l.length cl)
abbrev CmpR := (Bool × Prs) × PrSt
def EqQR (l : List Ty) (bp : Nat) (x : PrSt) (M : Prs) (a b : Nat) (m : AW) (v : Value) (m' : AW) : Prop := ∃ y : CmpR, (EqA l M a b y.1 ∧ MetS l.length y.1.2 y.2) ∧ v = .bool y.1.1 ∧ Knows (PrS bp x) m m' (PrH bp y.2)
def EqualR (P : Program) (l : List Ty) (al : Option Addr) (cl bp n a b : Nat) : Prop := ∀ (m : AW) (x : PrSt) (M : Prs), m.lo ≤ m.next → Knows (PrS bp x) m m (PrH bp x) → MetS l.length M x → Bnd l M → TabR l al cl (PrS bp x) m → unmet l.length M < n → Fc P 65 [ptr bp, .slice al l.length cl, .int .i64 (Int.ofNat a), .int .i64 (Int.ofNat b)] m (EqQR l bp x M a b m)
def RelQR (l : List Ty) (bp : Nat) (x : PrSt) (M : Prs) (Py : (Nat → Nat → Prop) → Prop) (m : AW) (v : Value) (m' : AW) : Prop := ∃ y : CmpR, (RelA l M Py y.1 ∧ MetS l.length y.1.2 y.2) ∧ v = .bool y.1.1 ∧ Knows (PrS bp x) m m' (PrH bp y.2)
theorem pr_perm {G : Hp} {z w : Nat × AObj} : (G ++ [z, w]).Perm (w :: (G ++ [z])) := by
 have : G ++ [z, w] = (G ++ [z]) ++ [w] := by simp
 rw [this]
 exact List.perm_append_comm
/-- The members or fields are compared last. -/
theorem EqA.last {l : List Ty} {M M1 : Prs} {a b : Nat} {x y : Ty} {P : Prop} {z : Bool × Prs} {Py : (Nat → Nat → Prop) → Prop} (hb8 : Sound8 l) (hx : l[a]? = some x) (hy : l[b]? = some y) (hh : HeadR x y) (hR : RowA l ((a, b) :: M) M1 P) (he : ElsR (InM M1) x.elems y.elems) (hA : ArmsR (InM M1) x.arms y.arms) (hz : RelA l M1 Py z) (hPy : ∀ R, Py R ↔ (if x.kind = 13 then MemR R x.fields y.fields else FldsR R x.fields y.fields)) : EqA l M a b z := by
 obtain ⟨zb, M2⟩ := z
 cases zb with
 | true =>
  obtain ⟨h1, h2⟩ := hz.yes rfl
  exact EqA.close (P := True) hx hy ⟨hR.grown.trans hz.grown, fun h => hz.bnd (hR.bnd h), hR.closed.trans h1 hz.grown, trivial⟩ ⟨hh, he.mono (InM.mono hz.grown), (hPy _).1 h2, hA.mono (InM.mono hz.grown)⟩
 | false =>
  refine EqA.fail (fun p hp => hz.grown _ (hR.grown _ (List.mem_cons_of_mem _ hp))) (fun hM => hz.bnd (hR.bnd fun p hp => ?_)) fun h => hz.no rfl ((hPy _).2 (h.ty hb8 hx hy).flds)
  rcases List.mem_cons.1 hp with rfl | hp
  ·exact ⟨(List.getElem?_eq_some_iff.1 hx).1, (List.getElem?_eq_some_iff.1 hy).1⟩
  exact hM p hp
/-! Fields that are sorted by their names. -/
theorem lt_irrefl : ∀ l : List UInt8, ltBytes l l = false
 | [] => rfl
 | a :: l => by
  unfold ltBytes
  rw [nblt, nbeq, decide_eq_false (Nat.lt_irrefl _), decide_eq_true rfl]
  exact lt_irrefl l
theorem lt_total : ∀ a b : List UInt8, ltBytes a b = false → ltBytes b a = false → a = b
 | [], [], _, _ => rfl
 | [], _ :: _, h, _ => by cases h
 | _ :: _, [], _, h => by cases h
 | a :: x, b :: y, h1, h2 => by
  unfold ltBytes at h1 h2
  rw [nblt, nbeq] at h1 h2
  by_cases e : a.toNat < b.toNat
  ·rw [decide_eq_true e] at h1
   cases h1
  by_cases e2 : b.toNat < a.toNat
  ·rw [decide_eq_true e2] at h2
   cases h2
  have e3 : a.toNat = b.toNat := by omega
  rw [decide_eq_false e, decide_eq_true e3] at h1
  rw [decide_eq_false e2, decide_eq_true e3.symm] at h2
  rw [lt_total x y h1 h2, UInt8.toNat_inj.1 e3]
theorem lt_trans : ∀ a b c : List UInt8, ltBytes a b = true → ltBytes b c = true → ltBytes a c = true
 | [], [], [], h, _ => h
 | [], _ :: _, [], _, h => by cases h
 | [], [], _ :: _, h, _ => by cases h
 | [], _ :: _, _ :: _, _, _ => rfl
 | _ :: _, [], _, h, _ => by cases h
 | _ :: _, _ :: _, [], _, h => by cases h
 | a :: x, b :: y, c :: z, h1, h2 => by
  unfold ltBytes at h1 h2 ⊢
  rw [nblt, nbeq] at h1 h2 ⊢
  by_cases e : a.toNat < c.toNat
  ·rw [decide_eq_true e]
   rfl
  by_cases e1 : a.toNat < b.toNat
  ·by_cases e2 : b.toNat < c.toNat
   ·omega
   rw [decide_eq_false e2] at h2
   by_cases e3 : b.toNat = c.toNat
   ·omega
   rw [decide_eq_false e3] at h2
   cases h2
  rw [decide_eq_false e1] at h1
  by_cases e3 : a.toNat = b.toNat
  ·rw [decide_eq_true e3] at h1
   by_cases e2 : b.toNat < c.toNat
   ·omega
   rw [decide_eq_false e2] at h2
   by_cases e4 : b.toNat = c.toNat
   ·rw [decide_eq_true e4] at h2
    rw [decide_eq_false e, decide_eq_true (e3.trans e4)]
    exact lt_trans x y z h1 h2
   rw [decide_eq_false e4] at h2
   cases h2
  rw [decide_eq_false e3] at h1
  cases h1
def lessN (a b : ByteArray) : Bool := ltBytes a.data.toList b.data.toList
def insF (f : Fld) : List Fld → List Fld
 | [] => [f]
 | g :: r => if lessN g.name f.name = true then g :: insF f r else f :: g :: r
def sortF (L : List Fld) : List Fld := L.foldl (fun out f => insF f out) []
theorem insF_at {f : Fld} : ∀ {out : List Fld} {k : Nat}, k ≤ out.length → (∀ (j : Nat) g, j < k → out[j]? = some g → lessN g.name f.name = true) → (∀ g, out[k]? = some g → lessN g.name f.name = false) → out.take k ++ [f] ++ out.drop k = insF f out
 | [], k, hk, _, _ => by
  have : k = 0 := by simpa using hk
  subst this
  rfl
 | g :: r, 0, _, _, h2 => by
  unfold insF
  rw [if_neg (by rw [h2 g rfl]; decide)]
  rfl
 | g :: r, k + 1, hk, h1, h2 => by
  unfold insF
  rw [if_pos (h1 0 g (by omega) rfl)]
  have := insF_at (f := f) (out := r) (k := k) (by simpa using hk) (fun j x hj hx => h1 (j + 1) x (by omega) (by simpa using hx)) (fun x hx => h2 x (by simpa using hx))
  rw [← this]
  simp
theorem sortF_snoc (L : List Fld) (f : Fld) : sortF (L ++ [f]) = insF f (sortF L) := by
 unfold sortF
 rw [List.foldl_append]
 rfl
theorem insF_perm (f : Fld) : ∀ out : List Fld, (insF f out).Perm (f :: out)
 | [] => .refl _
 | g :: r => by
  unfold insF
  split
  ·exact ((insF_perm f r).cons g).trans (.swap _ _ _)
  exact .refl _
theorem foldl_perm : ∀ (L out : List Fld), (L.foldl (fun out f => insF f out) out).Perm (L ++ out)
 | [], _ => .refl _
 | f :: L, out => (foldl_perm L (insF f out)).trans (((insF_perm f out).append_left L).trans List.perm_middle)
theorem sortF_perm (L : List Fld) : (sortF L).Perm L := by
 have := foldl_perm L []
 rwa [List.append_nil] at this
def Asc (L : List Fld) : Prop := L.Pairwise fun f g => lessN g.name f.name = false
theorem insF_asc {f : Fld} : ∀ {out : List Fld}, Asc out → Asc (insF f out)
 | [], _ => List.pairwise_singleton _ _
 | g :: r, h => by
  unfold insF
  have h1 := List.pairwise_cons.1 h
  split
  ·rename_i hlt
   refine List.pairwise_cons.2 ⟨fun x hx => ?_, insF_asc h1.2⟩
   rcases List.mem_cons.1 ((insF_perm f r).mem_iff.1 hx) with rfl | hx
   ·cases hb : lessN x.name g.name with
    | false => rfl
    | true =>
     have := lt_trans _ _ _ hlt hb
     rw [lt_irrefl] at this
     cases this
   exact h1.1 x hx
  rename_i hlt
  refine List.pairwise_cons.2 ⟨fun x hx => ?_, h⟩
  have hgf : lessN g.name f.name = false := by simpa using hlt
  rcases List.mem_cons.1 hx with rfl | hx
  ·exact hgf
  cases hb : lessN x.name f.name with
  | false => rfl
  | true =>
   have hxg := h1.1 x hx
   cases hfg : lessN f.name g.name with
   | true =>
    have := lt_trans _ _ _ hb hfg
    rw [show ltBytes x.name.data.toList g.name.data.toList = lessN x.name g.name from rfl, hxg] at this
    cases this
   | false =>
    have he : g.name.data.toList = f.name.data.toList := lt_total _ _ hgf hfg
    unfold lessN at hb hxg
    rw [he, hb] at hxg
    cases hxg
theorem foldl_asc : ∀ (L : List Fld) {out : List Fld}, Asc out → Asc (L.foldl (fun out f => insF f out) out)
 | [], _, h => h
 | _ :: L, _, h => foldl_asc L (insF_asc h)
theorem sortF_asc (L : List Fld) : Asc (sortF L) := foldl_asc L List.Pairwise.nil
theorem fnames_perm {L L' : List Fld} (h : L.Perm L') : (fnames L).Perm (fnames L') := h.map _
theorem asc_names : ∀ {A B : List ByteArray}, A.Pairwise (fun f g => lessN g f = false) → B.Pairwise (fun f g => lessN g f = false) → A.Perm B → A = B
 | [], B, _, _, h => (List.nil_perm.1 h).symm
 | a :: A, [], _, _, h => absurd h.length_eq (by simp)
 | a :: A, b :: B, hA, hB, h => by
  have e : a = b := by
   have h1 := List.pairwise_cons.1 hA
   have h2 := List.pairwise_cons.1 hB
   have hb : b ∈ a :: A := h.mem_iff.2 List.mem_cons_self
   have ha : a ∈ b :: B := h.mem_iff.1 List.mem_cons_self
   rcases List.mem_cons.1 hb with e | hb
   ·exact e.symm
   rcases List.mem_cons.1 ha with e | ha
   ·exact e
   exact bytes_ext (lt_total _ _ (h2.1 a ha) (h1.1 b hb))
  subst e
  rw [asc_names (List.pairwise_cons.1 hA).2 (List.pairwise_cons.1 hB).2 (h.cons_inv)]
theorem Asc.names {L : List Fld} (h : Asc L) : (fnames L).Pairwise (fun f g => lessN g f = false) := List.pairwise_map.2 h
theorem sub_perm : ∀ {A B : List ByteArray}, A.Nodup → (∀ x, x ∈ A → x ∈ B) → A.length = B.length → A.Perm B
 | [], B, _, _, h => by rw [List.eq_nil_of_length_eq_zero h.symm]
 | a :: A, B, hA, hs, hl => by
  obtain ⟨B1, B2, rfl⟩ := List.append_of_mem (hs a List.mem_cons_self)
  have h1 := List.nodup_cons.1 hA
  have := sub_perm (A := A) (B := B1 ++ B2) h1.2 (fun x hx => by
   have := hs x (List.mem_cons_of_mem _ hx)
   simp only [List.mem_append, List.mem_cons] at this ⊢
   rcases this with h | rfl | h
   ·exact .inl h
   ·exact absurd hx h1.1
   exact .inr h) (by simp at hl ⊢; omega)
  exact (this.cons a).trans List.perm_middle.symm
theorem sortF_len (L : List Fld) : (sortF L).length = L.length := (sortF_perm L).length_eq
/-- Sorted members agree one by one if the members agree by their names. -/
theorem sortF_rel {R : Nat → Nat → Prop} {L L' : List Fld} (h1 : (fnames L).Nodup) (h2 : (fnames L').Nodup) : FldsR R (sortF L) (sortF L') ↔ MemR R L L' := by
 constructor
 ·rintro ⟨hl, h⟩
  refine ⟨by rw [← sortF_len L, ← sortF_len L', hl], fun f hf => ?_⟩
  obtain ⟨i, hi⟩ := List.getElem?_of_mem ((sortF_perm L).mem_iff.2 hf)
  obtain ⟨g, hg⟩ : ∃ g, (sortF L')[i]? = some g := ⟨_, List.getElem?_eq_getElem (by have := (List.getElem?_eq_some_iff.1 hi).1; omega)⟩
  obtain ⟨e1, e2⟩ := h i f g hi hg
  exact ⟨g, (sortF_perm L').mem_iff.1 (List.mem_of_getElem? hg), e1.symm, e2⟩
 rintro ⟨hl, h⟩
 have hp : (fnames L).Perm (fnames L') := sub_perm h1 (fun x hx => by
  obtain ⟨f, hf, rfl⟩ := List.mem_map.1 hx
  obtain ⟨g, hg, hn, _⟩ := h f hf
  exact List.mem_map.2 ⟨g, hg, hn⟩) (by simp [fnames, hl])
 have he : fnames (sortF L) = fnames (sortF L') := asc_names (sortF_asc L).names (sortF_asc L').names ((fnames_perm (sortF_perm L)).trans (hp.trans (fnames_perm (sortF_perm L')).symm))
 refine ⟨by rw [sortF_len, sortF_len, hl], fun i f g hf hg => ?_⟩
 have hn : f.name = g.name := by
  have a1 := fnames_get hf
  have a2 := fnames_get hg
  rw [he, a2] at a1
  exact (Option.some.inj a1).symm
 refine ⟨hn, ?_⟩
 obtain ⟨g', k1, k2, k3⟩ := h f ((sortF_perm L).mem_iff.1 (List.mem_of_getElem? hf))
 have := mem_one h2 k1 ((sortF_perm L').mem_iff.1 (List.mem_of_getElem? hg)) (k2.trans hn)
 subst this
 exact k3
theorem rfields_ok {l : List Ty} {al : Option Addr} {cl bp n : Nat} {M : Prs} {x0 : PrSt} {L L2 : List Fld} {va vb : Value} {m : AW} (hm : m.lo ≤ m.next) (hk : Knows (PrS bp x0) m m (PrH bp x0)) (hM : MetS l.length M x0) (hBd : Bnd l M) (hlS : TabR l al cl (PrS bp x0) m) (hn : unmet l.length M < n) (heq : ∀ p q : Nat, p < l.length → q < l.length → EqualR prog l al cl bp n p q) (hfa : Sl (Off (PrS bp x0) m) 2 RFld L va) (hfb : Sl (Off (PrS bp x0) m) 2 RFld L2 vb) (hL : ∀ (j : Nat) (f : Fld), L[j]? = some f → ∃ q : Nat, f.type = Int.ofNat q ∧ q < l.length) (hL2 : ∀ (j : Nat) (f : Fld), L2[j]? = some f → ∃ q : Nat, f.type = Int.ofNat q ∧ q < l.length) : Fc prog 106 [ptr bp, .slice al l.length cl, va, vb] m fun v m' => RelQR l bp x0 M (fun R => FldsR R L L2) m v m' := by
 obtain ⟨aa, ca, rfl, hna, hfa⟩ := hfa
 obtain ⟨ab, cb, rfl, hnb, hfb⟩ := hfb
 have hM0 := hM
 have hB0 := hBd
 have hn0 := hn
 refine Fc.bodyS (S := PrS bp x0) (c := _) func106 rfl rfl rfl rfl hk ?_
 refine .seq (.region (.P ?_))
 refine .nil (.seq (.seq (.seq (.region (.P ?_)))))
 refine .G (ln47 ..) ?_
 refine .P ?_
 refine .G (ln47 ..) ?_
 refine .P ?_
 refine .nil (.seq (.cond rfl (fun ht14 => ?_) fun ht14 => ?_))
 ·try simp only [nz] at ht14
  refine .seq (.region (.P ?_))
  refine .nil (.seq (.ret (.seq ?_)))
  exact .end_ rfl rfl (fun m hm => ⟨((false, M), x0), ⟨RelA.fail (Grown.refl _) id fun h => absurd h.1 (by omega), hM⟩, rfl, hm⟩)
 try simp only [nz] at ht14
 have hll : L.length = L2.length := by omega
 refine .skip (.seq (.seq (.seq (.region (.P ?_)))))
 refine .nil (.seq (.block ?_))
 refine .loop (α := Nat × Prs × PrSt) (fun q => [(0, ptr bp), (1, .slice al l.length cl), (2, .slice aa L.length ca), (3, .slice ab L2.length cb), (9, .int .i64 (Int.ofNat (q.1)))]) (fun q => PrH bp q.2.2) (fun q => q.1 ≤ L.length ∧ RowA l M q.2.1 (FldsU (InM q.2.1) L L2 q.1) ∧ MetS l.length q.2.1 q.2.2) (fun q => L.length - q.1) (0, M, x0) ⟨Nat.zero_le _, RowA.init (fun _ _ _ h => absurd h (Nat.not_lt_zero _)), hM0⟩ ⟨rfl, rfl, rfl, rfl, rfl, trivial⟩ (.refl _) (fun q hq0 => ?_)
 obtain ⟨i, M1, x1⟩ := q
 obtain ⟨hi, hR, hM1⟩ := hq0
 simp only at hi hR hM1
 have hB1 := hR.bnd hB0
 have hu1 := Nat.lt_of_le_of_lt (unmet_le (n := l.length) hR.grown) hn0
 refine .seq (.seq (.region (.P2 ?_)))
 refine .G (ln47 ..) ?_
 refine .P ?_
 refine .nil (.seq (.cond rfl (fun ht18 => ?_) fun ht18 => ?_))
 ·try simp only [nz] at ht18
  have hltA : i < L.length := by omega
  obtain ⟨f, hf⟩ := gx hltA
  obtain ⟨bA, offA, csA, elA, gA, mdA, mateA, rfl, ⟨hbA, hhA⟩, hleA, hcA⟩ := so hfa hltA
  have hrf := hcA i f hf
  have hltB : i < L2.length := by omega
  obtain ⟨g_, hg⟩ := gx hltB
  obtain ⟨bB, offB, csB, elB, gB, mdB, mateB, rfl, ⟨hbB, hhB⟩, hleB, hcB⟩ := so hfb hltB
  have hrg := hcB i g_ hg
  obtain ⟨p, hp0, hpl⟩ := hL i f hf
  obtain ⟨q, hq0, hql⟩ := hL2 i g_ hg
  refine .skip (.seq (.seq (.block (.seq ?_))))
  refine .D [(15, 0), (15, 0), (15, 3), (15, 7), (3, 15), (15, 0), (15, 0), (15, 96), (15, 224), (3, 480), (15, 1023), (15, 2047), (15, 4095), (15, 4095), (15, 4095), (15, 4095), (15, 53247), (15, 118783), (3, 249855), (15, 4095), (15, 4095), (15, 1576959), (15, 3674111), (3, 7868415), (7, 16777215), (15, 33554431), (15, 67108863)] (by kernel_rfl) (by kernel_rfl) (fun base hbase hB => ?_)
  iterate 2 refine .P ?_
  refine .K underlying47 sz132 ?_
  refine .F fa132_0 ?_
  refine .M ag9 (Off.sees rfl rfl _ _ ⟨hbA, hhA⟩) (cell_of_take hrf (k := 0) rfl) ?_
  iterate 2 refine .P ?_
  refine .K underlying47 sz132 ?_
  refine .F fa132_0 ?_
  refine .M ag9 (Off.sees rfl rfl _ _ ⟨hbB, hhB⟩) (cell_of_take hrg (k := 0) rfl) ?_
  iterate 2 refine .P ?_
  refine .splitB 32 rfl (fun hs_32 => ?_) (fun hs_32 => ?_)
  ·try simp only [nz] at hs_32
   have hnn : f.name ≠ g_.name := by assumption
   iterate 14 refine .O ?_
   refine .P ?_
   refine .nil (.seq (.cond_true rfl (.seq (.region (.P ?_)))))
   refine .nil (.seq (.ret (.blk (.seq (.loop (.blk (.seq ?_)))))))
   exact .end_ rfl rfl (fun m hm => ⟨((false, M1), x1), ⟨RelA.fail hR.grown hR.bnd fun h => hnn (h.2 i f g_ hf hg).1, hM1⟩, rfl, hm⟩)
  try simp only [nz] at hs_32
  have hnn : f.name = g_.name := by assumption
  iterate 4 refine .P ?_
  refine .K underlying47 sz132 ?_
  refine .F fa132_1 ?_
  refine .M ag3 (Off.sees rfl rfl _ _ ⟨hbA, hhA⟩) (cell_of_take hrf (k := 1) rfl) ?_
  refine .as 39 (.int .i64 (Int.ofNat p)) rfl (congrArg (Value.int .i64) hp0) ?_
  iterate 2 refine .P ?_
  refine .K underlying47 sz132 ?_
  refine .F fa132_1 ?_
  refine .M ag3 (Off.sees rfl rfl _ _ ⟨hbB, hhB⟩) (cell_of_take hrg (k := 1) rfl) ?_
  refine .as 44 (.int .i64 (Int.ofNat q)) rfl (congrArg (Value.int .i64) hq0) ?_
  refine .callc (fun y : CmpR => EqA l M1 p q y.1 ∧ MetS l.length y.1.2 y.2) (fun y => .bool y.1.1) (fun y => PrH bp y.2) .all rfl rfl (by kernel_rfl) (by kernel_rfl) rfl rfl rfl rfl rfl rfl (fun m2 g0 g2 gb gr => heq p q hpl hql m2 x1 M1 g0 g2 hM1 hB1 (hlS.mono gb (RTy.mono gb)) hu1) (fun y hy => ?_)
  refine .p rfl rfl rfl rfl rfl (.p rfl rfl rfl rfl rfl (.of (.nil (.seq (.cond rfl (fun ht47 => ?_) fun ht47 => ?_)))))
  ·obtain ⟨hy, hyM⟩ := hy
   have hyf : y.1.1 = false := by cases h_ : y.1.1 with | false => rfl | true => rw [h_] at ht47; cases ht47
   refine .seq (.region (.P ?_))
   refine .nil (.seq (.ret (.blk (.seq (.loop (.blk (.seq ?_)))))))
   exact .end_ rfl rfl (fun m hm => ⟨((false, y.1.2), y.2), ⟨RelA.fail (hR.grown.trans hy.grown) (fun h => hy.bnd (hR.bnd h)) fun h => hy.no hyf (by have := (h.2 i f g_ hf hg).2; rw [hp0, hq0] at this; exact this.nat), hyM⟩, rfl, hm.sub (List.sublist_append_left _ _)⟩)
  obtain ⟨hy, hyM⟩ := hy
  have hyt : y.1.1 = true := by cases h_ : y.1.1 with | true => rfl | false => rw [h_] at ht47; cases ht47
  refine .skip (.blk (.seq (.region (.P2 ?_))))
  refine .W 20 i ?_
  refine .P ?_
  refine .nil ?_
  exact .loop (i + 1, y.1.2, y.2) ⟨by omega, hR.more hy hyt (hR.all.succ hy.grown hf hg hnn ⟨p, q, hp0, hq0, (hy.yes hyt).1⟩), hyM⟩ (by show L.length - (i + 1) < L.length - i; omega) ⟨rfl, rfl, rfl, rfl, rfl, trivial⟩ (List.sublist_append_left _ _)
 try simp only [nz] at ht18
 refine .exit (.seq (.loop (.here (.seq (.seq (.region (.P ?_)))))))
 refine .nil (.seq (.ret ?_))
 exact .end_ rfl rfl (fun m hm => ⟨((true, M1), x1), ⟨RelA.good hR (hR.all.all hll (by omega)), hM1⟩, rfl, hm⟩)
theorem Gro.len {g : Gro} {n : Nat} (h : g.Ok n) : ∃ a c, g.V n = .slice a n c := by
 cases g with
 | no =>
  have : n = 0 := h
  subst this
  exact ⟨none, 0, rfl⟩
 | emp b =>
  have : n = 0 := h
  subst this
  exact ⟨_, 0, rfl⟩
 | one b => exact ⟨_, _, rfl⟩
 | two b b0 old => exact ⟨_, _, rfl⟩
theorem sorted_ok {L : List Fld} {vl : Value} {m : AW} (hm : m.lo ≤ m.next) (hlS : Sl (Mem m) 2 RFld L vl) (hL : L.length ≤ 1000) : Fc prog 107 [vl] m fun v m' => ∃ z : Gro × List Value, (Flat 2 RFld (sortF L) z.2 ∧ z.1.Ok (sortF L).length) ∧ v = z.1.V (sortF L).length ∧ Ext m m' ∧ News m m' (z.1.H 132 z.2) := by
 obtain ⟨aL, cL, rfl, hnL, hl⟩ := hlS
 refine Fc.body (c := _) func107 rfl rfl rfl rfl hm ?_
 refine .seq (.region (.P ?_))
 refine .nil (.seq (.seq (.region (.P ?_))))
 refine .nil (.seq (.seq (.seq (.region (.P ?_)))))
 refine .nil (.seq (.block ?_))
 refine .loop (α := Nat × Gro × List Value × List Fld) (fun q => [(0, .slice aL L.length cL), (3, q.2.1.V q.2.2.2.length), (4, .int .i64 (Int.ofNat q.1))]) (fun q => q.2.1.H 132 q.2.2.1) (fun q => q.1 ≤ L.length ∧ q.2.2.2 = sortF (L.take q.1) ∧ q.2.2.2.length = q.1 ∧ Flat 2 RFld q.2.2.2 q.2.2.1 ∧ q.2.1.Ok q.2.2.2.length) (fun q => L.length - q.1) (0, .no, [], []) ⟨Nat.zero_le _, rfl, rfl, Flat.nil, rfl⟩ ⟨rfl, rfl, rfl, trivial⟩ (List.nil_sublist _) (fun q hq0 => ?_)
 obtain ⟨i, g_, cs_, out⟩ := q
 obtain ⟨hi, he, hlo, hF, hO⟩ := hq0
 simp only at hi he hlo hF hO
 obtain ⟨ga, gc, hV, hnG, hGs⟩ := Gro.sl (el := 132) hF hO (by omega)
 refine .seq (.seq (.region (.P2 ?_)))
 refine .G (ln47 ..) ?_
 refine .P ?_
 refine .nil (.seq (.cond rfl (fun ht10 => ?_) fun ht10 => ?_))
 ·try simp only [nz] at ht10
  have hltA : i < L.length := by omega
  obtain ⟨f, hf⟩ := gx hltA
  obtain ⟨bA, offA, csA, elA, gA, mdA, mateA, rfl, ⟨hbA, hhA⟩, hleA, hcA⟩ := so hl hltA
  have hrf := hcA i f hf
  refine .skip (.seq (.seq (.block (.seq (.region (.P ?_))))))
  refine .nil (.seq (.seq (.block ?_)))
  refine .loop (α := Nat) (fun j => [(0, .slice (some ⟨bA, offA, none⟩) L.length cL), (3, g_.V out.length), (4, .int .i64 (Int.ofNat (i))), (5, .int .i64 (Int.ofNat (j)))]) (fun j => g_.H 132 cs_) (fun j => j ≤ out.length ∧ ∀ (k : Nat) (g : Fld), k < j → out[k]? = some g → lessN g.name f.name = true) (fun j => out.length - j) 0 ⟨Nat.zero_le _, fun _ _ h => (by cases h)⟩ ⟨rfl, rfl, rfl, rfl, trivial⟩ (.refl _) (fun j hj => ?_)
  refine .seq (.seq ?_)
  refine .D [(15, 0), (15, 0), (3, 2), (15, 7), (15, 15), (15, 31), (15, 31), (15, 127), (15, 255), (3, 511), (15, 31), (15, 31), (15, 3103), (15, 7199), (3, 15391), (15, 32767), (15, 65535)] (by kernel_rfl) (by kernel_rfl) (fun base hbase hB => ?_)
  iterate 2 refine .P ?_
  refine .as 14 (.slice ga out.length gc) rfl hV ?_
  refine .len rfl rfl rfl rfl rfl rfl (ln47 ..) ?_
  iterate 2 refine .P ?_
  refine .splitB 17 rfl (fun hs_17 => ?_) (fun hs_17 => ?_)
  ·try simp only [nz] at hs_17
   obtain ⟨gx, hgx⟩ : ∃ w_, out[j]? = some w_ := ⟨_, List.getElem?_eq_getElem (by omega)⟩
   rcases hGs with ⟨e0, -⟩ | ⟨bG, offG, csG, elG, gG, mdG, mateG, rfl, hbG, hleG, hcG⟩
   ·rw [e0] at hgx; simp at hgx
   have hrG := hcG j gx hgx
   refine .P ?_
   refine .as 18 (.slice (some ⟨bG, offG, none⟩) out.length gc) rfl hV ?_
   refine .P ?_
   refine .K underlying47 sz132 ?_
   refine .F fa132_0 ?_
   refine .M ag9 (InH.sees (l := g_.H 132 cs_) (fun p_ hp_ => hp_) _ _ hbG) (cell_of_take hrG (k := 0) rfl) ?_
   iterate 2 refine .P ?_
   refine .K underlying47 sz132 ?_
   refine .F fa132_0 ?_
   refine .M ag9 (.base hhA hbA (by simp)) (cell_of_take hrf (k := 0) rfl) ?_
   iterate 2 refine .P ?_
   refine .nil (.seq (.cond rfl (fun ht29 => ?_) fun ht29 => ?_))
   ·refine .skip (.seq (.block (.region (.P2 ?_))))
    refine .W 31 j ?_
    refine .P ?_
    refine .nil (.blk ?_)
    exact .loop (j + 1) ⟨by omega, upto_succ hj.2 hgx ht29⟩ (by omega) ⟨rfl, rfl, rfl, rfl, trivial⟩ (.refl _)
   have hat : ∀ g : Fld, out[j]? = some g → lessN g.name f.name = false := fun g_ hg_ => by rw [hgx] at hg_; cases hg_; exact ht29
   obtain ⟨vr, hvr, hSr⟩ := Gro.from_ (P := prog) (ty := 47) (k := .i64) (j := j) underlying47 sz132 hF hO hj.1 (by omega)
   refine .exit (.seq (.loop (.here (.seq (.seq (.region ?_))))))
   refine .buildSlice rfl rfl rfl rfl rfl (bs47_0) (fun b32 hb32 => ?_)
   refine .P2 ?_
   refine .sliceFrom hvr rfl rfl rfl rfl rfl rfl ?_
   refine .appendSl (R := RFld) (l0 := []) (l := (out.drop j)) (L := (out.drop j)) (g := .emp b32) (cs := []) rfl .one Flat.nil rfl (hSr) ((InH.sees (l := g_.H 132 cs_) (fun p_ hp_ => List.mem_cons_of_mem _ hp_))) RFld.flats (by simp; omega) rfl rfl rfl rfl underlying47 underlying47 ap132 rfl rfl (fun g1 cs1 hF1 hO1 => ?_)
   refine .P ?_
   refine .nil (.seq ?_)
   refine .D [(15, 0), (15, 0), (15, 3), (15, 0), (15, 0), (15, 24), (3, 56), (11, 120), (7, 255), (12, 0), (7, 1023), (15, 2047)] (by kernel_rfl) (by kernel_rfl) (fun base hbase hB => ?_)
   iterate 2 refine .P ?_
   refine .sliceToV (Gro.to (k := .i64) underlying47 sz132 hO hj.1 (by omega)) rfl rfl rfl rfl rfl rfl rfl ?_
   iterate 2 refine .P ?_
   refine .K underlying47 sz132 ?_
   refine .loadAgg rfl rfl rfl rfl rfl rfl rfl rfl ag132 sz132 (.base hhA hbA (by simp)) (by omega) hrf ?_
   refine .buildSlice rfl rfl rfl rfl rfl rfl (bs47_1 ..) (fun b44 hn44 hb44 => ?_)
   refine .appendCut (R := RFld) (l0 := out) (l := [f]) (j := j) (L := out.take j ++ [f]) (g := g_) (cs := cs_) rfl (.tail (.over .all)) hF hO hj.1 (by simp) (Sl.single (R := RFld) (x := f) (b := b44) (c := 1) (el := 132) (g := false) (md := .plain) (mate := none) rfl rfl) (InH.sees (by intro p_ hp_; rw [List.mem_singleton.1 hp_]; exact List.mem_cons_self)) RFld.flats (by simp; omega) rfl rfl (by kernel_rfl) (by kernel_rfl) rfl rfl rfl rfl underlying47 underlying47 ap132 rfl rfl (fun g2 cs2 hF2 hO2 => ?_)
   refine .P ?_
   refine .appendSl (R := RFld) (l0 := (out.take j ++ [f])) (l := (out.drop j)) (L := (out.take j ++ [f] ++ out.drop j)) (g := g2) (cs := cs2) rfl .here hF2 hO2 (Gro.sl (el := 132) hF1 hO1 (by simp; omega)) ((InH.sees (l := g1.H 132 cs1) (fun p_ hp_ => List.mem_append_right _ (List.mem_cons_of_mem _ (List.mem_append_left _ hp_))))) RFld.flats (by simp; omega) rfl rfl (by kernel_rfl) (by kernel_rfl) rfl rfl rfl rfl underlying47 underlying47 ap132 rfl rfl (fun g3 cs3 hF3 hO3 => ?_)
   refine .P ?_
   refine .nil (.blk (.seq (.region (.P2 ?_))))
   refine .W 12 i ?_
   refine .P ?_
   refine .nil ?_
   exact .loop (i + 1, g3, cs3, out.take j ++ [f] ++ out.drop j) ⟨hltA, by rw [insF_at hj.1 hj.2 hat, he, ← sortF_snoc, take_succ' hf], by simp only [List.length_append, List.length_take, List.length_drop, List.length_singleton]; omega, hF3, hO3⟩ (by show L.length - (i + 1) < L.length - i; omega) ⟨rfl, rfl, rfl, trivial⟩ (List.sublist_append_left _ _)
  try simp only [nz] at hs_17
  have hat : ∀ g : Fld, out[j]? = some g → lessN g.name f.name = false := fun g_ hg_ => absurd (List.getElem?_eq_some_iff.1 hg_).1 (by omega)
  obtain ⟨vr, hvr, hSr⟩ := Gro.from_ (P := prog) (ty := 47) (k := .i64) (j := j) underlying47 sz132 hF hO hj.1 (by omega)
  iterate 11 refine .O ?_
  refine .P ?_
  refine .nil (.seq (.cond_false rfl (.exit (.seq (.loop (.here (.seq (.seq (.region ?_)))))))))
  refine .buildSlice rfl rfl rfl rfl rfl (bs47_0) (fun b32 hb32 => ?_)
  refine .P2 ?_
  refine .sliceFrom hvr rfl rfl rfl rfl rfl rfl ?_
  refine .appendSl (R := RFld) (l0 := []) (l := (out.drop j)) (L := (out.drop j)) (g := .emp b32) (cs := []) rfl .one Flat.nil rfl (hSr) ((InH.sees (l := g_.H 132 cs_) (fun p_ hp_ => List.mem_cons_of_mem _ hp_))) RFld.flats (by simp; omega) rfl rfl rfl rfl underlying47 underlying47 ap132 rfl rfl (fun g1 cs1 hF1 hO1 => ?_)
  refine .P ?_
  refine .nil (.seq ?_)
  refine .D [(15, 0), (15, 0), (15, 3), (15, 0), (15, 0), (15, 24), (3, 56), (11, 120), (7, 255), (12, 0), (7, 1023), (15, 2047)] (by kernel_rfl) (by kernel_rfl) (fun base hbase hB => ?_)
  iterate 2 refine .P ?_
  refine .sliceToV (Gro.to (k := .i64) underlying47 sz132 hO hj.1 (by omega)) rfl rfl rfl rfl rfl rfl rfl ?_
  iterate 2 refine .P ?_
  refine .K underlying47 sz132 ?_
  refine .loadAgg rfl rfl rfl rfl rfl rfl rfl rfl ag132 sz132 (.base hhA hbA (by simp)) (by omega) hrf ?_
  refine .buildSlice rfl rfl rfl rfl rfl rfl (bs47_1 ..) (fun b44 hn44 hb44 => ?_)
  refine .appendCut (R := RFld) (l0 := out) (l := [f]) (j := j) (L := out.take j ++ [f]) (g := g_) (cs := cs_) rfl (.tail (.over .all)) hF hO hj.1 (by simp) (Sl.single (R := RFld) (x := f) (b := b44) (c := 1) (el := 132) (g := false) (md := .plain) (mate := none) rfl rfl) (InH.sees (by intro p_ hp_; rw [List.mem_singleton.1 hp_]; exact List.mem_cons_self)) RFld.flats (by simp; omega) rfl rfl (by kernel_rfl) (by kernel_rfl) rfl rfl rfl rfl underlying47 underlying47 ap132 rfl rfl (fun g2 cs2 hF2 hO2 => ?_)
  refine .P ?_
  refine .appendSl (R := RFld) (l0 := (out.take j ++ [f])) (l := (out.drop j)) (L := (out.take j ++ [f] ++ out.drop j)) (g := g2) (cs := cs2) rfl .here hF2 hO2 (Gro.sl (el := 132) hF1 hO1 (by simp; omega)) ((InH.sees (l := g1.H 132 cs1) (fun p_ hp_ => List.mem_append_right _ (List.mem_cons_of_mem _ (List.mem_append_left _ hp_))))) RFld.flats (by simp; omega) rfl rfl (by kernel_rfl) (by kernel_rfl) rfl rfl rfl rfl underlying47 underlying47 ap132 rfl rfl (fun g3 cs3 hF3 hO3 => ?_)
  refine .P ?_
  refine .nil (.blk (.seq (.region (.P2 ?_))))
  refine .W 12 i ?_
  refine .P ?_
  refine .nil ?_
  exact .loop (i + 1, g3, cs3, out.take j ++ [f] ++ out.drop j) ⟨hltA, by rw [insF_at hj.1 hj.2 hat, he, ← sortF_snoc, take_succ' hf], by simp only [List.length_append, List.length_take, List.length_drop, List.length_singleton]; omega, hF3, hO3⟩ (by show L.length - (i + 1) < L.length - i; omega) ⟨rfl, rfl, rfl, trivial⟩ (List.sublist_append_left _ _)
 try simp only [nz] at ht10
 have hie : i = L.length := by omega
 subst hie
 rw [List.take_length] at he
 subst he
 refine .exit (.seq (.loop (.here (.seq (.seq (.region (.P2 ?_)))))))
 refine .nil (.seq (.ret ?_))
 exact .end_ rfl rfl (fun m hm => ⟨(g_, cs_), ⟨hF, hO⟩, rfl, hm.ext, hm.news (.refl _)⟩)
theorem requal_step {l : List Ty} {al : Option Addr} {cl bp n : Nat} {M : Prs} {x0 : PrSt} {a b_ : Nat} {m : AW} (hm : m.lo ≤ m.next) (hk : Knows (PrS bp x0) m m (PrH bp x0)) (hM : MetS l.length M x0) (hBd : Bnd l M) (hlS : TabR l al cl (PrS bp x0) m) (hn : unmet l.length M < n + 1) (hWl : Well l) (hwl : ∀ (i : Nat) (a : Ty), l[i]? = some a → FewT a) (hn14 : l.length ≤ 28) (ha : a < l.length) (hb_ : b_ < l.length) (ih : ∀ p q : Nat, p < l.length → q < l.length → EqualR prog l al cl bp n p q) : Fc prog 65 [ptr bp, .slice al l.length cl, .int .i64 (Int.ofNat (a)), .int .i64 (Int.ofNat (b_))] m fun v m' => EqQR l bp x0 M a b_ m v m' := by
 have hsnd := hWl.sound
 obtain ⟨g0, cs0, L0⟩ := x0
 have hFl : Flat 2 RPr L0 cs0 := hM.flat
 have hOk : g0.Ok L0.length := hM.ok
 have hsm : L0.length ≤ 784 := hM.small hn14
 have hlS0 := hlS
 obtain ⟨a_, cap_, he_, hnl, hl⟩ := hlS0
 cases he_
 obtain ⟨x_, hx_⟩ := gx ha
 obtain ⟨y_, hy_⟩ := gx hb_
 rcases hl with ⟨e0, -⟩ | ⟨b, off, cs, el, g, md, mate, rfl, ⟨hb, hh⟩, hle, hc⟩
 ·rw [e0] at ha; simp at ha
 have hrX := hc a x_ hx_
 obtain ⟨veX, vfX, vaX, hrX, heX, hfX, hgX⟩ := hrX
 obtain ⟨aeX, ceX, rfl, hneX, heX⟩ := heX
 have hfSX := hfX
 obtain ⟨afX, cfX, rfl, hnfX, hfX⟩ := hfX
 obtain ⟨aaX, caX, rfl, hnaX, hgX⟩ := hgX
 have hrY := hc b_ y_ hy_
 obtain ⟨veY, vfY, vaY, hrY, heY, hfY, hgY⟩ := hrY
 obtain ⟨aeY, ceY, rfl, hneY, heY⟩ := heY
 have hfSY := hfY
 obtain ⟨afY, cfY, rfl, hnfY, hfY⟩ := hfY
 obtain ⟨aaY, caY, rfl, hnaY, hgY⟩ := hgY
 obtain ⟨ga, gc, hV, hnG, hGs⟩ := Gro.sl (el := 165) hFl hOk (by omega)
 refine Fc.bodyS (S := PrS bp (g0, cs0, L0)) (c := _) func65 rfl rfl rfl rfl hk ?_
 refine .seq (.region (.P ?_))
 refine .nil (.seq (.seq (.seq (.region (.P ?_)))))
 refine .nil (.seq (.block ?_))
 refine .loop (α := Nat) (fun i => [(0, ptr bp), (1, .slice (some ⟨b, off, none⟩) l.length cl), (2, .int .i64 (Int.ofNat (a))), (3, .int .i64 (Int.ofNat (b_))), (9, .int .i64 (Int.ofNat (i)))]) (fun i => PrH bp (g0, cs0, L0)) (fun i => i ≤ L0.length ∧ ∀ (j : Nat) (p : Nat × Nat), j < i → L0[j]? = some p → p ≠ (a, b_)) (fun i => L0.length - i) 0 ⟨Nat.zero_le _, fun _ _ h => (by cases h)⟩ ⟨rfl, rfl, rfl, rfl, rfl, trivial⟩ (.refl _) (fun i hi => ?_)
 refine .seq (.seq (.region (.P3 ?_)))
 refine .F fa106_0 ?_
 refine .L ag104 ?_
 refine .as 18 (.slice ga L0.length gc) rfl hV ?_
 refine .G (ln104 ..) ?_
 refine .P ?_
 refine .nil (.seq (.cond rfl (fun ht20 => ?_) fun ht20 => ?_))
 ·try simp only [nz] at ht20
  obtain ⟨pp, hpp⟩ : ∃ w_, L0[i]? = some w_ := ⟨_, List.getElem?_eq_getElem (by omega)⟩
  rcases hGs with ⟨e0, -⟩ | ⟨bG, offG, csG, elG, gG, mdG, mateG, rfl, hbG, hleG, hcG⟩
  ·rw [e0] at hpp; simp at hpp
  have hrG := hcG i pp hpp
  refine .skip (.seq (.seq (.block (.seq (.region (.P2 ?_))))))
  refine .F fa106_0 ?_
  refine .L ag104 ?_
  refine .as 26 (.slice (some ⟨bG, offG, none⟩) L0.length gc) rfl hV ?_
  refine .P ?_
  refine .K underlying104 sz165 ?_
  refine .A ag165 sz165 (InH.sees (l := g0.H 165 cs0) (fun p_ hp_ => List.mem_cons_of_mem _ hp_) _ _ hbG) hrG ?_
  refine .P2 ?_
  refine .p (v := pairV .i64 (Int.ofNat a, Int.ofNat b_)) rfl rfl rfl (by kernel_rfl) ?_
  refine .eqPair (a := (Int.ofNat pp.1, Int.ofNat pp.2)) (b := (Int.ofNat a, Int.ofNat b_)) PT165 (by kernel_rfl) rfl rfl rfl rfl rfl rfl ?_
  refine .nil (.seq (.cond rfl (fun ht33 => ?_) fun ht33 => ?_))
  ·have hpe : pp = (a, b_) := by have := of_decide_eq_true ht33; exact Prod.ext (Int.ofNat.inj (Prod.mk.inj this).1) (Int.ofNat.inj (Prod.mk.inj this).2)
   have hin : (a, b_) ∈ M := (hM.mem _).1 (by rw [← hpe]; exact List.mem_of_getElem? hpp)
   refine .seq (.region (.P ?_))
   refine .nil (.seq (.ret (.blk (.seq (.loop (.blk (.seq ?_)))))))
   exact .end_ rfl rfl (fun m hm => ⟨((true, M), (g0, cs0, L0)), ⟨EqA.here (.inr hin), hM⟩, rfl, hm⟩)
  have hpe : pp ≠ (a, b_) := fun h => of_decide_eq_false ht33 (by rw [h])
  refine .skip (.blk (.seq (.region (.P2 ?_))))
  refine .W 22 i ?_
  refine .P ?_
  refine .nil ?_
  exact .loop (i + 1) ⟨by omega, upto_succ hi.2 hpp hpe⟩ (by omega) ⟨rfl, rfl, rfl, rfl, rfl, trivial⟩ (.refl _)
 try simp only [nz] at ht20
 have hnm : (a, b_) ∉ M := fun hm_ => by
   obtain ⟨j_, hj_⟩ := List.getElem?_of_mem ((hM.mem (a, b_)).2 hm_)
   exact hi.2 j_ _ (by have hj2_ : j_ < L0.length := (List.getElem?_eq_some_iff.1 hj_).1; omega) hj_ rfl
 refine .exit (.seq (.loop (.here (.seq (.seq (.region (.P3 ?_)))))))
 refine .F fa106_0 ?_
 refine .L ag104 ?_
 refine .P2 ?_
 refine .p (v := .agg ⟨[.int .i64 (Int.ofNat a), .int .i64 (Int.ofNat b_)]⟩) rfl rfl rfl (by kernel_rfl) ?_
 refine .buildSlice rfl rfl rfl rfl rfl (bs104_1 ..) (fun b42 hb42 => ?_)
 refine .appendSl (R := RPr) (l0 := L0) (l := [(a, b_)]) (L := (L0 ++ [(a, b_)])) (g := g0) (cs := cs0) rfl (.tail (.tail .all)) hFl hOk (Sl.single (R := RPr) (x := (a, b_)) (b := b42) (c := 1) (el := 165) (g := false) (md := .plain) (mate := none) rfl rfl) ((InH.sees (by intro p_ hp_; rw [List.mem_singleton.1 hp_]; exact List.mem_cons_self))) RPr.flats (by simp; omega) rfl rfl rfl rfl underlying104 underlying104 ap165 rfl rfl (fun g1 cs1 hF1 hO1 => ?_)
 obtain ⟨ga1, gc1, hV1⟩ := Gro.len hO1
 refine .as 43 (.slice ga1 (L0 ++ [(a, b_)]).length gc1) rfl hV1 ?_
 refine .P ?_
 refine .F fa106_0 ?_
 refine .store rfl rfl rfl rfl rfl sz104 rfl (Upd.app (.tail .head)) rfl ?_
 refine .swap (h' := (bp, .cells [g1.V (L0 ++ [(a, b_)]).length] 106 false .plain none) :: (g1.H 165 cs1 ++ [(b42, .cells [.int .i64 (Int.ofNat a), .int .i64 (Int.ofNat b_)] 165 false .plain none)])) (by rw [hV1]; exact pr_perm) ?_
 refine .drop (h' := PrH bp (g1, cs1, L0 ++ [(a, b_)])) (.cons_cons _ (List.sublist_append_left _ _)) ?_
 have hM0 := MetS.put (g := g1) (cs := cs1) hM ha hb_ hnm rfl hF1 hO1
 have hB0 := hBd.cons ha hb_
 have hn0 : unmet l.length ((a, b_) :: M) < n := by have := unmet_lt ha hb_ hnm (M' := (a, b_) :: M) (fun p hp => List.mem_cons_of_mem _ hp) List.mem_cons_self; omega
 refine .nil (.seq (.seq ?_))
 refine .D [(15, 0), (15, 0), (15, 3), (3, 7), (13, 0), (13, 0), (13, 48), (1, 112), (11, 0), (11, 0), (7, 783), (7, 2047)] (by kernel_rfl) (by kernel_rfl) (fun base hbase hB => ?_)
 iterate 2 refine .P ?_
 refine .K underlying22 sz50 ?_
 refine .loadAgg rfl rfl rfl rfl rfl rfl rfl rfl ag50 sz50 (Off.sees rfl rfl _ _ ⟨hb, hh⟩) (by omega) hrX ?_
 iterate 2 refine .P ?_
 refine .K underlying22 sz50 ?_
 refine .loadAggOld rfl rfl rfl rfl rfl rfl ag50 sz50 (Off.sees rfl rfl _ _ ⟨hb, hh⟩) (by omega) hrY (by first | exact hB _ _ (.head _) | exact hB _ _ (.tail _ (.head _)) | exact hB _ _ (.tail _ (.tail _ (.head _))) | exact hB _ _ (.tail _ (.tail _ (.tail _ (.head _)))) | exact hB _ _ (List.mem_append_right _ (.head _)) | exact hB _ _ (List.mem_append_right _ (.tail _ (.head _))) | exact Nat.lt_of_lt_of_le ‹_› hbase) ?_
 refine .alloc rfl rfl rfl rfl rfl zr50 (fun b10 hn10 hb10 => ?_)
 refine .alloc rfl rfl rfl rfl rfl zr50 (fun b11 hn11 hb11 => ?_)
 refine .storeNew rfl rfl (by kernel_rfl) hn10 rfl rfl rfl rfl rfl sz50 rfl (by first | exact .head | exact .tail .head | exact .tail (.tail .head) | exact .tail (.tail (.tail .head)) | exact updo) rfl ?_
 refine .storeNew rfl rfl (by kernel_rfl) hn11 rfl rfl rfl rfl rfl sz50 rfl (by first | exact .head | exact .tail .head | exact .tail (.tail .head) | exact .tail (.tail (.tail .head)) | exact updo) rfl ?_
 refine .nil (.seq ?_)
 refine .joinA (HeadR x_ y_) [] ?_ (fun hhd => ?_)
 ·refine .seq (.region (.F fa50_0 ?_))
  refine .L ag3 ?_
  refine .F fa50_0 ?_
  refine .L ag3 ?_
  refine .P2 ?_
  refine .splitB 59 rfl (fun hs_59 => ?_) (fun hs_59 => ?_)
  ·try simp only [nz] at hs_59
   iterate 7 refine .O ?_
   refine .P2 ?_
   iterate 10 refine .O ?_
   refine .P2 ?_
   iterate 7 refine .O ?_
   refine .P ?_
   refine .nil (.seq (.cond_true rfl (.seq (.region (.P ?_)))))
   refine .nil (.seq (.ret (.jn ?_)))
   exact .end_ rfl rfl (fun m hm => ⟨((false, (a, b_) :: M), (g1, cs1, L0 ++ [(a, b_)])), ⟨EqA.fail (fun p hp => List.mem_cons_of_mem _ hp) (fun hM => hM.cons ha hb_) (fun h => (by obtain ⟨h1, h2, h3, h4⟩ := (h.ty hsnd hx_ hy_).head; first | omega | exact absurd (h4 (by omega)) (by assumption))), hM0⟩, rfl, hm.sub (.cons _ (.cons _ (.refl _)))⟩)
  try simp only [nz] at hs_59
  refine .F fa50_1 ?_
  refine .L ag32 ?_
  refine .G (ln32 ..) ?_
  refine .F fa50_1 ?_
  refine .L ag32 ?_
  refine .G (ln32 ..) ?_
  refine .P3 ?_
  refine .splitB 68 rfl (fun hs_68 => ?_) (fun hs_68 => ?_)
  ·try simp only [nz] at hs_68
   iterate 10 refine .O ?_
   refine .P2 ?_
   iterate 7 refine .O ?_
   refine .P ?_
   refine .nil (.seq (.cond_true rfl (.seq (.region (.P ?_)))))
   refine .nil (.seq (.ret (.jn ?_)))
   exact .end_ rfl rfl (fun m hm => ⟨((false, (a, b_) :: M), (g1, cs1, L0 ++ [(a, b_)])), ⟨EqA.fail (fun p hp => List.mem_cons_of_mem _ hp) (fun hM => hM.cons ha hb_) (fun h => (by obtain ⟨h1, h2, h3, h4⟩ := (h.ty hsnd hx_ hy_).head; first | omega | exact absurd (h4 (by omega)) (by assumption))), hM0⟩, rfl, hm.sub (.cons _ (.cons _ (.refl _)))⟩)
  try simp only [nz] at hs_68
  refine .F fa50_0 ?_
  refine .L ag3 ?_
  refine .P2 ?_
  refine .splitB 72 rfl (fun hs_72 => ?_) (fun hs_72 => ?_)
  ·try simp only [nz] at hs_72
   refine .F fa50_2 ?_
   refine .L ag9 ?_
   refine .F fa50_2 ?_
   refine .L ag9 ?_
   iterate 4 refine .P ?_
   refine .splitB 80 rfl (fun hs_80 => ?_) (fun hs_80 => ?_)
   ·try simp only [nz] at hs_80
    iterate 7 refine .O ?_
    refine .P ?_
    refine .nil (.seq (.cond_true rfl (.seq (.region (.P ?_)))))
    refine .nil (.seq (.ret (.jn ?_)))
    exact .end_ rfl rfl (fun m hm => ⟨((false, (a, b_) :: M), (g1, cs1, L0 ++ [(a, b_)])), ⟨EqA.fail (fun p hp => List.mem_cons_of_mem _ hp) (fun hM => hM.cons ha hb_) (fun h => (by obtain ⟨h1, h2, h3, h4⟩ := (h.ty hsnd hx_ hy_).head; first | omega | exact absurd (h4 (by omega)) (by assumption))), hM0⟩, rfl, hm.sub (.cons _ (.cons _ (.refl _)))⟩)
   try simp only [nz] at hs_80
   refine .F fa50_4 ?_
   refine .L ag48 ?_
   refine .G (ln48 ..) ?_
   refine .F fa50_4 ?_
   refine .L ag48 ?_
   refine .G (ln48 ..) ?_
   refine .P2 ?_
   refine .nil (.seq (.cond rfl (fun ht88 => ?_) fun ht88 => ?_))
   ·try simp only [nz] at ht88
    refine .seq (.region (.P ?_))
    refine .nil (.seq (.ret (.jn ?_)))
    exact .end_ rfl rfl (fun m hm => ⟨((false, (a, b_) :: M), (g1, cs1, L0 ++ [(a, b_)])), ⟨EqA.fail (fun p hp => List.mem_cons_of_mem _ hp) (fun hM => hM.cons ha hb_) (fun h => (by obtain ⟨h1, h2, h3, h4⟩ := (h.ty hsnd hx_ hy_).head; first | omega | exact absurd (h4 (by omega)) (by assumption))), hM0⟩, rfl, hm.sub (.cons _ (.cons _ (.refl _)))⟩)
   try simp only [nz] at ht88
   refine .skip ?_
   exact .J (⟨by omega, by omega, by omega, fun h9 => (by first | assumption | omega)⟩)
  try simp only [nz] at hs_72
  iterate 5 refine .O ?_
  refine .P3 ?_
  refine .F fa50_4 ?_
  refine .L ag48 ?_
  refine .G (ln48 ..) ?_
  refine .F fa50_4 ?_
  refine .L ag48 ?_
  refine .G (ln48 ..) ?_
  refine .P2 ?_
  refine .nil (.seq (.cond rfl (fun ht88 => ?_) fun ht88 => ?_))
  ·try simp only [nz] at ht88
   refine .seq (.region (.P ?_))
   refine .nil (.seq (.ret (.jn ?_)))
   exact .end_ rfl rfl (fun m hm => ⟨((false, (a, b_) :: M), (g1, cs1, L0 ++ [(a, b_)])), ⟨EqA.fail (fun p hp => List.mem_cons_of_mem _ hp) (fun hM => hM.cons ha hb_) (fun h => (by obtain ⟨h1, h2, h3, h4⟩ := (h.ty hsnd hx_ hy_).head; first | omega | exact absurd (h4 (by omega)) (by assumption))), hM0⟩, rfl, hm.sub (.cons _ (.cons _ (.refl _)))⟩)
  try simp only [nz] at ht88
  refine .skip ?_
  exact .J (⟨by omega, by omega, by omega, fun h9 => (by first | assumption | omega)⟩)
 refine .seq (.seq (.region (.P ?_)))
 refine .nil (.seq (.block ?_))
 refine .swap (Pick.perm (.tail (.tail .all))) (.loop (α := Nat × Prs × PrSt) (fun q => [(0, ptr bp), (1, .slice (some ⟨b, off, none⟩) l.length cl), (10, ptr b10), (11, ptr b11), (12, .int .i64 (Int.ofNat (q.1)))]) (fun q => PrH bp q.2.2 ++ [(b11, .cells [.int .i64 y_.kind, .slice aeY y_.elems.length ceY, .string y_.name, .slice afY y_.fields.length cfY, .slice aaY y_.arms.length caY] 50 false .plain none), (b10, .cells [.int .i64 x_.kind, .slice aeX x_.elems.length ceX, .string x_.name, .slice afX x_.fields.length cfX, .slice aaX x_.arms.length caX] 50 false .plain none)]) (fun q => q.1 ≤ x_.elems.length ∧ RowA l ((a, b_) :: M) q.2.1 (ElsU (InM q.2.1) x_.elems y_.elems q.1) ∧ MetS l.length q.2.1 q.2.2) (fun q => x_.elems.length - q.1) (0, ((a, b_) :: M), (g1, cs1, L0 ++ [(a, b_)])) ⟨Nat.zero_le _, RowA.init (fun _ _ _ h => absurd h (Nat.not_lt_zero _)), hM0⟩ ⟨rfl, rfl, rfl, rfl, rfl, trivial⟩ (.refl _) (fun q hq0 => ?_))
 obtain ⟨i, M1, x1⟩ := q
 obtain ⟨hi, hR, hM1⟩ := hq0
 simp only at hi hR hM1
 have hB1 := hR.bnd hB0
 have hu1 := Nat.lt_of_le_of_lt (unmet_le (n := l.length) hR.grown) hn0
 refine .seq (.seq (.region (.P ?_)))
 refine .F fa50_1 ?_
 refine .L ag32 ?_
 refine .G (ln32 ..) ?_
 refine .P ?_
 refine .nil (.seq (.cond rfl (fun ht93 => ?_) fun ht93 => ?_))
 ·try simp only [nz] at ht93
  have hltE : i < x_.elems.length := by omega
  obtain ⟨p0, hp0⟩ := gx hltE
  obtain ⟨bE, offE, csE, elE, gE, mdE, mateE, rfl, ⟨hbE, hhE⟩, hleE, hcE⟩ := so heX hltE
  have hrp := hcE i p0 hp0
  have hltH : i < y_.elems.length := by have := hhd.2.1; omega
  obtain ⟨q0, hq0_⟩ := gx hltH
  obtain ⟨bH, offH, csH, elH, gH, mdH, mateH, rfl, ⟨hbH, hhH⟩, hleH, hcH⟩ := so heY hltH
  have hrq := hcH i q0 hq0_
  obtain ⟨p, rfl, hpl⟩ := parts_in (hsnd a x_ hx_) (parts_elem hp0)
  obtain ⟨q, rfl, hql⟩ := parts_in (hsnd b_ y_ hy_) (parts_elem hq0_)
  refine .skip (.seq (.seq (.block (.seq ?_))))
  refine .D [(15, 0), (15, 0), (15, 0), (3, 4), (15, 0), (15, 28), (3, 60), (15, 0), (3, 128), (15, 0), (15, 896), (3, 1920), (7, 4095), (15, 8191)] (by kernel_rfl) (by kernel_rfl) (fun base hbase hB => ?_)
  iterate 2 refine .P ?_
  refine .F fa50_1 ?_
  refine .J ag32 ?_
  refine .P ?_
  refine .K underlying32 sz3 ?_
  refine .M ag3 (Off.sees rfl rfl _ _ ⟨hbE, hhE⟩) (cell_of_take hrp (k := 0) rfl) ?_
  refine .F fa50_1 ?_
  refine .J ag32 ?_
  refine .P ?_
  refine .K underlying32 sz3 ?_
  refine .M ag3 (Off.sees rfl rfl _ _ ⟨hbH, hhH⟩) (cell_of_take hrq (k := 0) rfl) ?_
  refine .callc (fun y : CmpR => EqA l M1 p q y.1 ∧ MetS l.length y.1.2 y.2) (fun y => .bool y.1.1) (fun y => PrH bp y.2) .here rfl rfl (by kernel_rfl) (by kernel_rfl) rfl rfl rfl rfl rfl rfl (fun m2 g0 g2 gb gr => ih p q hpl hql m2 x1 M1 g0 g2 hM1 hB1 (hlS.mono gb (RTy.mono gb)) hu1) (fun y hy => ?_)
  refine .p rfl rfl rfl rfl rfl (.of (.nil (.seq (.cond rfl (fun ht109 => ?_) fun ht109 => ?_))))
  ·obtain ⟨hy, hyM⟩ := hy
   have hyf : y.1.1 = false := by cases h_ : y.1.1 with | false => rfl | true => rw [h_] at ht109; cases ht109
   refine .seq (.region (.P ?_))
   refine .nil (.seq (.ret (.blk (.seq (.loop (.blk (.seq ?_)))))))
   exact .end_ rfl rfl (fun m hm => ⟨((false, y.1.2), y.2), ⟨EqA.stop hx_ hy_ hR hy.grown hy.bnd fun h => hy.no hyf (((h.ty hsnd hx_ hy_).els.2 i _ _ hp0 hq0_).nat), hyM⟩, rfl, hm.sub (List.sublist_append_left _ _)⟩)
  obtain ⟨hy, hyM⟩ := hy
  have hyt : y.1.1 = true := by cases h_ : y.1.1 with | true => rfl | false => rw [h_] at ht109; cases ht109
  refine .skip (.blk (.seq (.region (.P2 ?_))))
  refine .W 95 i ?_
  refine .P ?_
  refine .nil ?_
  exact .loop (i + 1, y.1.2, y.2) ⟨by omega, hR.more hy hyt (hR.all.succ hy.grown hp0 hq0_ ⟨p, q, rfl, rfl, (hy.yes hyt).1⟩), hyM⟩ (by show x_.elems.length - (i + 1) < x_.elems.length - i; omega) ⟨rfl, rfl, rfl, rfl, rfl, trivial⟩ (.refl _)
 try simp only [nz] at ht93
 have hels : ElsR (InM M1) x_.elems y_.elems := hR.all.all hhd.2.1 (by omega)
 refine .exit (.seq (.loop (.here (.seq (.seq (.seq (.region (.P ?_))))))))
 refine .nil (.seq (.block ?_))
 have hR0 := hR
 have hM0 := hM1
 have hB0 := hB1
 have hn0 := hu1
 refine .loop (α := Nat × Prs × PrSt) (fun q => [(0, ptr bp), (1, .slice (some ⟨b, off, none⟩) l.length cl), (10, ptr b10), (11, ptr b11), (13, .int .i64 (Int.ofNat (q.1)))]) (fun q => PrH bp q.2.2 ++ [(b11, .cells [.int .i64 y_.kind, .slice aeY y_.elems.length ceY, .string y_.name, .slice afY y_.fields.length cfY, .slice aaY y_.arms.length caY] 50 false .plain none), (b10, .cells [.int .i64 x_.kind, .slice aeX x_.elems.length ceX, .string x_.name, .slice afX x_.fields.length cfX, .slice aaX x_.arms.length caX] 50 false .plain none)]) (fun q => q.1 ≤ x_.arms.length ∧ RowA l M1 q.2.1 (ArmsU (InM q.2.1) x_.arms y_.arms q.1) ∧ MetS l.length q.2.1 q.2.2) (fun q => x_.arms.length - q.1) (0, M1, x1) ⟨Nat.zero_le _, RowA.init (fun _ _ _ h => absurd h (Nat.not_lt_zero _)), hM0⟩ ⟨rfl, rfl, rfl, rfl, rfl, trivial⟩ (.refl _) (fun q hq0 => ?_)
 obtain ⟨k, M1, x1⟩ := q
 obtain ⟨hk, hR, hM1⟩ := hq0
 simp only at hk hR hM1
 have hB1 := hR.bnd hB0
 have hu1 := Nat.lt_of_le_of_lt (unmet_le (n := l.length) hR.grown) hn0
 refine .seq (.seq (.region (.P ?_)))
 refine .F fa50_4 ?_
 refine .L ag48 ?_
 refine .G (ln48 ..) ?_
 refine .P ?_
 refine .nil (.seq (.cond rfl (fun ht114 => ?_) fun ht114 => ?_))
 ·try simp only [nz] at ht114
  have hltU : k < x_.arms.length := by omega
  obtain ⟨u, hu_⟩ := gx hltU
  obtain ⟨bU, offU, csU, elU, gU, mdU, mateU, rfl, ⟨hbU, hhU⟩, hleU, hcU⟩ := so hgX hltU
  have hru := hcU k u hu_
  have hltW : k < y_.arms.length := by have := hhd.2.2.1; omega
  obtain ⟨w, hw_⟩ := gx hltW
  obtain ⟨bW, offW, csW, elW, gW, mdW, mateW, rfl, ⟨hbW, hhW⟩, hleW, hcW⟩ := so hgY hltW
  have hrw := hcW k w hw_
  obtain ⟨vu, hru, hfu⟩ := hru
  obtain ⟨vw, hrw, hfw⟩ := hrw
  have hfuS := hfu
  have hfwS := hfw
  obtain ⟨au, cu, rfl, hnu, hfu⟩ := hfu
  obtain ⟨aw, cw, rfl, hnw, hfw⟩ := hfw
  refine .skip (.seq (.seq (.block (.seq ?_))))
  refine .D [(15, 0), (3, 1), (15, 0), (15, 7), (15, 15), (3, 31), (15, 0), (3, 64), (15, 0), (15, 448), (15, 960), (3, 1984), (15, 4095), (15, 8191), (15, 16383), (15, 16383), (15, 16383), (3, 81919), (15, 16383), (15, 475135), (15, 999423), (3, 2047999), (15, 16383), (3, 4210687), (15, 16383), (15, 29376511), (15, 62930943), (3, 130039807), (7, 268435455), (15, 536870911), (15, 1073741823)] (by kernel_rfl) (by kernel_rfl) (fun base hbase hB => ?_)
  refine .F fa50_4 ?_
  refine .J ag48 ?_
  refine .P ?_
  refine .K underlying48 sz55 ?_
  refine .F fa55_0 ?_
  refine .M ag9 (Off.sees rfl rfl _ _ ⟨hbU, hhU⟩) (cell_of_take hru (k := 0) rfl) ?_
  refine .F fa50_4 ?_
  refine .J ag48 ?_
  refine .P ?_
  refine .K underlying48 sz55 ?_
  refine .F fa55_0 ?_
  refine .M ag9 (Off.sees rfl rfl _ _ ⟨hbW, hhW⟩) (cell_of_take hrw (k := 0) rfl) ?_
  iterate 2 refine .P ?_
  refine .splitB 130 rfl (fun hs_130 => ?_) (fun hs_130 => ?_)
  ·try simp only [nz] at hs_130
   have hnn : u.name ≠ w.name := by assumption
   iterate 16 refine .O ?_
   refine .P ?_
   refine .nil (.seq (.cond_true rfl (.seq (.region (.P ?_)))))
   refine .nil (.seq (.ret (.blk (.seq (.loop (.blk (.seq ?_)))))))
   exact .end_ rfl rfl (fun m hm => ⟨((false, M1), x1), ⟨EqA.stop hx_ hy_ hR0 hR.grown hR.bnd fun h => hnn ((h.ty hsnd hx_ hy_).arms.2 k u w hu_ hw_).1, hM1⟩, rfl, hm.sub (List.sublist_append_left _ _)⟩)
  try simp only [nz] at hs_130
  have hnn : u.name = w.name := by assumption
  iterate 2 refine .P ?_
  refine .F fa50_4 ?_
  refine .J ag48 ?_
  refine .P ?_
  refine .K underlying48 sz55 ?_
  refine .F fa55_1 ?_
  refine .M ag47 (Off.sees rfl rfl _ _ ⟨hbU, hhU⟩) (cell_of_take hru (k := 1) rfl) ?_
  refine .F fa50_4 ?_
  refine .J ag48 ?_
  refine .P ?_
  refine .K underlying48 sz55 ?_
  refine .F fa55_1 ?_
  refine .M ag47 (Off.sees rfl rfl _ _ ⟨hbW, hhW⟩) (cell_of_take hrw (k := 1) rfl) ?_
  refine .callc (fun y : CmpR => RelA l M1 (fun R => FldsR R u.fields w.fields) y.1 ∧ MetS l.length y.1.2 y.2) (fun y => .bool y.1.1) (fun y => PrH bp y.2) .here rfl rfl (by kernel_rfl) (by kernel_rfl) rfl rfl rfl rfl rfl rfl (fun m2 g0_ g2_ gb gr => rfields_ok (x0 := x1) g0_ g2_ hM1 hB1 (hlS.mono gb (RTy.mono gb)) hu1 ih (hfuS.mono gb fun _ _ h => h) (hfwS.mono gb fun _ _ h => h) (parts_ok_fld (hsnd a x_ hx_) fun f_ hf_ => parts_armf (List.mem_of_getElem? hu_) hf_) (parts_ok_fld (hsnd b_ y_ hy_) fun f_ hf_ => parts_armf (List.mem_of_getElem? hw_) hf_)) (fun y hy => ?_)
  refine .p rfl rfl rfl rfl rfl (.p rfl rfl rfl rfl rfl (.of (.nil (.seq (.cond rfl (fun ht147 => ?_) fun ht147 => ?_)))))
  ·obtain ⟨hy, hyM⟩ := hy
   have hyf : y.1.1 = false := by cases h_ : y.1.1 with | false => rfl | true => rw [h_] at ht147; cases ht147
   refine .seq (.region (.P ?_))
   refine .nil (.seq (.ret (.blk (.seq (.loop (.blk (.seq ?_)))))))
   exact .end_ rfl rfl (fun m hm => ⟨((false, y.1.2), y.2), ⟨EqA.stop hx_ hy_ hR0 (hR.grown.trans hy.grown) (fun h => hy.bnd (hR.bnd h)) fun h => hy.no hyf ((h.ty hsnd hx_ hy_).arms.2 k u w hu_ hw_).2, hyM⟩, rfl, hm.sub (List.sublist_append_left _ _)⟩)
  obtain ⟨hy, hyM⟩ := hy
  have hyt : y.1.1 = true := by cases h_ : y.1.1 with | true => rfl | false => rw [h_] at ht147; cases ht147
  refine .skip (.blk (.seq (.region (.P2 ?_))))
  refine .W 116 k ?_
  refine .P ?_
  refine .nil ?_
  exact .loop (k + 1, y.1.2, y.2) ⟨by omega, hR.moreR hy hyt (hR.all.succ hy.grown hu_ hw_ hnn (hy.yes hyt).2), hyM⟩ (by show x_.arms.length - (k + 1) < x_.arms.length - k; omega) ⟨rfl, rfl, rfl, rfl, rfl, trivial⟩ (.refl _)
 try simp only [nz] at ht114
 refine .exit (.seq (.loop (.here (.seq (.seq (.seq (.region (.F fa50_0 ?_))))))))
 refine .L ag3 ?_
 refine .P ?_
 refine .nil (.seq (.cond rfl (fun ht150 => ?_) fun ht150 => ?_))
 ·try simp only [nz] at ht150
  have hk13 : x_.kind = 13 := by omega
  refine .seq ?_
  refine .D [(13, 0), (13, 0), (15, 0), (3, 4), (7, 12), (12, 0), (0, 32), (7, 124), (7, 255), (15, 511)] (by kernel_rfl) (by kernel_rfl) (fun base hbase hB => ?_)
  iterate 2 refine .P ?_
  refine .F fa50_3 ?_
  refine .J ag47 ?_
  refine .calln _ _ _ rfl rfl rfl rfl rfl rfl rfl rfl rfl (fun m hm => sorted_ok hm.lole (hfSX.mono (fun b_ o_ h_ => Off.mem _ _ (Off.kr hm _ _ h_)) fun _ _ h => h) (by have := (hwl _ _ hx_).fields; omega)) (fun z1 hz1 => ?_)
  refine .F fa50_3 ?_
  refine .loadOld rfl rfl rfl rfl rfl rfl ag47 (.app (.app .head)) rfl (by first | exact hB _ _ (.head _) | exact hB _ _ (.tail _ (.head _)) | exact hB _ _ (.tail _ (.tail _ (.head _))) | exact hB _ _ (.tail _ (.tail _ (.tail _ (.head _)))) | exact hB _ _ (List.mem_append_right _ (.head _)) | exact hB _ _ (List.mem_append_right _ (.tail _ (.head _))) | exact Nat.lt_of_lt_of_le ‹_› hbase) ?_
  refine .calln _ _ _ rfl rfl rfl rfl rfl rfl rfl rfl rfl (fun m hm => sorted_ok hm.lole (hfSY.mono (fun b_ o_ h_ => Off.mem _ _ (Off.kr hm _ _ h_)) fun _ _ h => h) (by have := (hwl _ _ hy_).fields; omega)) (fun z2 hz2 => ?_)
  refine .callc (fun y : CmpR => RelA l M1 (fun R => FldsR R (sortF x_.fields) (sortF y_.fields)) y.1 ∧ MetS l.length y.1.2 y.2) (fun y => .bool y.1.1) (fun y => PrH bp y.2) (.over (.over .here)) rfl rfl (by kernel_rfl) (by kernel_rfl) rfl rfl rfl rfl rfl rfl (fun m2 g0_ g2_ gb gr => rfields_ok (x0 := x1) g0_ g2_ hM1 hB1 (hlS.mono gb (RTy.mono gb)) hu1 ih ((Gro.sl (el := 132) hz1.1 hz1.2 (by rw [sortF_len]; omega)).mono (fun b_ o_ h_ => gr b_ o_ (List.mem_append_right _ (List.mem_append_left _ h_))) fun _ _ h => h) ((Gro.sl (el := 132) hz2.1 hz2.2 (by rw [sortF_len]; omega)).mono (fun b_ o_ h_ => gr b_ o_ (List.mem_append_left _ h_)) fun _ _ h => h) (parts_ok_fld (hsnd a x_ hx_) fun f_ hf_ => parts_fldm ((sortF_perm _).mem_iff.1 hf_)) (parts_ok_fld (hsnd b_ y_ hy_) fun f_ hf_ => parts_fldm ((sortF_perm _).mem_iff.1 hf_))) (fun y hy => ?_)
  refine .p rfl rfl rfl rfl rfl (.of (.nil (.seq (.ret (.seq ?_)))))
  exact .end_ rfl rfl (fun m hm => ⟨y, ⟨EqA.last (P := True) hsnd hx_ hy_ hhd ⟨hR0.grown.trans hR.grown, fun h => hR.bnd (hR0.bnd h), hR0.closed.trans hR.closed hR.grown, trivial⟩ (hels.mono (InM.mono hR.grown)) (hR.all.all hhd.2.2.1 (by omega)) hy.1 (fun R => by rw [if_pos hk13]; exact sortF_rel (nodup_fields (hWl.all a x_ hx_)) (nodup_fields (hWl.all b_ y_ hy_))), hy.2⟩, rfl, hm.sub (List.sublist_append_left _ _)⟩)
 try simp only [nz] at ht150
 have hk13 : x_.kind ≠ 13 := by omega
 refine .skip (.seq (.seq (.region (.P2 ?_))))
 refine .F fa50_3 ?_
 refine .L ag47 ?_
 refine .F fa50_3 ?_
 refine .L ag47 ?_
 refine .callc (fun y : CmpR => RelA l M1 (fun R => FldsR R x_.fields y_.fields) y.1 ∧ MetS l.length y.1.2 y.2) (fun y => .bool y.1.1) (fun y => PrH bp y.2) .here rfl rfl rfl rfl rfl rfl (fun m2 k1_ g2_ => rfields_ok (x0 := x1) k1_.lole' g2_ hM1 hB1 (hlS.mono (Off.into k1_ (fun b_ h_ => (by rw [List.map_append]; exact List.mem_append_left _ h_))) (RTy.mono (Off.into k1_ (fun b_ h_ => (by rw [List.map_append]; exact List.mem_append_left _ h_))))) hu1 ih (hfSX.mono (Off.into k1_ (fun b_ h_ => (by rw [List.map_append]; exact List.mem_append_left _ h_))) fun _ _ h => h) (hfSY.mono (Off.into k1_ (fun b_ h_ => (by rw [List.map_append]; exact List.mem_append_left _ h_))) fun _ _ h => h) (parts_ok_fld (hsnd a x_ hx_) fun f_ hf_ => parts_fldm hf_) (parts_ok_fld (hsnd b_ y_ hy_) fun f_ hf_ => parts_fldm hf_)) (fun y hy => ?_)
 refine .P ?_
 refine .nil (.seq (.ret ?_))
 exact .end_ rfl rfl (fun m hm => ⟨y, ⟨EqA.last (P := True) hsnd hx_ hy_ hhd ⟨hR0.grown.trans hR.grown, fun h => hR.bnd (hR0.bnd h), hR0.closed.trans hR.closed hR.grown, trivial⟩ (hels.mono (InM.mono hR.grown)) (hR.all.all hhd.2.2.1 (by omega)) hy.1 (fun R => by rw [if_neg hk13]), hy.2⟩, rfl, hm.sub (List.sublist_append_left _ _)⟩)
theorem requal_all {l : List Ty} {al : Option Addr} {cl bp : Nat} (hW : Well l) (hwl : ∀ (i : Nat) (a : Ty), l[i]? = some a → FewT a) (hn14 : l.length ≤ 28) : ∀ (n a b : Nat), a < l.length → b < l.length → EqualR prog l al cl bp n a b
 | 0, _, _, _, _ => fun _ _ _ _ _ _ _ _ hlt => absurd hlt (Nat.not_lt_zero _)
 | n + 1, _, _, ha, hb => fun _ _ _ hm hk hM hB hl hn => requal_step (n := n) hm hk hM hB hl hn hW hwl hn14 ha hb (requal_all hW hwl hn14 n)
theorem Same_ok {l : List Ty} {vl : Value} {p q : Nat} {m : AW} (hm : m.lo ≤ m.next) (hlS : Sl (Mem m) 5 (RTy (Mem m)) l vl) (hwl : ∀ (i : Nat) (a : Ty), l[i]? = some a → FewT a) (hn14 : l.length ≤ 28) (hWl : Well l) (hp : p < l.length) (hq : q < l.length) : Fc prog 23 [vl, .int .i64 (Int.ofNat (p)), .int .i64 (Int.ofNat (q))] m fun v m' => ∃ z : Bool, (z = true ↔ EqT l p q) ∧ v = .bool z ∧ Ext m m' ∧ News m m' [] := by
 have hlS0 := hlS
 obtain ⟨al, cl, rfl, hnl, hl⟩ := hlS
 refine Fc.body (c := _) func23 rfl rfl rfl rfl hm ?_
 refine .seq (.region (.P ?_))
 refine .nil (.seq (.seq (.region ?_)))
 refine .p (v := .agg ⟨[.slice none 0 0]⟩) rfl rfl rfl (by kernel_rfl) ?_
 refine .box rfl rfl rfl rfl rfl (fun b9 hb9 => ?_)
 refine .P ?_
 refine .nil (.seq (.seq (.region ?_)))
 iterate 4 refine .P ?_
 refine .callc (l := PrH b9 (.no, [], [])) (fun y : CmpR => EqA l [] p q y.1 ∧ MetS l.length y.1.2 y.2) (fun y => .bool y.1.1) (fun y => PrH b9 y.2) .one rfl rfl rfl rfl rfl rfl (fun m2 k1 k2 => requal_all hWl hwl hn14 _ p q hp hq m2 (.no, [], []) [] k1.lole' k2 (MetS.nil _) (Bnd.nil l) (hlS0.mono (Off.old k1) (RTy.mono (Off.old k1))) (Nat.lt_succ_self _)) (fun y hy => ?_)
 refine .P ?_
 refine .nil (.seq (.ret ?_))
 exact .end_ rfl rfl (fun m hm => ⟨y.1.1, hy.1.top, rfl, hm.ext, News.nil _ _⟩)

/-! Tables whose types were moved. -/
def mvF (n : Nat) (f : Fld) : Fld := ⟨f.name, f.type + Int.ofNat n⟩
def mvA (n : Nat) (a : Arm) : Arm := ⟨a.name, a.fields.map (mvF n)⟩
def mvT (n : Nat) (t : Ty) : Ty := ⟨t.kind, t.elems.map (· + Int.ofNat n), t.name, t.fields.map (mvF n), t.arms.map (mvA n)⟩
theorem mv_wr {p : Int} {q n : Nat} (h : p = Int.ofNat q) (hq : q + n ≤ 9223372036854775807) : wr .i64 (p + Int.ofNat n) = p + Int.ofNat n := by
 subst h
 show (bif Nat.ble (q + n) 9223372036854775807 then Int.ofNat (q + n) else _) = _
 rw [nble, decide_eq_true hq]
 rfl
theorem mv_perm {G R : Hp} {x y : Nat × AObj} : (G ++ (x :: (y :: R))).Perm (y :: (G ++ (x :: R))) := by
 have h1 : (G ++ (x :: (y :: R))).Perm (x :: (y :: (G ++ R))) := List.perm_middle.trans (List.Perm.cons _ List.perm_middle)
 exact (h1.trans (List.Perm.swap _ _ _)).trans (List.Perm.cons _ List.perm_middle.symm)
theorem mv_perm3 {A B C D : Hp} {x y z : Nat × AObj} : (A ++ (x :: (B ++ (y :: (z :: (C ++ D)))))).Perm (x :: (y :: (z :: (A ++ ((B ++ C) ++ D))))) := by
 refine List.perm_middle.trans (List.Perm.cons _ ?_)
 rw [← List.append_assoc]
 refine List.perm_middle.trans (List.Perm.cons _ ?_)
 refine List.perm_middle.trans (List.Perm.cons _ ?_)
 exact List.Perm.of_eq (by simp [List.append_assoc])
def InR (L : List Fld) : Prop := ∀ (j : Nat) (f : Fld), L[j]? = some f → ∃ q : Nat, f.type = Int.ofNat q ∧ q < 1000
theorem map_take_succ {α β : Type} {f : α → β} {l : List α} {i : Nat} {x : α} (h : l[i]? = some x) : (l.take (i + 1)).map f = (l.take i).map f ++ [f x] := by
 rw [take_succ' h, List.map_append]
 rfl
theorem InR.parts {N : Nat} {t : Ty} (hb : badB N t = false) (hN : N ≤ 1000) {L : List Fld} (hL : ∀ x, x ∈ L → x.type ∈ partsL t) : InR L := fun j x hx => by
 obtain ⟨q, e, h⟩ := parts_ok_fld hb hL j x hx
 exact ⟨q, e, by omega⟩
theorem mv_sub {A B C D E : Hp} {x : Nat × AObj} : (A ++ (B ++ (C ++ D))).Sublist (x :: (A ++ (B ++ (C ++ (D ++ E))))) := by
 refine .cons _ ?_
 refine (List.Sublist.refl _).append ?_
 refine (List.Sublist.refl _).append ?_
 exact (List.Sublist.refl _).append (List.sublist_append_left _ _)
theorem mvd1_ok {L : List Fld} {vl : Value} {bn n : Nat} {m : AW} (hm : m.lo ≤ m.next) (hlS : Sl (Mem m) 2 RFld L vl) (hL : L.length ≤ 1000) (hin : InR L) (hn : n ≤ 1000) (hbn : Mem m bn (.cells [.int .i64 (Int.ofNat n)] 3 false .plain none)) : Fc prog 117 [vl, ptr bn] m fun v m' => ∃ z : Gro × List Value, (Flat 2 RFld (L.map (mvF n)) z.2 ∧ z.1.Ok (L.map (mvF n)).length) ∧ v = z.1.V (L.map (mvF n)).length ∧ Ext m m' ∧ News m m' (z.1.H 132 z.2) := by
 obtain ⟨aL, cL, rfl, hnL, hl⟩ := hlS
 refine Fc.body (c := _) func117 rfl rfl rfl rfl hm ?_
 refine .seq (.region (.P ?_))
 refine .nil (.seq (.seq (.region (.P ?_))))
 refine .nil (.seq (.seq (.seq (.region (.P ?_)))))
 refine .G (ln47 ..) ?_
 refine .P ?_
 refine .nil (.seq (.block ?_))
 refine .loop (α := Nat × Gro × List Value × List Fld) (fun q => [(1, ptr bn), (4, q.2.1.V q.2.2.2.length), (7, .slice aL L.length cL), (8, .int .i64 (Int.ofNat (L.length))), (9, .int .i64 (Int.ofNat (q.1)))]) (fun q => q.2.1.H 132 q.2.2.1) (fun q => q.1 ≤ L.length ∧ q.2.2.2 = (L.take q.1).map (mvF n) ∧ Flat 2 RFld q.2.2.2 q.2.2.1 ∧ q.2.1.Ok q.2.2.2.length) (fun q => L.length - q.1) (0, .no, [], []) ⟨Nat.zero_le _, rfl, Flat.nil, rfl⟩ ⟨rfl, rfl, rfl, rfl, rfl, trivial⟩ (List.nil_sublist _) (fun q hq0 => ?_)
 obtain ⟨i, g_, cs_, out⟩ := q
 obtain ⟨hi, he, hF, hO⟩ := hq0
 simp only at hi he hF hO
 have hlo : out.length = i := by rw [he, List.length_map, List.length_take]; omega
 refine .seq (.region (.P ?_))
 refine .nil (.seq (.seq (.cond rfl (fun ht10 => ?_) fun ht10 => ?_)))
 ·try simp only [nz] at ht10
  have hltA : i < L.length := by omega
  obtain ⟨f, hf⟩ := gx hltA
  obtain ⟨bA, offA, csA, elA, gA, mdA, mateA, rfl, ⟨hbA, hhA⟩, hleA, hcA⟩ := so hl hltA
  have hrf := hcA i f hf
  obtain ⟨qf, hqf, hql⟩ := hin i f hf
  refine .skip (.seq (.seq (.block (.seq (.region (.K underlying47 sz132 ?_))))))
  refine .A ag132 sz132 (.base hhA hbA (by simp)) hrf ?_
  refine .alloc rfl rfl rfl rfl zr132 (fun b6 hb6 => ?_)
  refine .S sz132 ?_
  refine .nil (.seq (.region (.P ?_)))
  refine .F fa132_0 ?_
  refine .L ag9 ?_
  refine .F fa132_1 ?_
  refine .L ag3 ?_
  refine .M ag3 (Mem.sees rfl rfl _ _ hbn) rfl ?_
  refine .P ?_
  refine .as 19 (.int .i64 (f.type + Int.ofNat n)) rfl (congrArg (Value.int .i64) (mv_wr hqf (by omega))) ?_
  refine .p (v := .agg ⟨[.string f.name, .int .i64 (f.type + Int.ofNat n)]⟩) rfl rfl rfl (by kernel_rfl) ?_
  refine .buildSlice rfl rfl rfl rfl rfl (bs47_1 ..) (fun b21 hb21 => ?_)
  refine .appendSl (R := RFld) (l0 := out) (l := [mvF n f]) (L := (out ++ [mvF n f])) (g := g_) (cs := cs_) rfl (.tail (.tail .all)) hF hO (Sl.single (R := RFld) (x := mvF n f) (b := b21) (c := 1) (el := 132) (g := false) (md := .plain) (mate := none) rfl rfl) ((InH.sees (by intro p_ hp_; rw [List.mem_singleton.1 hp_]; exact List.mem_cons_self))) RFld.flats (by simp; omega) rfl rfl rfl rfl underlying47 underlying47 ap132 rfl rfl (fun g1 cs1 hF1 hO1 => ?_)
  refine .P ?_
  refine .nil (.blk (.seq (.region (.P ?_))))
  refine .W 23 i ?_
  refine .P ?_
  refine .nil ?_
  exact .loop (i + 1, g1, cs1, out ++ [mvF n f]) ⟨hltA, by rw [he, map_take_succ hf], hF1, hO1⟩ (by show L.length - (i + 1) < L.length - i; omega) ⟨rfl, rfl, rfl, rfl, rfl, trivial⟩ (List.sublist_append_left _ _)
 try simp only [nz] at ht10
 have hie : i = L.length := by omega
 subst hie
 rw [List.take_length] at he
 subst he
 refine .exit (.seq (.loop (.here (.seq (.seq (.region (.P2 ?_)))))))
 refine .nil (.seq (.ret ?_))
 exact .end_ rfl rfl (fun m hm => ⟨(g_, cs_), ⟨hF, hO⟩, rfl, hm.ext, hm.news (.refl _)⟩)
theorem rmvd_ok {L : List Fld} {vl : Value} {n : Nat} {m : AW} (hm : m.lo ≤ m.next) (hlS : Sl (Mem m) 2 RFld L vl) (hL : L.length ≤ 1000) (hin : InR L) (hn : n ≤ 1000) : Fc prog 69 [vl, .int .i64 (Int.ofNat (n))] m fun v m' => ∃ z : Gro × List Value, (Flat 2 RFld (L.map (mvF n)) z.2 ∧ z.1.Ok (L.map (mvF n)).length) ∧ v = z.1.V (L.map (mvF n)).length ∧ Ext m m' ∧ News m m' (z.1.H 132 z.2) := by
 obtain ⟨aL, cL, rfl, hnL, hl⟩ := hlS
 refine Fc.body (c := _) func69 rfl rfl rfl rfl hm ?_
 refine .seq (.region (.P ?_))
 refine .nil (.seq (.seq (.region (.P ?_))))
 refine .nil (.seq (.seq (.seq (.region (.P ?_)))))
 refine .nil (.seq (.block ?_))
 refine .loop (α := Nat × Gro × List Value × List Fld) (fun q => [(0, .slice aL L.length cL), (1, .int .i64 (Int.ofNat (n))), (5, q.2.1.V q.2.2.2.length), (6, .int .i64 (Int.ofNat (q.1)))]) (fun q => q.2.1.H 132 q.2.2.1) (fun q => q.1 ≤ L.length ∧ q.2.2.2 = (L.take q.1).map (mvF n) ∧ Flat 2 RFld q.2.2.2 q.2.2.1 ∧ q.2.1.Ok q.2.2.2.length) (fun q => L.length - q.1) (0, .no, [], []) ⟨Nat.zero_le _, rfl, Flat.nil, rfl⟩ ⟨rfl, rfl, rfl, rfl, trivial⟩ (List.nil_sublist _) (fun q hq0 => ?_)
 obtain ⟨i, g_, cs_, out⟩ := q
 obtain ⟨hi, he, hF, hO⟩ := hq0
 simp only at hi he hF hO
 have hlo : out.length = i := by rw [he, List.length_map, List.length_take]; omega
 refine .seq (.seq (.region (.P2 ?_)))
 refine .G (ln47 ..) ?_
 refine .P ?_
 refine .nil (.seq (.cond rfl (fun ht10 => ?_) fun ht10 => ?_))
 ·try simp only [nz] at ht10
  have hltA : i < L.length := by omega
  obtain ⟨f, hf⟩ := gx hltA
  obtain ⟨bA, offA, csA, elA, gA, mdA, mateA, rfl, ⟨hbA, hhA⟩, hleA, hcA⟩ := so hl hltA
  have hrf := hcA i f hf
  obtain ⟨qf, hqf, hql⟩ := hin i f hf
  refine .skip (.seq (.seq (.block ?_)))
  refine .D [(15, 0), (15, 0), (15, 0), (15, 6), (15, 14), (3, 30), (15, 0), (15, 0), (15, 192), (15, 448), (3, 960), (15, 0), (15, 4032), (15, 8190), (11, 16382), (7, 32767), (15, 65535)] (by kernel_rfl) (by kernel_rfl) (fun base hbase hB => ?_)
  iterate 3 refine .P ?_
  refine .K underlying47 sz132 ?_
  refine .F fa132_0 ?_
  refine .M ag9 (.base hhA hbA (by simp)) (cell_of_take hrf (k := 0) rfl) ?_
  iterate 2 refine .P ?_
  refine .K underlying47 sz132 ?_
  refine .F fa132_1 ?_
  refine .M ag3 (.base hhA hbA (by simp)) (cell_of_take hrf (k := 1) rfl) ?_
  iterate 2 refine .P ?_
  refine .as 25 (.int .i64 (f.type + Int.ofNat n)) rfl (congrArg (Value.int .i64) (mv_wr hqf (by omega))) ?_
  refine .p (v := .agg ⟨[.string f.name, .int .i64 (f.type + Int.ofNat n)]⟩) rfl rfl rfl rfl (by kernel_rfl) ?_
  refine .buildSlice rfl rfl rfl rfl rfl rfl (bs47_1 ..) (fun b27 hn27 hb27 => ?_)
  refine .appendSl (R := RFld) (l0 := out) (l := [mvF n f]) (L := (out ++ [mvF n f])) (g := g_) (cs := cs_) rfl (.tail .all) hF hO (Sl.single (R := RFld) (x := mvF n f) (b := b27) (c := 1) (el := 132) (g := false) (md := .plain) (mate := none) rfl rfl) ((InH.sees (by intro p_ hp_; rw [List.mem_singleton.1 hp_]; exact List.mem_cons_self))) RFld.flats (by simp; omega) rfl rfl (by kernel_rfl) (by kernel_rfl) rfl rfl rfl rfl underlying47 underlying47 ap132 rfl rfl (fun g1 cs1 hF1 hO1 => ?_)
  refine .P ?_
  refine .nil (.blk (.seq (.region (.P2 ?_))))
  refine .W 12 i ?_
  refine .P ?_
  refine .nil ?_
  exact .loop (i + 1, g1, cs1, out ++ [mvF n f]) ⟨hltA, by rw [he, map_take_succ hf], hF1, hO1⟩ (by show L.length - (i + 1) < L.length - i; omega) ⟨rfl, rfl, rfl, rfl, trivial⟩ (List.sublist_append_left _ _)
 try simp only [nz] at ht10
 have hie : i = L.length := by omega
 subst hie
 rw [List.take_length] at he
 subst he
 refine .exit (.seq (.loop (.here (.seq (.seq (.region (.P2 ?_)))))))
 refine .nil (.seq (.ret ?_))
 exact .end_ rfl rfl (fun m hm => ⟨(g_, cs_), ⟨hF, hO⟩, rfl, hm.ext, hm.news (.refl _)⟩)
theorem mvd_ok {t : Ty} {cs : List Value} {n N : Nat} {m : AW} (hm : m.lo ≤ m.next) (ht : RTy (Mem m) t cs) (hw : FewT t) (hbd : badB N t = false) (hN : N ≤ 1000) (hn : n ≤ 1000) : Fc prog 68 [.agg ⟨cs⟩, .int .i64 (Int.ofNat (n))] m fun v m' => ∃ x : Hp × List Value, RTy (InH x.1) (mvT n t) x.2 ∧ v = .agg ⟨x.2⟩ ∧ Ext m m' ∧ News m m' x.1 := by
 obtain ⟨ve, vf, va, rfl, he, hf, ha⟩ := ht
 have heS := he
 have hfS := hf
 have haS := ha
 obtain ⟨ae, ce, rfl, hne, he⟩ := he
 obtain ⟨af, cf, rfl, hnf, hf⟩ := hf
 obtain ⟨aa, ca, rfl, hna, ha⟩ := ha
 have k1 := hw.elems
 have k2 := hw.fields
 have k3 := hw.arms
 refine Fc.body (c := _) func68 rfl rfl rfl rfl hm ?_
 refine .seq (.region ?_)
 refine .box rfl rfl rfl rfl rfl (fun b2 hb2 => ?_)
 refine .box rfl rfl rfl rfl rfl (fun b3 hb3 => ?_)
 refine .alloc rfl rfl rfl rfl zr50 (fun b4 hb4 => ?_)
 refine .nil (.seq (.seq (.region (.P2 ?_))))
 refine .nil (.seq (.seq ?_))
 refine .D [(13, 0), (1, 1), (13, 0), (1, 4), (15, 0), (15, 0), (3, 32), (7, 112), (15, 255), (8, 0), (7, 1023)] (by kernel_rfl) (by kernel_rfl) (fun base hbase hB => ?_)
 refine .F fa50_0 ?_
 refine .R ag3 hB ?_
 refine .F fa50_2 ?_
 refine .R ag9 hB ?_
 refine .P ?_
 refine .F fa50_3 ?_
 refine .J ag47 ?_
 refine .calln _ _ _ rfl rfl rfl rfl rfl rfl rfl rfl rfl (fun m hm => mvd1_ok (n := n) hm.lole (hfS.mono (Mem.kr hm) fun _ _ h => h) (by omega) (InR.parts hbd hN fun x_ hx_ => parts_fldm hx_) hn (⟨(hm.has b3 _ (.tail _ (.head _))).2, (hm.has b3 _ (.tail _ (.head _))).1⟩ : Mem m b3 _)) (fun z hz => ?_)
 obtain ⟨zg, zc⟩ := z
 obtain ⟨hzF, hzO⟩ := hz
 simp only at hzF hzO
 have hS2 := Gro.sl (el := 132) hzF hzO (by first | omega | (simp; omega))
 obtain ⟨a2, c2, hh19, -, -⟩ := id hS2
 rw [hh19] at hS2
 refine .as 19 (.slice a2 (t.fields.map (mvF n)).length c2) rfl hh19 ?_
 refine .p (v := .agg ⟨[.int .i64 t.kind, .slice none 0 0, .string t.name, .slice a2 (t.fields.map (mvF n)).length c2, .slice none 0 0]⟩) rfl rfl rfl rfl (by kernel_rfl) ?_
 refine .alloc rfl rfl rfl rfl rfl zr50 (fun b6 hn6 hb6 => ?_)
 refine .store rfl rfl (by kernel_rfl) (by kernel_rfl) rfl rfl rfl rfl rfl sz50 rfl (by first | exact .head | exact .tail .head | exact .tail (.tail .head) | exact .tail (.tail (.tail .head)) | exact updo) rfl ?_
 refine .nil (.seq (.seq (.seq (.region (.F fa50_1 ?_)))))
 refine .M ag32 (.tail (.app (.tail (.tail .head)))) rfl ?_
 refine .G (ln32 ..) ?_
 refine .P ?_
 refine .nil (.seq (.block ?_))
 refine .loop (α := Nat × Gro × List Value × List Int × Value) (fun q => [(2, ptr b2), (3, ptr b3), (4, ptr b4), (5, .func (.func 117) ⟨[]⟩ ⟨[ptr b3]⟩), (6, ptr b6), (22, .slice ae t.elems.length ce), (23, .int .i64 (Int.ofNat (t.elems.length))), (24, .int .i64 (Int.ofNat (q.1)))]) (fun q => (b6, .cells [.int .i64 t.kind, q.2.2.2.2, .string t.name, .slice a2 (t.fields.map (mvF n)).length c2, .slice none 0 0] 50 false .plain none) :: (q.2.1.H 3 q.2.2.1 ++ (zg.H 132 zc ++ [(b4, .cells [.int .i64 0, .slice none 0 0, .string ⟨⟨[]⟩⟩, .slice none 0 0, .slice none 0 0] 50 false .plain none), (b3, .cells [.int .i64 (Int.ofNat n)] 3 false .plain none), (b2, .cells [.int .i64 t.kind, .slice ae t.elems.length ce, .string t.name, .slice af t.fields.length cf, .slice aa t.arms.length ca] 50 false .plain none)]))) (fun q => q.1 ≤ t.elems.length ∧ q.2.2.2.1 = (t.elems.take q.1).map (· + Int.ofNat n) ∧ Flat 1 RInt q.2.2.2.1 q.2.2.1 ∧ q.2.1.Ok q.2.2.2.1.length ∧ q.2.2.2.2 = q.2.1.V q.2.2.2.1.length) (fun q => t.elems.length - q.1) (0, .no, [], [], .slice none 0 0) ⟨Nat.zero_le _, rfl, Flat.nil, rfl, rfl⟩ ⟨rfl, rfl, rfl, rfl, rfl, rfl, rfl, rfl, trivial⟩ (.refl _) (fun q hq0 => ?_)
 obtain ⟨i, g_, cs_, out, w⟩ := q
 obtain ⟨hi, hout, hF, hO, hwE⟩ := hq0
 simp only at hi hout hF hO hwE
 have hlo : out.length = i := by rw [hout, List.length_map, List.length_take]; omega
 refine .seq (.region (.P ?_))
 refine .nil (.seq (.seq (.cond rfl (fun ht25 => ?_) fun ht25 => ?_)))
 ·try simp only [nz] at ht25
  have hltE : i < t.elems.length := by omega
  obtain ⟨p, hp0⟩ := gx hltE
  obtain ⟨bE, offE, csE, elE, gE, mdE, mateE, rfl, ⟨hbE, hhE⟩, hleE, hcE⟩ := so he hltE
  have hrp := hcE i p hp0
  obtain ⟨qp, hqp, hqpl⟩ := parts_in hbd (parts_elem hp0)
  refine .skip (.seq (.seq (.block (.seq (.region (.K underlying32 sz3 ?_))))))
  refine .M ag3 (.base hhE hbE (by simp)) (cell_of_take hrp (k := 0) rfl) ?_
  refine .P ?_
  refine .nil (.seq (.region (.F fa50_1 ?_)))
  refine .L ag32 ?_
  refine .as 29 (g_.V out.length) rfl hwE ?_
  refine .P ?_
  refine .M ag3 (.tail (.app (.app (.tail .head)))) rfl ?_
  refine .P ?_
  refine .as 32 (.int .i64 (p + Int.ofNat n)) rfl (congrArg (Value.int .i64) (mv_wr hqp (by omega))) ?_
  refine .buildSlice rfl rfl rfl rfl rfl (bs32_1 ..) (fun b33 hb33 => ?_)
  refine .appendSl (R := RInt) (l0 := out) (l := [p + Int.ofNat n]) (L := (out ++ [p + Int.ofNat n])) (g := g_) (cs := cs_) rfl (.tail (.tail .here)) hF hO (Sl.single (R := RInt) (x := p + Int.ofNat n) (b := b33) (c := 1) (el := 3) (g := false) (md := .plain) (mate := none) rfl rfl) ((InH.sees (by intro p_ hp_; rw [List.mem_singleton.1 hp_]; exact List.mem_cons_self))) RInt.flats (by simp; omega) rfl rfl rfl rfl underlying32 underlying32 ap3 rfl rfl (fun g5 cs5 hF5 hO5 => ?_)
  obtain ⟨a5, c5, hw5⟩ := Gro.len hO5
  refine .as 34 (.slice a5 (out ++ [p + Int.ofNat n]).length c5) rfl hw5 ?_
  refine .F fa50_1 ?_
  refine .store rfl rfl rfl rfl rfl sz32 rfl (Upd.app (.tail .head)) rfl ?_
  refine .nil (.blk (.seq (.region (.P ?_))))
  refine .W 36 i ?_
  refine .P ?_
  refine .nil (.swap mv_perm ?_)
  exact .loop (i + 1, g5, cs5, out ++ [p + Int.ofNat n], _) ⟨by omega, by rw [hout]; exact (map_take_succ (f := (· + Int.ofNat n)) hp0).symm, hF5, hO5, hw5.symm⟩ (by show t.elems.length - (i + 1) < t.elems.length - i; omega) ⟨rfl, rfl, rfl, rfl, rfl, rfl, rfl, rfl, trivial⟩ (.cons_cons _ ((List.Sublist.refl _).append (.cons _ (.refl _))))
 try simp only [nz] at ht25
 have hie : i = t.elems.length := by omega
 subst hie
 rw [List.take_length] at hout
 subst hout
 have hSe : Sl (InH (g_.H 3 cs_)) 1 RInt (t.elems.map (· + Int.ofNat n)) w := by rw [hwE]; exact Gro.sl hF hO (by simp; omega)
 obtain ⟨a7, c7, rfl, -, -⟩ := id hSe
 refine .exit (.seq (.loop (.here (.seq (.seq (.seq (.region (.F fa50_4 ?_))))))))
 refine .M ag48 (.tail (.app (.app (.tail (.tail .head))))) rfl ?_
 refine .G (ln48 ..) ?_
 refine .P ?_
 refine .nil (.seq (.block ?_))
 refine .loop (α := Nat × Gro × List Value × List Arm × Hp × Value) (fun q => [(2, ptr b2), (3, ptr b3), (4, ptr b4), (5, .func (.func 117) ⟨[]⟩ ⟨[ptr b3]⟩), (6, ptr b6), (38, .slice aa t.arms.length ca), (39, .int .i64 (Int.ofNat (t.arms.length))), (40, .int .i64 (Int.ofNat (q.1)))]) (fun q => (b6, .cells [.int .i64 t.kind, .slice a7 (t.elems.map (· + Int.ofNat n)).length c7, .string t.name, .slice a2 (t.fields.map (mvF n)).length c2, q.2.2.2.2.2] 50 false .plain none) :: (q.2.1.H 55 q.2.2.1 ++ (q.2.2.2.2.1 ++ (g_.H 3 cs_ ++ (zg.H 132 zc ++ [(b4, .cells [.int .i64 0, .slice none 0 0, .string ⟨⟨[]⟩⟩, .slice none 0 0, .slice none 0 0] 50 false .plain none), (b3, .cells [.int .i64 (Int.ofNat n)] 3 false .plain none), (b2, .cells [.int .i64 t.kind, .slice ae t.elems.length ce, .string t.name, .slice af t.fields.length cf, .slice aa t.arms.length ca] 50 false .plain none)]))))) (fun q => q.1 ≤ t.arms.length ∧ q.2.2.2.1 = (t.arms.take q.1).map (mvA n) ∧ Flat 2 (RArm (InH q.2.2.2.2.1)) q.2.2.2.1 q.2.2.1 ∧ q.2.1.Ok q.2.2.2.1.length ∧ q.2.2.2.2.2 = q.2.1.V q.2.2.2.1.length) (fun q => t.arms.length - q.1) (0, .no, [], [], [], .slice none 0 0) ⟨Nat.zero_le _, rfl, Flat.nil, rfl, rfl⟩ ⟨rfl, rfl, rfl, rfl, rfl, rfl, rfl, rfl, trivial⟩ (.refl _) (fun q hq0 => ?_)
 obtain ⟨k, g3, cs3, L3, F2, wa⟩ := q
 obtain ⟨hk, hL3, hF3, hO3, hw3⟩ := hq0
 simp only at hk hL3 hF3 hO3 hw3
 have hL3l : L3.length = k := by rw [hL3, List.length_map, List.length_take]; omega
 refine .seq (.region (.P ?_))
 refine .nil (.seq (.seq (.cond rfl (fun ht41 => ?_) fun ht41 => ?_)))
 ·try simp only [nz] at ht41
  have hltX : k < t.arms.length := by omega
  obtain ⟨x, hx⟩ := gx hltX
  obtain ⟨bX, offX, csX, elX, gX, mdX, mateX, rfl, ⟨hbX, hhX⟩, hleX, hcX⟩ := so ha hltX
  have hrx := hcX k x hx
  obtain ⟨vx, hrx, hxS⟩ := hrx
  obtain ⟨axf, cxf, rfl, hnxf, hxf⟩ := id hxS
  have k4 := hw.afields k x hx
  refine .skip (.seq (.seq (.block (.seq (.region (.K underlying48 sz55 ?_))))))
  refine .A ag55 sz55 (.base hhX hbX (by simp)) hrx ?_
  refine .alloc rfl rfl rfl rfl zr55 (fun b10 hb10 => ?_)
  refine .S sz55 ?_
  refine .nil (.seq ?_)
  refine .D [(13, 0), (1, 1), (13, 0), (1, 4), (15, 0), (15, 0), (3, 32), (7, 112), (15, 252), (11, 508), (7, 1023), (15, 2047), (7, 4095)] (by kernel_rfl) (by kernel_rfl) (fun base hbase hB => ?_)
  refine .F fa50_4 ?_
  refine .R ag48 hB ?_
  refine .as 45 (g3.V L3.length) rfl hw3 ?_
  refine .F fa55_0 ?_
  refine .R ag9 hB ?_
  refine .P ?_
  refine .F fa55_1 ?_
  refine .J ag47 ?_
  refine .calln _ _ _ rfl rfl rfl rfl rfl rfl rfl rfl rfl (fun m hm => mvd1_ok (n := n) hm.lole (hxS.mono (Mem.kr hm) fun _ _ h => h) (by omega) (InR.parts hbd hN fun x_ hx_ => parts_armf (List.mem_of_getElem? hx) hx_) hn (⟨(hm.has b3 _ (.tail _ (.tail _ (List.mem_append_right _ (List.mem_append_right _ (List.mem_append_right _ (List.mem_append_right _ (.tail _ (.head _))))))))).2, (hm.has b3 _ (.tail _ (.tail _ (List.mem_append_right _ (List.mem_append_right _ (List.mem_append_right _ (List.mem_append_right _ (.tail _ (.head _))))))))).1⟩ : Mem m b3 _)) (fun z4 hz4 => ?_)
  obtain ⟨z4g, z4c⟩ := z4
  obtain ⟨hz4F, hz4O⟩ := hz4
  simp only at hz4F hz4O
  have hS4 := Gro.sl (el := 132) hz4F hz4O (by first | omega | (simp; omega))
  obtain ⟨a4, c4, hh51, -, -⟩ := id hS4
  rw [hh51] at hS4
  refine .as 51 (.slice a4 (x.fields.map (mvF n)).length c4) rfl hh51 ?_
  refine .p (v := .agg ⟨[.string x.name, .slice a4 (x.fields.map (mvF n)).length c4]⟩) rfl rfl rfl rfl (by kernel_rfl) ?_
  refine .buildSlice rfl rfl rfl rfl rfl rfl (bs48_1 ..) (fun b53 hn53 hb53 => ?_)
  refine .appendSl (R := RArm (InH (z4g.H 132 z4c ++ F2))) (l0 := L3) (l := [mvA n x]) (L := (L3 ++ [mvA n x])) (g := g3) (cs := cs3) rfl (.tail (.over (.tail (.tail .here)))) (flat_mono hF3 (RArm.mono inB)) hO3 (Sl.single (R := RArm (InH (z4g.H 132 z4c ++ F2))) (x := mvA n x) (b := b53) (c := 1) (el := 55) (g := false) (md := .plain) (mate := none) ⟨_, rfl, hS4.mono inA fun _ _ h => h⟩ rfl) ((InH.sees (by intro p_ hp_; rw [List.mem_singleton.1 hp_]; exact List.mem_cons_self))) RArm.flats (by simp; omega) rfl rfl (by kernel_rfl) (by kernel_rfl) rfl rfl rfl rfl underlying48 underlying48 ap55 rfl rfl (fun g6 cs6 hF6 hO6 => ?_)
  obtain ⟨a6, c6, hw6⟩ := Gro.len hO6
  refine .as 54 (.slice a6 (L3 ++ [mvA n x]).length c6) rfl hw6 ?_
  refine .F fa50_4 ?_
  refine .store rfl rfl (by kernel_rfl) (by kernel_rfl) rfl rfl rfl rfl rfl sz48 rfl (Upd.app (.tail (Upd.app (.tail .head)))) rfl ?_
  refine .nil (.blk (.seq (.region (.P ?_))))
  refine .W 56 k ?_
  refine .P ?_
  refine .nil (.swap mv_perm3 ?_)
  exact .loop (k + 1, g6, cs6, L3 ++ [mvA n x], z4g.H 132 z4c ++ F2, _) ⟨by omega, by rw [hL3]; exact (map_take_succ hx).symm, hF6, hO6, hw6.symm⟩ (by show t.arms.length - (k + 1) < t.arms.length - k; omega) ⟨rfl, rfl, rfl, rfl, rfl, rfl, rfl, rfl, trivial⟩ (.cons _ (.cons _ (.refl _)))
 try simp only [nz] at ht41
 have hke : k = t.arms.length := by omega
 subst hke
 rw [List.take_length] at hL3
 subst hL3
 have hSa : Sl (InH (g3.H 55 cs3)) 2 (RArm (InH F2)) (t.arms.map (mvA n)) wa := by rw [hw3]; exact Gro.sl hF3 hO3 (by simp; omega)
 obtain ⟨a8, c8, rfl, -, -⟩ := id hSa
 refine .exit (.seq (.loop (.here (.seq (.seq (.region (.E ag50 sz50 ?_)))))))
 refine .store rfl rfl rfl rfl rfl sz50 rfl (.tail (Upd.app (Upd.app (Upd.app (Upd.app .head))))) rfl ?_
 refine .nil (.seq (.ret ?_))
 refine .endH rfl (.agg rfl ag50 sz50 (by exact .tail (.app (.app (.app (.app .head))))) (by exact Nat.le_of_ble_eq_true rfl) rfl .nil) ?_
 exact fun m hm => ⟨(g3.H 55 cs3 ++ (F2 ++ (g_.H 3 cs_ ++ zg.H 132 zc)), [.int .i64 t.kind, .slice a7 (t.elems.map (· + Int.ofNat n)).length c7, .string t.name, .slice a2 (t.fields.map (mvF n)).length c2, .slice a8 (t.arms.map (mvA n)).length c8]), ⟨_, _, _, rfl, hSe.mono (fun b o h => inB b o (inB b o (inA b o h))) fun _ _ h => h, hS2.mono (fun b o h => inB b o (inB b o (inB b o h))) fun _ _ h => h, hSa.mono inA (RArm.mono fun b o h => inB b o (inA b o h))⟩, rfl, hm.ext, hm.news mv_sub⟩

/-! A table behind another one. -/
def joinL (l l2 : List Ty) : List Ty := l ++ l2.map (mvT l.length)
theorem joinL_len (l l2 : List Ty) : (joinL l l2).length = l.length + l2.length := by simp [joinL]
theorem joinL_left {l l2 : List Ty} {i : Nat} (h : i < l.length) : (joinL l l2)[i]? = l[i]? := List.getElem?_append_left h
theorem joinL_right {l l2 : List Ty} {i : Nat} : (joinL l l2)[l.length + i]? = (l2[i]?).map (mvT l.length) := by
 unfold joinL
 rw [List.getElem?_append_right (by omega), Nat.add_sub_cancel_left, List.getElem?_map]
theorem joinL_cases {l l2 : List Ty} {i : Nat} {x : Ty} (h : (joinL l l2)[i]? = some x) : (i < l.length ∧ l[i]? = some x) ∨ ∃ j y, i = l.length + j ∧ l2[j]? = some y ∧ x = mvT l.length y := by
 by_cases hi : i < l.length
 ·rw [joinL_left hi] at h
  exact .inl ⟨hi, h⟩
 obtain ⟨j, rfl⟩ : ∃ j, i = l.length + j := ⟨i - l.length, by omega⟩
 rw [joinL_right] at h
 cases hy : l2[j]? with
 | none => rw [hy] at h; cases h
 | some y =>
  rw [hy] at h
  cases h
  exact .inr ⟨j, y, rfl, hy, rfl⟩
theorem mvF_names (n : Nat) (L : List Fld) : fnames (L.map (mvF n)) = fnames L := by
 unfold fnames
 rw [List.map_map]
 rfl
theorem mvA_names (n : Nat) (L : List Arm) : anames (L.map (mvA n)) = anames L := by
 unfold anames
 rw [List.map_map]
 rfl
theorem mvF_types (n : Nat) (L : List Fld) : ftypes (L.map (mvF n)) = (ftypes L).map (· + Int.ofNat n) := by
 unfold ftypes
 rw [List.map_map, List.map_map]
 rfl
theorem mvA_fields (n : Nat) (L : List Arm) : afields (L.map (mvA n)) = (afields L).map (mvF n) := by
 unfold afields
 induction L with
 | nil => rfl
 | cons a L ih =>
  rw [List.map_cons, List.flatMap_cons, List.flatMap_cons, List.map_append, ih]
  rfl
theorem mvT_parts (n : Nat) (t : Ty) : partsL (mvT n t) = (partsL t).map (· + Int.ofNat n) := by
 unfold partsL mvT
 simp only [mvF_types, mvA_fields, List.map_append]
theorem mvT_bad {m n N : Nat} {t : Ty} (h : badB m t = false) (hN : n + m ≤ N) : badB N (mvT n t) = false := by
 refine bad_no fun j p _ hp => ?_
 rw [mvT_parts, List.getElem?_map] at hp
 cases hq : (partsL t)[j]? with
 | none => rw [hq] at hp; cases hp
 | some p0 =>
  rw [hq] at hp
  cases hp
  obtain ⟨q, rfl, hql⟩ := parts_in h hq
  simp only [Int.ofNat_eq_natCast]
  omega
theorem bad_mono {m N : Nat} {t : Ty} (h : badB m t = false) (hN : m ≤ N) : badB N t = false := by
 refine bad_no fun j p _ hp => ?_
 obtain ⟨q, rfl, hql⟩ := parts_in h hp
 simp only [Int.ofNat_eq_natCast]
 omega
theorem mvT_named (n : Nat) (t : Ty) : namedB (mvT n t) = namedB t := by
 have h1 : headB (mvT n t) = headB t := rfl
 unfold namedB
 rw [h1]
 congr 2
 ·show (t.fields.map (mvF n)).all _ = _
  rw [List.all_map]
  rfl
 show (t.arms.map (mvA n)).all _ = _
 rw [List.all_map]
 congr 1
 funext a
 show armB (mvA n a) = armB a
 unfold armB
 congr 1
 show (a.fields.map (mvF n)).all _ = _
 rw [List.all_map]
 rfl
theorem mvT_twice (n : Nat) (t : Ty) : twiceB (mvT n t) = twiceB t := by
 unfold twiceB mvT
 simp only [mvF_names, mvA_names]
 congr 2
 rw [List.any_map]
 congr 1
 funext a
 show dupB (fnames (t.fields.map (mvF n) ++ a.fields.map (mvF n))) = _
 rw [← List.map_append, mvF_names]
theorem mvT_shaped (n : Nat) (t : Ty) : shapedB (mvT n t) = shapedB t := by
 unfold shapedB mvT
 simp only [List.length_map]
theorem single_of {n : Nat} {t : Ty} (h1 : shapedB t = true) (h2 : badB n t = false) (h3 : namedB t = true) (h4 : twiceB t = false) (h5 : 0 ≤ t.kind) (h6 : t.kind ≤ 14) : singleE n t = 0 := by
 unfold singleE
 rw [if_neg (by omega), if_neg (by rw [h1]; decide), if_neg (by rw [h2]; decide), if_neg (by rw [h3]; decide), if_neg (by rw [h4]; decide)]
theorem Well.join {l l2 : List Ty} (h : Well l) (h2 : Well l2) : Well (joinL l l2) := ⟨fun i x hx => by
 rw [joinL_len]
 rcases joinL_cases hx with ⟨_, hx⟩ | ⟨j, y, _, hy, rfl⟩
 ·obtain ⟨a1, a2, a3, a4, a5, a6⟩ := single_zero (h.all i x hx)
  exact single_of a1 (bad_mono a2 (by omega)) a3 a4 a5 a6
 obtain ⟨a1, a2, a3, a4, a5, a6⟩ := single_zero (h2.all j y hy)
 exact single_of (by rw [mvT_shaped]; exact a1) (mvT_bad a2 (by omega)) (by rw [mvT_named]; exact a3) (by rw [mvT_twice]; exact a4) a5 a6⟩
theorem FewT.mv {n : Nat} {t : Ty} (h : FewT t) : FewT (mvT n t) where
 elems := by have := h.elems; simpa [mvT] using this
 fields := by have := h.fields; simpa [mvT] using this
 arms := by have := h.arms; simpa [mvT] using this
 name := h.name
 fname := fun j x hx => by
  have hx : (t.fields.map (mvF n))[j]? = some x := hx
  rw [List.getElem?_map] at hx
  cases hy : t.fields[j]? with
  | none => rw [hy] at hx; cases hx
  | some y =>
   rw [hy] at hx
   cases hx
   exact h.fname j y hy
 aname := fun j x hx => by
  have hx : (t.arms.map (mvA n))[j]? = some x := hx
  rw [List.getElem?_map] at hx
  cases hy : t.arms[j]? with
  | none => rw [hy] at hx; cases hx
  | some y =>
   rw [hy] at hx
   cases hx
   exact h.aname j y hy
 afields := fun j x hx => by
  have hx : (t.arms.map (mvA n))[j]? = some x := hx
  rw [List.getElem?_map] at hx
  cases hy : t.arms[j]? with
  | none => rw [hy] at hx; cases hx
  | some y =>
   rw [hy] at hx
   cases hx
   have := h.afields j y hy
   simpa [mvA] using this
 afname := fun j x hx k y hy => by
  have hx : (t.arms.map (mvA n))[j]? = some x := hx
  rw [List.getElem?_map] at hx
  cases hz : t.arms[j]? with
  | none => rw [hz] at hx; cases hx
  | some z =>
   rw [hz] at hx
   cases hx
   have hy : (z.fields.map (mvF n))[k]? = some y := hy
   rw [List.getElem?_map] at hy
   cases hu : z.fields[k]? with
   | none => rw [hu] at hy; cases hy
   | some u =>
    rw [hu] at hy
    cases hy
    exact h.afname j z hz k u hu
theorem few_join {l l2 : List Ty} (h : ∀ (i : Nat) (a : Ty), l[i]? = some a → FewT a) (h2 : ∀ (i : Nat) (a : Ty), l2[i]? = some a → FewT a) : ∀ (i : Nat) (a : Ty), (joinL l l2)[i]? = some a → FewT a := fun i a ha => by
 rcases joinL_cases ha with ⟨_, ha⟩ | ⟨j, y, _, hy, rfl⟩
 ·exact h i a ha
 exact (h2 j y hy).mv
abbrev KJ (F : Hp) (K0 : Kn) : Kn := fun b o => InH F b o ∨ K0 b o
theorem KJ.mono {F F' : Hp} {K0 : Kn} (k : ∀ b o, InH F b o → InH F' b o) : ∀ b o, KJ F K0 b o → KJ F' K0 b o := fun b o h => h.imp (k b o) id
theorem join_fin {F : Hp} {K0 : Kn} {L : List Ty} {g : Gro} {cs : List Value} (hF : Flat 5 (RTy (KJ F K0)) L cs) (hO : g.Ok L.length) (hl : L.length ≤ 9223372036854775807) : Sl (KJ (g.H 50 cs ++ F) K0) 5 (RTy (KJ (g.H 50 cs ++ F) K0)) L (g.V L.length) :=
 (Gro.sl hF hO hl).mono (fun b o h => .inl (List.mem_append_left _ h)) (RTy.mono (KJ.mono inB))
theorem RTy.flats {K : Kn} : ∀ x cs, RTy K x cs → flats cs = true := by
 rintro x cs ⟨ve, vf, va, rfl, ⟨ae, ce, rfl, _⟩, ⟨af, cf, rfl, _⟩, ⟨aa, ca, rfl, _⟩⟩
 rfl
theorem rJoined_ok {l l2 : List Ty} {va vb : Value} {K0 : Kn} {m : AW} (hm : m.lo ≤ m.next) (hK0 : ∀ b o, K0 b o → Mem m b o) (hlS : Sl K0 5 (RTy K0) l va) (hlT : Sl K0 5 (RTy K0) l2 vb) (hwl2 : ∀ (i : Nat) (a : Ty), l2[i]? = some a → FewT a) (hbd2 : ∀ (i : Nat) (a : Ty), l2[i]? = some a → badB l2.length a = false) (h100 : l.length ≤ 100) (h101 : l2.length ≤ 100) : Fc prog 27 [va, vb] m fun v m' => ∃ x : Hp × Value, Sl (KJ x.1 K0) 5 (RTy (KJ x.1 K0)) (joinL l l2) x.2 ∧ v = x.2 ∧ Ext m m' ∧ News m m' x.1 := by
 have hlA := hlS
 obtain ⟨aA, cA, rfl, hnA, -⟩ := hlS
 obtain ⟨aB, cB, rfl, hnB, hl⟩ := hlT.mono hK0 (RTy.mono hK0)
 refine Fc.body (c := _) func27 rfl rfl rfl rfl hm ?_
 refine .seq (.region (.P ?_))
 refine .nil (.seq (.seq (.region ?_)))
 refine .buildSlice rfl rfl rfl rfl rfl (bs22_0) (fun b10 hb10 => ?_)
 refine .P ?_
 refine .appendSl (R := RTy K0) (l0 := []) (l := l) (L := l) (g := .emp b10) (cs := []) rfl .one Flat.nil rfl (hlA) ((fun b o h => Mem.sees rfl rfl b o (hK0 b o h))) RTy.flats (by simp; omega) rfl rfl rfl rfl underlying22 underlying22 ap50 rfl rfl (fun g1 cs1 hF1 hO1 => ?_)
 refine .P ?_
 refine .nil (.seq (.seq (.seq (.region (.P ?_)))))
 refine .nil (.seq (.block ?_))
 refine .loop (α := Nat × Gro × List Value × List Ty × Hp) (fun q => [(0, .slice aA l.length cA), (1, .slice aB l2.length cB), (5, q.2.1.V q.2.2.2.1.length), (6, .int .i64 (Int.ofNat (q.1)))]) (fun q => q.2.1.H 50 q.2.2.1 ++ q.2.2.2.2) (fun q => q.1 ≤ l2.length ∧ q.2.2.2.1 = l ++ (l2.take q.1).map (mvT l.length) ∧ Flat 5 (RTy (KJ q.2.2.2.2 K0)) q.2.2.2.1 q.2.2.1 ∧ q.2.1.Ok q.2.2.2.1.length) (fun q => l2.length - q.1) (0, g1, cs1, l, []) ⟨Nat.zero_le _, by simp, flat_mono hF1 (RTy.mono fun b o h => .inr h), hO1⟩ ⟨rfl, rfl, rfl, rfl, trivial⟩ (.refl _) (fun q hq0 => ?_)
 obtain ⟨i, g_, cs_, out, F⟩ := q
 obtain ⟨hi, hout, hF, hO⟩ := hq0
 simp only at hi hout hF hO
 have hlo : out.length = l.length + i := by rw [hout, List.length_append, List.length_map, List.length_take]; omega
 refine .seq (.seq (.region (.P2 ?_)))
 refine .G (ln22 ..) ?_
 refine .P ?_
 refine .nil (.seq (.cond rfl (fun ht16 => ?_) fun ht16 => ?_))
 ·try simp only [nz] at ht16
  have hlt : i < l2.length := by omega
  obtain ⟨a, ha⟩ := gx hlt
  obtain ⟨b, off, cs, el, g, md, mate, rfl, ⟨hb, hh⟩, hle, hc⟩ := so hl hlt
  have hr := hc i a ha
  obtain ⟨ve, vf, va_, hr, he, hf, hga⟩ := hr
  have heS := he
  have hfS := hf
  obtain ⟨ae, ce, rfl, hne, he⟩ := he
  obtain ⟨af, cf, rfl, hnf, hf⟩ := hf
  obtain ⟨aa, ca, rfl, hna, hga⟩ := hga
  have hw := hwl2 i a ha
  have hbd := hbd2 i a ha
  have k1 := hw.elems
  have k2 := hw.fields
  have k3 := hw.arms
  refine .skip (.seq (.seq (.block (.seq ?_))))
  refine .D [(13, 0), (13, 0), (13, 3), (13, 7), (1, 15), (13, 0), (13, 0), (13, 96), (13, 224), (1, 480), (15, 0), (15, 0), (15, 3072), (15, 7168), (3, 15360), (15, 0), (3, 32768), (7, 130048), (15, 262143), (8, 0), (7, 1048575)] (by kernel_rfl) (by kernel_rfl) (fun base hbase hB => ?_)
  iterate 2 refine .P ?_
  refine .K underlying22 sz50 ?_
  refine .F fa50_0 ?_
  refine .loadOld rfl rfl rfl rfl rfl rfl ag3 (.base hh hb (by simp)) (cell_of_take hr (k := 0) rfl) (by first | exact hB _ _ (.head _) | exact hB _ _ (.tail _ (.head _)) | exact hB _ _ (.tail _ (.tail _ (.head _))) | exact hB _ _ (.tail _ (.tail _ (.tail _ (.head _)))) | exact hB _ _ (List.mem_append_right _ (.head _)) | exact hB _ _ (List.mem_append_right _ (.tail _ (.head _))) | exact Nat.lt_of_lt_of_le ‹_› hbase) ?_
  iterate 2 refine .P ?_
  refine .K underlying22 sz50 ?_
  refine .F fa50_2 ?_
  refine .loadOld rfl rfl rfl rfl rfl rfl ag9 (.base hh hb (by simp)) (cell_of_take hr (k := 2) rfl) (by first | exact hB _ _ (.head _) | exact hB _ _ (.tail _ (.head _)) | exact hB _ _ (.tail _ (.tail _ (.head _))) | exact hB _ _ (.tail _ (.tail _ (.tail _ (.head _)))) | exact hB _ _ (List.mem_append_right _ (.head _)) | exact hB _ _ (List.mem_append_right _ (.tail _ (.head _))) | exact Nat.lt_of_lt_of_le ‹_› hbase) ?_
  iterate 2 refine .P ?_
  refine .K underlying22 sz50 ?_
  refine .F fa50_3 ?_
  refine .M ag47 (.base hh hb (by simp)) (cell_of_take hr (k := 3) rfl) ?_
  refine .P ?_
  refine .len rfl rfl rfl rfl rfl rfl (ln22 ..) ?_
  refine .calln _ _ _ rfl rfl rfl rfl rfl rfl rfl rfl rfl (fun m hm => rmvd_ok (n := l.length) hm.lole (hfS.mono (Mem.kr hm) fun _ _ h => h) (by omega) (InR.parts hbd (by omega) fun x_ hx_ => parts_fldm hx_) (by omega)) (fun z hz => ?_)
  obtain ⟨zg, zc⟩ := z
  obtain ⟨hzF, hzO⟩ := hz
  simp only at hzF hzO
  have hS2 := Gro.sl (el := 132) hzF hzO (by first | omega | (simp; omega))
  obtain ⟨a2, c2, hh36, -, -⟩ := id hS2
  rw [hh36] at hS2
  refine .as 36 (.slice a2 (a.fields.map (mvF l.length)).length c2) rfl hh36 ?_
  refine .p (v := .agg ⟨[.int .i64 a.kind, .slice none 0 0, .string a.name, .slice a2 (a.fields.map (mvF l.length)).length c2, .slice none 0 0]⟩) rfl rfl rfl rfl (by kernel_rfl) ?_
  refine .alloc rfl rfl rfl rfl rfl zr50 (fun b7 hn7 hb7 => ?_)
  refine .store rfl rfl (by kernel_rfl) (by kernel_rfl) rfl rfl rfl rfl rfl sz50 rfl (by first | exact .head | exact .tail .head | exact .tail (.tail .head) | exact .tail (.tail (.tail .head)) | exact updo) rfl ?_
  refine .nil (.seq (.seq (.seq (.region (.P ?_)))))
  refine .nil (.seq (.block ?_))
  refine .loop (α := Nat × Gro × List Value × List Int × Value) (fun q => [(0, .slice aA l.length cA), (1, .slice (some ⟨b, off, none⟩) l2.length cB), (5, g_.V out.length), (6, .int .i64 (Int.ofNat (i))), (7, ptr b7), (8, .int .i64 (Int.ofNat (q.1)))]) (fun q => (b7, .cells [.int .i64 a.kind, q.2.2.2.2, .string a.name, .slice a2 (a.fields.map (mvF l.length)).length c2, .slice none 0 0] 50 false .plain none) :: (q.2.1.H 3 q.2.2.1 ++ (zg.H 132 zc ++ (g_.H 50 cs_ ++ F)))) (fun q => q.1 ≤ a.elems.length ∧ q.2.2.2.1 = (a.elems.take q.1).map (· + Int.ofNat l.length) ∧ Flat 1 RInt q.2.2.2.1 q.2.2.1 ∧ q.2.1.Ok q.2.2.2.1.length ∧ q.2.2.2.2 = q.2.1.V q.2.2.2.1.length) (fun q => a.elems.length - q.1) (0, .no, [], [], .slice none 0 0) ⟨Nat.zero_le _, rfl, Flat.nil, rfl, rfl⟩ ⟨rfl, rfl, rfl, rfl, rfl, rfl, trivial⟩ (.refl _) (fun q hq0 => ?_)
  obtain ⟨j, gN, csN, oE, w⟩ := q
  obtain ⟨hj, hoE, hFE, hOE, hwE⟩ := hq0
  simp only at hj hoE hFE hOE hwE
  have hlE : oE.length = j := by rw [hoE, List.length_map, List.length_take]; omega
  refine .seq (.seq (.region (.P3 ?_)))
  refine .K underlying22 sz50 ?_
  refine .F fa50_1 ?_
  refine .M ag32 (.base hh hb (by simp)) (cell_of_take hr (k := 1) rfl) ?_
  refine .G (ln32 ..) ?_
  refine .P ?_
  refine .nil (.seq (.cond rfl (fun ht45 => ?_) fun ht45 => ?_))
  ·try simp only [nz] at ht45
   have hltE : j < a.elems.length := by omega
   obtain ⟨p, hp0⟩ := gx hltE
   obtain ⟨bE, offE, csE, elE, gE, mdE, mateE, rfl, ⟨hbE, hhE⟩, hleE, hcE⟩ := so he hltE
   have hrp := hcE j p hp0
   obtain ⟨qp, hqp, hqpl⟩ := parts_in hbd (parts_elem hp0)
   refine .skip (.seq (.seq (.block ?_)))
   refine .D [(15, 0), (3, 1), (15, 0), (15, 0), (15, 12), (15, 28), (3, 60), (15, 0), (15, 252), (3, 508), (15, 0), (3, 1024), (15, 4092), (11, 8188), (7, 16383), (15, 32767), (7, 65535)] (by kernel_rfl) (by kernel_rfl) (fun base hbase hB => ?_)
   refine .F fa50_1 ?_
   refine .J ag32 ?_
   refine .as 49 (gN.V oE.length) rfl hwE ?_
   iterate 2 refine .P ?_
   refine .K underlying22 sz50 ?_
   refine .F fa50_1 ?_
   refine .M ag32 (.base hh hb (by simp)) (cell_of_take hr (k := 1) rfl) ?_
   refine .P ?_
   refine .K underlying32 sz3 ?_
   refine .M ag3 (.base hhE hbE (by simp)) (cell_of_take hrp (k := 0) rfl) ?_
   refine .P ?_
   refine .len rfl rfl rfl rfl rfl rfl (ln22 ..) ?_
   refine .P ?_
   refine .as 60 (.int .i64 (p + Int.ofNat l.length)) rfl (congrArg (Value.int .i64) (mv_wr hqp (by omega))) ?_
   refine .buildSlice rfl rfl rfl rfl rfl rfl (bs32_1 ..) (fun b61 hn61 hb61 => ?_)
   refine .appendSl (R := RInt) (l0 := oE) (l := [p + Int.ofNat l.length]) (L := (oE ++ [p + Int.ofNat l.length])) (g := gN) (cs := csN) rfl (.tail (.tail .here)) hFE hOE (Sl.single (R := RInt) (x := p + Int.ofNat l.length) (b := b61) (c := 1) (el := 3) (g := false) (md := .plain) (mate := none) rfl rfl) ((InH.sees (by intro p_ hp_; rw [List.mem_singleton.1 hp_]; exact List.mem_cons_self))) RInt.flats (by simp; omega) rfl rfl (by kernel_rfl) (by kernel_rfl) rfl rfl rfl rfl underlying32 underlying32 ap3 rfl rfl (fun g5 cs5 hF5 hO5 => ?_)
   obtain ⟨a5, c5, hw5⟩ := Gro.len hO5
   refine .as 62 (.slice a5 (oE ++ [p + Int.ofNat l.length]).length c5) rfl hw5 ?_
   refine .F fa50_1 ?_
   refine .store rfl rfl (by kernel_rfl) (by kernel_rfl) rfl rfl rfl rfl rfl sz32 rfl (Upd.app (.tail .head)) rfl ?_
   refine .nil (.blk (.seq (.region (.P2 ?_))))
   refine .W 47 j ?_
   refine .P ?_
   refine .nil (.swap mv_perm ?_)
   exact .loop (j + 1, g5, cs5, oE ++ [p + Int.ofNat l.length], _) ⟨by omega, by rw [hoE]; exact (map_take_succ (f := (· + Int.ofNat l.length)) hp0).symm, hF5, hO5, hw5.symm⟩ (by show a.elems.length - (j + 1) < a.elems.length - j; omega) ⟨rfl, rfl, rfl, rfl, rfl, rfl, trivial⟩ (.cons_cons _ ((List.Sublist.refl _).append (.cons _ (.refl _))))
  try simp only [nz] at ht45
  have hje : j = a.elems.length := by omega
  subst hje
  rw [List.take_length] at hoE
  subst hoE
  have hSe : Sl (InH (gN.H 3 csN)) 1 RInt (a.elems.map (· + Int.ofNat l.length)) w := by rw [hwE]; exact Gro.sl hFE hOE (by simp; omega)
  obtain ⟨a7, c7, rfl, -, -⟩ := id hSe
  refine .exit (.seq (.loop (.here (.seq (.seq (.seq (.region (.P ?_))))))))
  refine .nil (.seq (.block ?_))
  refine .loop (α := Nat × Gro × List Value × List Arm × Hp × Value) (fun q => [(0, .slice aA l.length cA), (1, .slice (some ⟨b, off, none⟩) l2.length cB), (5, g_.V out.length), (6, .int .i64 (Int.ofNat (i))), (7, ptr b7), (9, .int .i64 (Int.ofNat (q.1)))]) (fun q => (b7, .cells [.int .i64 a.kind, .slice a7 (a.elems.map (· + Int.ofNat l.length)).length c7, .string a.name, .slice a2 (a.fields.map (mvF l.length)).length c2, q.2.2.2.2.2] 50 false .plain none) :: (q.2.1.H 55 q.2.2.1 ++ (q.2.2.2.2.1 ++ (gN.H 3 csN ++ (zg.H 132 zc ++ (g_.H 50 cs_ ++ F)))))) (fun q => q.1 ≤ a.arms.length ∧ q.2.2.2.1 = (a.arms.take q.1).map (mvA l.length) ∧ Flat 2 (RArm (InH q.2.2.2.2.1)) q.2.2.2.1 q.2.2.1 ∧ q.2.1.Ok q.2.2.2.1.length ∧ q.2.2.2.2.2 = q.2.1.V q.2.2.2.1.length) (fun q => a.arms.length - q.1) (0, .no, [], [], [], .slice none 0 0) ⟨Nat.zero_le _, rfl, Flat.nil, rfl, rfl⟩ ⟨rfl, rfl, rfl, rfl, rfl, rfl, trivial⟩ (.refl _) (fun q hq0 => ?_)
  obtain ⟨k, g3, cs3, L3, F2, wa⟩ := q
  obtain ⟨hk, hL3, hF3, hO3, hw3⟩ := hq0
  simp only at hk hL3 hF3 hO3 hw3
  have hL3l : L3.length = k := by rw [hL3, List.length_map, List.length_take]; omega
  refine .seq (.seq (.region (.P3 ?_)))
  refine .K underlying22 sz50 ?_
  refine .F fa50_4 ?_
  refine .M ag48 (.base hh hb (by simp)) (cell_of_take hr (k := 4) rfl) ?_
  refine .G (ln48 ..) ?_
  refine .P ?_
  refine .nil (.seq (.cond rfl (fun ht71 => ?_) fun ht71 => ?_))
  ·try simp only [nz] at ht71
   have hltX : k < a.arms.length := by omega
   obtain ⟨x, hx⟩ := gx hltX
   obtain ⟨bX, offX, csX, elX, gX, mdX, mateX, rfl, ⟨hbX, hhX⟩, hleX, hcX⟩ := so hga hltX
   have hrx := hcX k x hx
   obtain ⟨vx, hrx, hxS⟩ := hrx
   obtain ⟨axf, cxf, rfl, hnxf, hxf⟩ := id hxS
   have k4 := hw.afields k x hx
   refine .skip (.seq (.seq (.block ?_)))
   refine .D [(13, 0), (1, 1), (13, 0), (13, 0), (13, 12), (13, 28), (1, 60), (13, 0), (13, 252), (13, 508), (1, 1020), (15, 0), (15, 0), (15, 6144), (15, 14336), (3, 30720), (15, 0), (15, 129024), (15, 260096), (3, 522240), (15, 0), (3, 1048576), (7, 4192256), (15, 8388604), (11, 16777212), (7, 33554431), (15, 67108863), (7, 134217727)] (by kernel_rfl) (by kernel_rfl) (fun base hbase hB => ?_)
   refine .F fa50_4 ?_
   refine .R ag48 hB ?_
   refine .as 75 (g3.V L3.length) rfl hw3 ?_
   iterate 2 refine .P ?_
   refine .K underlying22 sz50 ?_
   refine .F fa50_4 ?_
   refine .loadOld rfl rfl rfl rfl rfl rfl ag48 (.base hh hb (by simp)) (cell_of_take hr (k := 4) rfl) (by first | exact hB _ _ (.head _) | exact hB _ _ (.tail _ (.head _)) | exact hB _ _ (.tail _ (.tail _ (.head _))) | exact hB _ _ (.tail _ (.tail _ (.tail _ (.head _)))) | exact hB _ _ (List.mem_append_right _ (.head _)) | exact hB _ _ (List.mem_append_right _ (.tail _ (.head _))) | exact Nat.lt_of_lt_of_le ‹_› hbase) ?_
   refine .P ?_
   refine .K underlying48 sz55 ?_
   refine .F fa55_0 ?_
   refine .loadOld rfl rfl rfl rfl rfl rfl ag9 (.base hhX hbX (by simp)) (cell_of_take hrx (k := 0) rfl) (by first | exact hB _ _ (.head _) | exact hB _ _ (.tail _ (.head _)) | exact hB _ _ (.tail _ (.tail _ (.head _))) | exact hB _ _ (.tail _ (.tail _ (.tail _ (.head _)))) | exact hB _ _ (List.mem_append_right _ (.head _)) | exact hB _ _ (List.mem_append_right _ (.tail _ (.head _))) | exact Nat.lt_of_lt_of_le ‹_› hbase) ?_
   iterate 2 refine .P ?_
   refine .K underlying22 sz50 ?_
   refine .F fa50_4 ?_
   refine .M ag48 (.base hh hb (by simp)) (cell_of_take hr (k := 4) rfl) ?_
   refine .P ?_
   refine .K underlying48 sz55 ?_
   refine .F fa55_1 ?_
   refine .M ag47 (.base hhX hbX (by simp)) (cell_of_take hrx (k := 1) rfl) ?_
   refine .P ?_
   refine .len rfl rfl rfl rfl rfl rfl (ln22 ..) ?_
   refine .calln _ _ _ rfl rfl rfl rfl rfl rfl rfl rfl rfl (fun m hm => rmvd_ok (n := l.length) hm.lole (hxS.mono (Mem.kr hm) fun _ _ h => h) (by omega) (InR.parts hbd (by omega) fun x_ hx_ => parts_armf (List.mem_of_getElem? hx) hx_) (by omega)) (fun z4 hz4 => ?_)
   obtain ⟨z4g, z4c⟩ := z4
   obtain ⟨hz4F, hz4O⟩ := hz4
   simp only at hz4F hz4O
   have hS4 := Gro.sl (el := 132) hz4F hz4O (by first | omega | (simp; omega))
   obtain ⟨a4, c4, hh96, -, -⟩ := id hS4
   rw [hh96] at hS4
   refine .as 96 (.slice a4 (x.fields.map (mvF l.length)).length c4) rfl hh96 ?_
   refine .p (v := .agg ⟨[.string x.name, .slice a4 (x.fields.map (mvF l.length)).length c4]⟩) rfl rfl rfl rfl (by kernel_rfl) ?_
   refine .buildSlice rfl rfl rfl rfl rfl rfl (bs48_1 ..) (fun b98 hn98 hb98 => ?_)
   refine .appendSl (R := RArm (InH (z4g.H 132 z4c ++ F2))) (l0 := L3) (l := [mvA l.length x]) (L := (L3 ++ [mvA l.length x])) (g := g3) (cs := cs3) rfl (.tail (.over (.tail .here))) (flat_mono hF3 (RArm.mono inB)) hO3 (Sl.single (R := RArm (InH (z4g.H 132 z4c ++ F2))) (x := mvA l.length x) (b := b98) (c := 1) (el := 55) (g := false) (md := .plain) (mate := none) ⟨_, rfl, hS4.mono inA fun _ _ h => h⟩ rfl) ((InH.sees (by intro p_ hp_; rw [List.mem_singleton.1 hp_]; exact List.mem_cons_self))) RArm.flats (by simp; omega) rfl rfl (by kernel_rfl) (by kernel_rfl) rfl rfl rfl rfl underlying48 underlying48 ap55 rfl rfl (fun g7 cs7 hF7 hO7 => ?_)
   obtain ⟨a8, c8, hw7⟩ := Gro.len hO7
   refine .as 99 (.slice a8 (L3 ++ [mvA l.length x]).length c8) rfl hw7 ?_
   refine .F fa50_4 ?_
   refine .store rfl rfl (by kernel_rfl) (by kernel_rfl) rfl rfl rfl rfl rfl sz48 rfl (Upd.app (.tail (Upd.app .head))) rfl ?_
   refine .nil (.blk (.seq (.region (.P2 ?_))))
   refine .W 73 k ?_
   refine .P ?_
   refine .nil (.swap own_perm1 ?_)
   exact .loop (k + 1, g7, cs7, L3 ++ [mvA l.length x], z4g.H 132 z4c ++ F2, _) ⟨by omega, by rw [hL3]; exact (map_take_succ hx).symm, hF7, hO7, hw7.symm⟩ (by show a.arms.length - (k + 1) < a.arms.length - k; omega) ⟨rfl, rfl, rfl, rfl, rfl, rfl, trivial⟩ (.cons _ (.refl _))
  try simp only [nz] at ht71
  have hke : k = a.arms.length := by omega
  subst hke
  rw [List.take_length] at hL3
  subst hL3
  have hSa : Sl (InH (g3.H 55 cs3)) 2 (RArm (InH F2)) (a.arms.map (mvA l.length)) wa := by rw [hw3]; exact Gro.sl hF3 hO3 (by simp; omega)
  obtain ⟨a9, c9, rfl, -, -⟩ := id hSa
  refine .exit (.seq (.loop (.here (.seq (.region (.P ?_))))))
  refine .E ag50 sz50 ?_
  refine .buildSlice rfl rfl rfl rfl rfl (bs22_1 ..) (fun b103 hb103 => ?_)
  refine .appendSl (R := RTy (KJ (g3.H 55 cs3 ++ (F2 ++ (gN.H 3 csN ++ (zg.H 132 zc ++ F)))) K0)) (l0 := out) (l := [mvT l.length a]) (L := (out ++ [mvT l.length a])) (g := g_) (cs := cs_) rfl (.tail (.tail (.over (.over (.over (.over .here)))))) (flat_mono hF (RTy.mono (KJ.mono fun b o h => inB b o (inB b o (inB b o (inB b o h)))))) hO (Sl.single (R := RTy (KJ (g3.H 55 cs3 ++ (F2 ++ (gN.H 3 csN ++ (zg.H 132 zc ++ F)))) K0)) (x := mvT l.length a) (b := b103) (c := 1) (el := 50) (g := false) (md := .plain) (mate := none) ⟨_, _, _, rfl, hSe.mono (fun b o h => .inl (inB b o (inB b o (inA b o h)))) fun _ _ h => h, hS2.mono (fun b o h => .inl (inB b o (inB b o (inB b o (inA b o h))))) fun _ _ h => h, hSa.mono (fun b o h => .inl (inA b o h)) (RArm.mono fun b o h => .inl (inB b o (inA b o h)))⟩ rfl) ((InH.sees (by intro p_ hp_; rw [List.mem_singleton.1 hp_]; exact List.mem_cons_self))) RTy.flats (by simp; omega) rfl rfl rfl rfl underlying22 underlying22 ap50 rfl rfl (fun g6 cs6 hF6 hO6 => ?_)
  refine .P ?_
  refine .nil (.blk (.seq (.region (.P2 ?_))))
  refine .W 18 i ?_
  refine .P ?_
  refine .nil ?_
  exact .loop (i + 1, g6, cs6, out ++ [mvT l.length a], g3.H 55 cs3 ++ (F2 ++ (gN.H 3 csN ++ (zg.H 132 zc ++ F)))) ⟨by omega, by rw [hout, map_take_succ ha, List.append_assoc], hF6, hO6⟩ (by show l2.length - (i + 1) < l2.length - i; omega) ⟨rfl, rfl, rfl, rfl, trivial⟩ (List.Sublist.append_left (.cons _ (.cons _ (.refl _))) _)
 try simp only [nz] at ht16
 have hie : i = l2.length := by omega
 subst hie
 rw [List.take_length] at hout
 subst hout
 refine .exit (.seq (.loop (.here (.seq (.seq (.region (.P2 ?_)))))))
 refine .nil (.seq (.ret ?_))
 exact .end_ rfl rfl (fun m hm => ⟨(g_.H 50 cs_ ++ F, g_.V (l ++ l2.map (mvT l.length)).length), join_fin hF hO (by rw [joinL_len]; omega), rfl, hm.ext, hm.news (.refl _)⟩)

/-! What is asked of two tables. -/
def AcrP (l l2 : List Ty) (t u : Int) (x : Bool × Int) : Prop := ∃ e1, ChkP l e1 ∧ ((e1 ≠ 0 ∧ x = (false, e1)) ∨ (e1 = 0 ∧ ∃ e2, ChkP l2 e2 ∧ ((e2 ≠ 0 ∧ x = (false, e2)) ∨ (e2 = 0 ∧ ((¬ (0 ≤ t ∧ t < l.length ∧ 0 ≤ u ∧ u < l2.length) ∧ x = (false, 11)) ∨ ∃ p q : Nat, t = Int.ofNat p ∧ u = Int.ofNat q ∧ p < l.length ∧ q < l2.length ∧ x.2 = 0 ∧ (x.1 = true ↔ EqT (joinL l l2) p (q + l.length)))))))
theorem AcrP.bad1 {l l2 : List Ty} {t u e : Int} (h : ChkP l e) (he : e ≠ 0) : AcrP l l2 t u (false, e) := ⟨e, h, .inl ⟨he, rfl⟩⟩
theorem AcrP.bad2 {l l2 : List Ty} {t u e : Int} (h : ChkP l 0) (h2 : ChkP l2 e) (he : e ≠ 0) : AcrP l l2 t u (false, e) := ⟨0, h, .inr ⟨rfl, e, h2, .inl ⟨he, rfl⟩⟩⟩
theorem AcrP.out {l l2 : List Ty} {t u : Int} (h : ChkP l 0) (h2 : ChkP l2 0) (hn : ¬ (0 ≤ t ∧ t < l.length ∧ 0 ≤ u ∧ u < l2.length)) : AcrP l l2 t u (false, 11) := ⟨0, h, .inr ⟨rfl, 0, h2, .inr ⟨rfl, .inl ⟨hn, rfl⟩⟩⟩⟩
theorem AcrP.good {l l2 : List Ty} {p q : Nat} {z : Bool} (h : ChkP l 0) (h2 : ChkP l2 0) (hp : p < l.length) (hq : q < l2.length) (hz : z = true ↔ EqT (joinL l l2) p (q + l.length)) : AcrP l l2 (Int.ofNat p) (Int.ofNat q) (z, 0) := ⟨0, h, .inr ⟨rfl, 0, h2, .inr ⟨rfl, .inr ⟨p, q, rfl, rfl, hp, hq, rfl, hz⟩⟩⟩⟩
theorem AcrP.at1 {l l2 : List Ty} {t u e : Int} {x : Bool × Int} (h : AcrP l l2 t u x) (he : ChkP l e) (hne : e ≠ 0) : x = (false, e) := by
 obtain ⟨e1, h1, h2⟩ := h
 have := h1.uniq he
 subst this
 rcases h2 with ⟨_, h2⟩ | ⟨h2, _⟩
 ·exact h2
 exact absurd h2 hne
theorem AcrP.at2 {l l2 : List Ty} {t u e : Int} {x : Bool × Int} (h : AcrP l l2 t u x) (h0 : ChkP l 0) (he : ChkP l2 e) (hne : e ≠ 0) : x = (false, e) := by
 obtain ⟨e1, h1, h2⟩ := h
 have := h1.uniq h0
 subst this
 rcases h2 with ⟨h2, _⟩ | ⟨_, e2, h3, h4⟩
 ·exact absurd rfl h2
 have := h3.uniq he
 subst this
 rcases h4 with ⟨_, h4⟩ | ⟨h4, _⟩
 ·exact h4
 exact absurd h4 hne
theorem AcrP.at3 {l l2 : List Ty} {t u : Int} {x : Bool × Int} (h : AcrP l l2 t u x) (h0 : ChkP l 0) (h02 : ChkP l2 0) (hn : ¬ (0 ≤ t ∧ t < l.length ∧ 0 ≤ u ∧ u < l2.length)) : x = (false, 11) := by
 obtain ⟨e1, h1, h2⟩ := h
 have := h1.uniq h0
 subst this
 rcases h2 with ⟨h2, _⟩ | ⟨_, e2, h3, h4⟩
 ·exact absurd rfl h2
 have := h3.uniq h02
 subst this
 rcases h4 with ⟨h4, _⟩ | ⟨_, h4⟩
 ·exact absurd rfl h4
 rcases h4 with ⟨_, h4⟩ | ⟨p, q, rfl, rfl, hp, hq, _⟩
 ·exact h4
 exact absurd ⟨Int.natCast_nonneg _, Int.ofNat_lt.2 hp, Int.natCast_nonneg _, Int.ofNat_lt.2 hq⟩ hn
theorem AcrP.at4 {l l2 : List Ty} {p q : Nat} {x : Bool × Int} (h : AcrP l l2 (Int.ofNat p) (Int.ofNat q) x) (h0 : ChkP l 0) (h02 : ChkP l2 0) (hp : p < l.length) (hq : q < l2.length) : x.2 = 0 ∧ (x.1 = true ↔ EqT (joinL l l2) p (q + l.length)) := by
 obtain ⟨e1, h1, h2⟩ := h
 have := h1.uniq h0
 subst this
 rcases h2 with ⟨h2, _⟩ | ⟨_, e2, h3, h4⟩
 ·exact absurd rfl h2
 have := h3.uniq h02
 subst this
 rcases h4 with ⟨h4, _⟩ | ⟨_, h4⟩
 ·exact absurd rfl h4
 rcases h4 with ⟨h4, _⟩ | ⟨p', q', e1, e2, _, _, h5, h6⟩
 ·exact absurd ⟨Int.natCast_nonneg _, Int.ofNat_lt.2 hp, Int.natCast_nonneg _, Int.ofNat_lt.2 hq⟩ h4
 cases e1
 cases e2
 exact ⟨h5, h6⟩
theorem Across_ok {l l2 : List Ty} {va vb : Value} {t u : Int} {m : AW} (hm : m.lo ≤ m.next) (hlS : Sl (Mem m) 5 (RTy (Mem m)) l va) (hlT : Sl (Mem m) 5 (RTy (Mem m)) l2 vb) (hwl : ∀ (i : Nat) (a : Ty), l[i]? = some a → FewT a) (hwl2 : ∀ (i : Nat) (a : Ty), l2[i]? = some a → FewT a) (hn14 : l.length ≤ 14) (hm14 : l2.length ≤ 14) : Fc prog 26 [va, .int .i64 t, vb, .int .i64 u] m fun v m' => ∃ x : Bool × Int, AcrP l l2 t u x ∧ v = .tuple ⟨[.bool x.1, .int .i64 x.2]⟩ ∧ Ext m m' ∧ News m m' [] := by
 have hlA := hlS
 have hlB := hlT
 obtain ⟨aA, cA, rfl, hnA, -⟩ := hlS
 obtain ⟨aB, cB, rfl, hnB, hl⟩ := hlT
 refine Fc.body (c := _) func26 rfl rfl rfl rfl hm ?_
 refine .seq (.region (.P2 ?_))
 refine .nil (.seq (.seq (.seq (.region (.P ?_)))))
 refine .calln _ _ _ rfl rfl rfl rfl rfl rfl (fun m hm => check_ok hm.lole (hlA.mono (Mem.kr hm) (RTy.mono (Mem.kr hm))) hwl hn14) (fun e1 he1 => ?_)
 refine .P ?_
 refine .nil (.seq (.seq (.region (.P2 ?_))))
 refine .nil (.seq (.cond rfl (fun ht18 => ?_) fun ht18 => ?_))
 ·try simp only [nz] at ht18
  have hne : e1 ≠ 0 := by omega
  refine .seq (.region (.P3 ?_))
  refine .nil (.seq (.ret (.seq ?_)))
  exact .end_ rfl rfl (by first | exact (fun m hm => ⟨(false, e1), AcrP.bad1 he1 hne, rfl, hm.ext, News.nil _ _⟩) | exact (fun m hm => ⟨(false, e2), AcrP.bad2 he1 he2 hne, rfl, hm.ext, News.nil _ _⟩) | exact (fun m hm => ⟨(false, 11), AcrP.out he1 he2 (by omega), rfl, hm.ext, News.nil _ _⟩) | exact (fun m hm => ⟨(z, 0), AcrP.good he1 he2 hp hq hz, rfl, hm.ext, News.nil _ _⟩))
 try simp only [nz] at ht18
 have he10 : e1 = 0 := by omega
 subst he10
 refine .skip (.seq (.seq (.seq (.region (.P ?_)))))
 refine .calln _ _ _ rfl rfl rfl rfl rfl rfl (fun m hm => check_ok hm.lole (hlB.mono (Mem.kr hm) (RTy.mono (Mem.kr hm))) hwl2 hm14) (fun e2 he2 => ?_)
 refine .P ?_
 refine .nil (.seq (.seq (.region (.P2 ?_))))
 refine .nil (.seq (.cond rfl (fun ht23 => ?_) fun ht23 => ?_))
 ·try simp only [nz] at ht23
  have hne : e2 ≠ 0 := by omega
  refine .seq (.region (.P3 ?_))
  refine .nil (.seq (.ret (.seq ?_)))
  exact .end_ rfl rfl (by first | exact (fun m hm => ⟨(false, e1), AcrP.bad1 he1 hne, rfl, hm.ext, News.nil _ _⟩) | exact (fun m hm => ⟨(false, e2), AcrP.bad2 he1 he2 hne, rfl, hm.ext, News.nil _ _⟩) | exact (fun m hm => ⟨(false, 11), AcrP.out he1 he2 (by omega), rfl, hm.ext, News.nil _ _⟩) | exact (fun m hm => ⟨(z, 0), AcrP.good he1 he2 hp hq hz, rfl, hm.ext, News.nil _ _⟩))
 try simp only [nz] at ht23
 have he20 : e2 = 0 := by omega
 subst he20
 refine .skip (.seq (.seq (.seq (.region (.P3 ?_)))))
 refine .splitB 27 rfl (fun hs_27 => ?_) (fun hs_27 => ?_)
 ·try simp only [nz] at hs_27
  iterate 4 refine .O ?_
  refine .P2 ?_
  iterate 2 refine .O ?_
  refine .P2 ?_
  iterate 4 refine .O ?_
  refine .P ?_
  refine .nil (.seq (.cond_true rfl (.seq (.region (.P2 ?_)))))
  refine .nil (.seq (.ret (.seq ?_)))
  exact .end_ rfl rfl (by first | exact (fun m hm => ⟨(false, e1), AcrP.bad1 he1 hne, rfl, hm.ext, News.nil _ _⟩) | exact (fun m hm => ⟨(false, e2), AcrP.bad2 he1 he2 hne, rfl, hm.ext, News.nil _ _⟩) | exact (fun m hm => ⟨(false, 11), AcrP.out he1 he2 (by omega), rfl, hm.ext, News.nil _ _⟩) | exact (fun m hm => ⟨(z, 0), AcrP.good he1 he2 hp hq hz, rfl, hm.ext, News.nil _ _⟩))
 try simp only [nz] at hs_27
 refine .P2 ?_
 refine .G (ln22 ..) ?_
 refine .P3 ?_
 refine .splitB 33 rfl (fun hs_33 => ?_) (fun hs_33 => ?_)
 ·try simp only [nz] at hs_33
  iterate 2 refine .O ?_
  refine .P2 ?_
  iterate 4 refine .O ?_
  refine .P ?_
  refine .nil (.seq (.cond_true rfl (.seq (.region (.P2 ?_)))))
  refine .nil (.seq (.ret (.seq ?_)))
  exact .end_ rfl rfl (by first | exact (fun m hm => ⟨(false, e1), AcrP.bad1 he1 hne, rfl, hm.ext, News.nil _ _⟩) | exact (fun m hm => ⟨(false, e2), AcrP.bad2 he1 he2 hne, rfl, hm.ext, News.nil _ _⟩) | exact (fun m hm => ⟨(false, 11), AcrP.out he1 he2 (by omega), rfl, hm.ext, News.nil _ _⟩) | exact (fun m hm => ⟨(z, 0), AcrP.good he1 he2 hp hq hz, rfl, hm.ext, News.nil _ _⟩))
 try simp only [nz] at hs_33
 iterate 4 refine .P ?_
 refine .splitB 37 rfl (fun hs_37 => ?_) (fun hs_37 => ?_)
 ·try simp only [nz] at hs_37
  iterate 4 refine .O ?_
  refine .P ?_
  refine .nil (.seq (.cond_true rfl (.seq (.region (.P2 ?_)))))
  refine .nil (.seq (.ret (.seq ?_)))
  exact .end_ rfl rfl (by first | exact (fun m hm => ⟨(false, e1), AcrP.bad1 he1 hne, rfl, hm.ext, News.nil _ _⟩) | exact (fun m hm => ⟨(false, e2), AcrP.bad2 he1 he2 hne, rfl, hm.ext, News.nil _ _⟩) | exact (fun m hm => ⟨(false, 11), AcrP.out he1 he2 (by omega), rfl, hm.ext, News.nil _ _⟩) | exact (fun m hm => ⟨(z, 0), AcrP.good he1 he2 hp hq hz, rfl, hm.ext, News.nil _ _⟩))
 try simp only [nz] at hs_37
 refine .P2 ?_
 refine .G (ln22 ..) ?_
 refine .P2 ?_
 refine .nil (.seq (.cond rfl (fun ht42 => ?_) fun ht42 => ?_))
 ·try simp only [nz] at ht42
  refine .seq (.region (.P2 ?_))
  refine .nil (.seq (.ret (.seq ?_)))
  exact .end_ rfl rfl (by first | exact (fun m hm => ⟨(false, e1), AcrP.bad1 he1 hne, rfl, hm.ext, News.nil _ _⟩) | exact (fun m hm => ⟨(false, e2), AcrP.bad2 he1 he2 hne, rfl, hm.ext, News.nil _ _⟩) | exact (fun m hm => ⟨(false, 11), AcrP.out he1 he2 (by omega), rfl, hm.ext, News.nil _ _⟩) | exact (fun m hm => ⟨(z, 0), AcrP.good he1 he2 hp hq hz, rfl, hm.ext, News.nil _ _⟩))
 try simp only [nz] at ht42
 obtain ⟨p, rfl⟩ := Int.eq_ofNat_of_zero_le (show 0 ≤ t by omega)
 obtain ⟨q, rfl⟩ := Int.eq_ofNat_of_zero_le (show 0 ≤ u by omega)
 have hp : p < l.length := by omega
 have hq : q < l2.length := by omega
 have h1w := he1.fine.well
 have h2w := he2.fine.well
 refine .skip (.seq (.seq (.region ?_)))
 refine .buildSlice rfl rfl rfl rfl rfl (bs22_0) (fun b43 hb43 => ?_)
 refine .P ?_
 refine .appendSl (R := RTy (Mem m)) (l0 := []) (l := l) (L := l) (g := .emp b43) (cs := []) rfl .one Flat.nil rfl (hlA) ((Mem.sees rfl rfl)) RTy.flats (by simp; omega) rfl rfl rfl rfl underlying22 underlying22 ap50 rfl rfl (fun g1 cs1 hF1 hO1 => ?_)
 refine .P ?_
 refine .nil (.seq (.seq (.seq (.region (.P ?_)))))
 refine .G (ln22 ..) ?_
 refine .P ?_
 refine .nil (.seq (.block ?_))
 refine .loop (α := Nat × Gro × List Value × List Ty × Hp) (fun q_ => [(0, .slice aA l.length cA), (1, .int .i64 (Int.ofNat p)), (2, .slice aB l2.length cB), (3, .int .i64 (Int.ofNat q)), (12, q_.2.1.V q_.2.2.2.1.length), (46, .slice aB l2.length cB), (47, .int .i64 (Int.ofNat (l2.length))), (48, .int .i64 (Int.ofNat (q_.1)))]) (fun q_ => q_.2.1.H 50 q_.2.2.1 ++ q_.2.2.2.2) (fun q_ => q_.1 ≤ l2.length ∧ q_.2.2.2.1 = l ++ (l2.take q_.1).map (mvT l.length) ∧ Flat 5 (RTy (KJ q_.2.2.2.2 (Mem m))) q_.2.2.2.1 q_.2.2.1 ∧ q_.2.1.Ok q_.2.2.2.1.length) (fun q_ => l2.length - q_.1) (0, g1, cs1, l, []) ⟨Nat.zero_le _, by simp, flat_mono hF1 (RTy.mono fun b o h => .inr h), hO1⟩ ⟨rfl, rfl, rfl, rfl, rfl, rfl, rfl, rfl, trivial⟩ (.refl _) (fun q_ hq0 => ?_)
 obtain ⟨i, g_, cs_, out, F⟩ := q_
 obtain ⟨hi, hout, hF, hO⟩ := hq0
 simp only at hi hout hF hO
 have hlo : out.length = l.length + i := by rw [hout, List.length_append, List.length_map, List.length_take]; omega
 refine .seq (.region (.P ?_))
 refine .nil (.seq (.seq (.cond rfl (fun ht49 => ?_) fun ht49 => ?_)))
 ·try simp only [nz] at ht49
  have hlt : i < l2.length := by omega
  obtain ⟨a, ha⟩ := gx hlt
  obtain ⟨b, off, cs, el, g, md, mate, rfl, ⟨hb, hh⟩, hle, hc⟩ := so hl hlt
  have hr := hc i a ha
  obtain ⟨ve, vf, va_, hr, he, hf, hga⟩ := hr
  have heS := he
  have hfS := hf
  obtain ⟨ae, ce, rfl, hne, he⟩ := he
  obtain ⟨af, cf, rfl, hnf, hf⟩ := hf
  obtain ⟨aa, ca, rfl, hna, hga⟩ := hga
  have hw := hwl2 i a ha
  have hbd := h2w.sound i a ha
  have k1 := hw.elems
  have k2 := hw.fields
  have k3 := hw.arms
  have hraS : RTy (Mem m) a [.int .i64 a.kind, .slice ae a.elems.length ce, .string a.name, .slice af a.fields.length cf, .slice aa a.arms.length ca] := ⟨_, _, _, rfl, heS, hfS, ⟨aa, ca, rfl, hna, hga⟩⟩
  refine .skip (.seq (.seq (.block (.seq (.region (.K underlying22 sz50 ?_))))))
  refine .A ag50 sz50 (.base hh hb (by simp)) hr ?_
  refine .alloc rfl rfl rfl rfl zr50 (fun b14 hb14 => ?_)
  refine .S sz50 ?_
  refine .nil (.seq (.region (.P ?_)))
  refine .E ag50 sz50 ?_
  refine .P ?_
  refine .G (ln22 ..) ?_
  refine .calln _ _ _ rfl rfl rfl rfl rfl rfl (fun m hm => mvd_ok (n := l.length) hm.lole (RTy.mono (Mem.kr hm) _ _ hraS) hw hbd (by omega) (by omega)) (fun z hz => ?_)
  obtain ⟨zh, zcs⟩ := z
  simp only at hz
  have hzS := hz
  obtain ⟨ve2, vf2, va2, rfl, ⟨aze, cze, rfl, -⟩, ⟨azf, czf, rfl, -⟩, ⟨aza, cza, rfl, -⟩⟩ := hz
  refine .buildSlice rfl rfl rfl rfl rfl (bs22_1 ..) (fun b57 hb57 => ?_)
  refine .appendSl (R := RTy (KJ (zh ++ F) (Mem m))) (l0 := out) (l := [mvT l.length a]) (L := (out ++ [mvT l.length a])) (g := g_) (cs := cs_) rfl (.tail (.over (.tail .here))) (flat_mono hF (RTy.mono (KJ.mono inB))) hO (Sl.single (R := RTy (KJ (zh ++ F) (Mem m))) (x := mvT l.length a) (b := b57) (c := 1) (el := 50) (g := false) (md := .plain) (mate := none) (RTy.mono (fun b o h => .inl (inA b o h)) _ _ hzS) rfl) ((InH.sees (by intro p_ hp_; rw [List.mem_singleton.1 hp_]; exact List.mem_cons_self))) RTy.flats (by simp; omega) rfl rfl rfl rfl underlying22 underlying22 ap50 rfl rfl (fun g6 cs6 hF6 hO6 => ?_)
  refine .P ?_
  refine .nil (.blk (.seq (.region (.P ?_))))
  refine .W 59 i ?_
  refine .P ?_
  refine .nil ?_
  exact .loop (i + 1, g6, cs6, out ++ [mvT l.length a], zh ++ F) ⟨by omega, by rw [hout, map_take_succ ha, List.append_assoc], hF6, hO6⟩ (by show l2.length - (i + 1) < l2.length - i; omega) ⟨rfl, rfl, rfl, rfl, rfl, rfl, rfl, rfl, trivial⟩ (List.Sublist.append_left (.cons _ (List.Sublist.append_left (.cons _ (.refl _)) _)) _)
 try simp only [nz] at ht49
 have hie : i = l2.length := by omega
 subst hie
 rw [List.take_length] at hout
 subst hout
 refine .exit (.seq (.loop (.here (.seq (.seq (.region ?_))))))
 iterate 4 refine .P ?_
 refine .G (ln22 ..) ?_
 refine .P ?_
 refine .as 65 (.int .i64 (Int.ofNat (q + l.length))) rfl (congrArg (Value.int .i64) (mv_wr (n := l.length) (q := q) rfl (by omega))) ?_
 refine .calln _ _ _ rfl rfl rfl rfl rfl rfl (fun m hm => equal_ok (l := joinL l l2) (b_ := q + l.length) hm.lole ((join_fin (L := joinL l l2) hF hO (by rw [joinL_len]; omega)).mono (fun b o h => h.elim (fun h => InH.kr hm (fun p_ hp_ => hp_) b o h) (Mem.kr hm b o)) (RTy.mono (fun b o h => h.elim (fun h => InH.kr hm (fun p_ hp_ => hp_) b o h) (Mem.kr hm b o)))) (h1w.join h2w) (by rw [joinL_len]; omega) (by rw [joinL_len]; omega)) (fun z hz => ?_)
 refine .P2 ?_
 refine .nil (.seq (.ret ?_))
 exact .end_ rfl rfl (by first | exact (fun m hm => ⟨(false, e1), AcrP.bad1 he1 hne, rfl, hm.ext, News.nil _ _⟩) | exact (fun m hm => ⟨(false, e2), AcrP.bad2 he1 he2 hne, rfl, hm.ext, News.nil _ _⟩) | exact (fun m hm => ⟨(false, 11), AcrP.out he1 he2 (by omega), rfl, hm.ext, News.nil _ _⟩) | exact (fun m hm => ⟨(z, 0), AcrP.good he1 he2 hp hq hz, rfl, hm.ext, News.nil _ _⟩))
theorem tacross_ok {l l2 : List Ty} {va vb : Value} {t u : Int} {m : AW} (hm : m.lo ≤ m.next) (hlS : Sl (Mem m) 5 (RTy (Mem m)) l va) (hlT : Sl (Mem m) 5 (RTy (Mem m)) l2 vb) : Fc prog 6 [.agg ⟨[va, vb]⟩, .int .i64 t, .int .i64 u] m fun v m' => v = .bool true ∧ Ext m m' := by
 have hlA := hlS
 have hlB := hlT
 obtain ⟨aA, cA, rfl, hnA, -⟩ := hlS
 obtain ⟨aB, cB, rfl, hnB, hl⟩ := hlT
 refine Fc.body (c := _) func6 rfl rfl rfl rfl hm ?_
 refine .seq (.region ?_)
 refine .box rfl rfl rfl rfl rfl (fun b3 hb3 => ?_)
 refine .P ?_
 refine .nil (.seq (.seq (.seq (.region ?_))))
 refine .call _ rfl rfl rfl rfl rfl rfl (fun m hm => awake_ok) ?_
 refine .P2 ?_
 refine .F fa38_0 ?_
 refine .L ag22 ?_
 refine .call _ rfl rfl rfl rfl rfl rfl (fun m hm => few_ok hm.lole (hlA.mono (Mem.kr hm) (RTy.mono (Mem.kr hm)))) ?_
 refine .P3 ?_
 refine .splitB 18 rfl (fun hs_18 => ?_) (fun hs_18 => ?_)
 ·try simp only [nz] at hs_18
  iterate 4 refine .O ?_
  refine .P ?_
  refine .nil (.seq (.cond_true rfl (.seq (.region ?_))))
  refine .call _ rfl rfl rfl rfl rfl rfl (fun m hm => awake_ok) ?_
  refine .P ?_
  refine .nil (.seq (.ret (.seq ?_)))
  exact .end_ rfl rfl (fun m hm => ⟨rfl, hm.ext⟩)
 try simp only [nz] at hs_18
 obtain ⟨hn14, hwl⟩ := few_all hs_18
 refine .F fa38_1 ?_
 refine .L ag22 ?_
 refine .call _ rfl rfl rfl rfl rfl rfl (fun m hm => few_ok hm.lole (hlB.mono (Mem.kr hm) (RTy.mono (Mem.kr hm)))) ?_
 refine .P2 ?_
 refine .nil (.seq (.cond rfl (fun ht23 => ?_) fun ht23 => ?_))
 ·try simp only [nz] at ht23
  refine .seq (.region ?_)
  refine .call _ rfl rfl rfl rfl rfl rfl (fun m hm => awake_ok) ?_
  refine .P ?_
  refine .nil (.seq (.ret (.seq ?_)))
  exact .end_ rfl rfl (fun m hm => ⟨rfl, hm.ext⟩)
 try simp only [nz] at ht23
 obtain ⟨hm14, hwl2⟩ := few_all ht23
 refine .skip (.seq (.seq ?_))
 refine .D [(15, 0), (3, 1), (7, 3), (12, 0), (12, 0), (0, 16), (7, 55), (12, 0), (7, 255), (15, 511), (15, 1023), (15, 1023), (15, 2047), (15, 8191)] (by kernel_rfl) (by kernel_rfl) (fun base hbase hB => ?_)
 refine .F fa38_0 ?_
 refine .J ag22 ?_
 refine .calln _ _ _ rfl rfl rfl rfl rfl rfl rfl rfl rfl (fun m hm => own_ok hm.lole (hlA.mono (Mem.kr hm) (RTy.mono (Mem.kr hm))) hwl hn14) (fun zo hzo => ?_)
 refine .P ?_
 refine .F fa38_1 ?_
 refine .R ag22 hB ?_
 refine .calln _ _ _ rfl rfl rfl rfl rfl rfl rfl rfl rfl (fun m hm => own_ok hm.lole (hlB.mono (Mem.kr hm) (RTy.mono (Mem.kr hm))) hwl2 hm14) (fun zp hzp => ?_)
 refine .P ?_
 refine .calln _ _ _ rfl rfl rfl rfl rfl rfl rfl rfl rfl (fun m hm => Across_ok (t := t) (u := u) hm.lole (hzo.mono (InH.kr hm fun p_ hp_ => List.mem_append_right _ (List.mem_append_left _ hp_)) fun x_ cs_ h_ => RTy.mono (InH.kr hm fun p_ hp_ => List.mem_append_right _ (List.mem_append_left _ hp_)) x_ cs_ h_.1) (hzp.mono (InH.kr hm fun p_ hp_ => List.mem_append_left _ hp_) fun x_ cs_ h_ => RTy.mono (InH.kr hm fun p_ hp_ => List.mem_append_left _ hp_) x_ cs_ h_.1) hwl hwl2 hn14 hm14) (fun x1 hx1 => ?_)
 refine .drop (h' := [(b3, .cells [.slice aA l.length cA, .slice aB l2.length cB] 38 false .plain none)]) ((List.sublist_append_right _ _).trans ((List.sublist_append_right _ _).trans (List.sublist_append_right _ _))) ?_
 iterate 5 refine .P ?_
 refine .nil (.seq (.seq (.region (.F fa38_0 ?_))))
 refine .L ag22 ?_
 refine .calln _ _ _ rfl rfl rfl rfl rfl rfl (fun m hm => rcheck_ok hm.lole (hlA.mono (Mem.kr hm) (RTy.mono (Mem.kr hm))) hwl hn14) (fun e1 he1 => ?_)
 refine .P ?_
 refine .nil (.seq (.seq (.seq (.region (.P2 ?_)))))
 refine .nil (.seq (.cond rfl (fun ht41 => ?_) fun ht41 => ?_))
 ·try simp only [nz] at ht41
  have he10 : e1 = 0 := by omega
  subst he10
  refine .region (.F fa38_1 ?_)
  refine .L ag22 ?_
  refine .calln _ _ _ rfl rfl rfl rfl rfl rfl (fun m hm => rcheck_ok hm.lole (hlB.mono (Mem.kr hm) (RTy.mono (Mem.kr hm))) hwl2 hm14) (fun e2 he2 => ?_)
  refine .P ?_
  refine .nil (.seq (.seq (.seq (.region (.P3 ?_)))))
  refine .splitB 47 rfl (fun hs_47 => ?_) (fun hs_47 => ?_)
  ·try simp only [nz] at hs_47
   have he20 : e2 = 0 := by omega
   subst he20
   refine .P3 ?_
   refine .splitB 50 rfl (fun hs_50 => ?_) (fun hs_50 => ?_)
   ·try simp only [nz] at hs_50
    have hxe := hx1.at3 he1 he2 (by omega)
    have hex : x1.2 = 11 := by rw [hxe]
    have hxf : x1.1 = false := by rw [hxe]
    iterate 5 refine .O ?_
    refine .P2 ?_
    iterate 2 refine .O ?_
    refine .P2 ?_
    iterate 5 refine .O ?_
    refine .P2 ?_
    refine .nil (.seq (.cond_true rfl (.region (.P ?_))))
    refine .nil (.seq (.seq (.seq (.region (.P2 ?_)))))
    refine .nil (.seq (.cond_true rfl (.seq (.region (.P3 ?_)))))
    refine .as 73 (.bool true) rfl (congrArg Value.bool (by rw [eqI_eq]; exact decide_eq_true hex)) ?_
    refine .P3 ?_
    refine .as 76 (.bool true) rfl (congrArg Value.bool (by rw [hxf]; rfl)) ?_
    refine .P2 ?_
    refine .nil (.seq (.ret (.seq ?_)))
    exact .end_ rfl rfl (fun m hm => ⟨rfl, hm.ext⟩)
   try simp only [nz] at hs_50
   refine .P ?_
   refine .F fa38_0 ?_
   refine .L ag22 ?_
   refine .G (ln22 ..) ?_
   refine .P3 ?_
   refine .splitB 57 rfl (fun hs_57 => ?_) (fun hs_57 => ?_)
   ·try simp only [nz] at hs_57
    have hxe := hx1.at3 he1 he2 (by omega)
    have hex : x1.2 = 11 := by rw [hxe]
    have hxf : x1.1 = false := by rw [hxe]
    iterate 2 refine .O ?_
    refine .P2 ?_
    iterate 5 refine .O ?_
    refine .P2 ?_
    refine .nil (.seq (.cond_true rfl (.region (.P ?_))))
    refine .nil (.seq (.seq (.seq (.region (.P2 ?_)))))
    refine .nil (.seq (.cond_true rfl (.seq (.region (.P3 ?_)))))
    refine .as 73 (.bool true) rfl (congrArg Value.bool (by rw [eqI_eq]; exact decide_eq_true hex)) ?_
    refine .P3 ?_
    refine .as 76 (.bool true) rfl (congrArg Value.bool (by rw [hxf]; rfl)) ?_
    refine .P2 ?_
    refine .nil (.seq (.ret (.seq ?_)))
    exact .end_ rfl rfl (fun m hm => ⟨rfl, hm.ext⟩)
   try simp only [nz] at hs_57
   iterate 4 refine .P ?_
   refine .splitB 61 rfl (fun hs_61 => ?_) (fun hs_61 => ?_)
   ·try simp only [nz] at hs_61
    have hxe := hx1.at3 he1 he2 (by omega)
    have hex : x1.2 = 11 := by rw [hxe]
    have hxf : x1.1 = false := by rw [hxe]
    iterate 5 refine .O ?_
    refine .P2 ?_
    refine .nil (.seq (.cond_true rfl (.region (.P ?_))))
    refine .nil (.seq (.seq (.seq (.region (.P2 ?_)))))
    refine .nil (.seq (.cond_true rfl (.seq (.region (.P3 ?_)))))
    refine .as 73 (.bool true) rfl (congrArg Value.bool (by rw [eqI_eq]; exact decide_eq_true hex)) ?_
    refine .P3 ?_
    refine .as 76 (.bool true) rfl (congrArg Value.bool (by rw [hxf]; rfl)) ?_
    refine .P2 ?_
    refine .nil (.seq (.ret (.seq ?_)))
    exact .end_ rfl rfl (fun m hm => ⟨rfl, hm.ext⟩)
   try simp only [nz] at hs_61
   refine .P ?_
   refine .F fa38_1 ?_
   refine .L ag22 ?_
   refine .G (ln22 ..) ?_
   refine .P3 ?_
   refine .nil (.seq (.cond rfl (fun ht68 => ?_) fun ht68 => ?_))
   ·try simp only [nz] at ht68
    have hxe := hx1.at3 he1 he2 (by omega)
    have hex : x1.2 = 11 := by rw [hxe]
    have hxf : x1.1 = false := by rw [hxe]
    refine .region (.P ?_)
    refine .nil (.seq (.seq (.seq (.region (.P2 ?_)))))
    refine .nil (.seq (.cond_true rfl (.seq (.region (.P3 ?_)))))
    refine .as 73 (.bool true) rfl (congrArg Value.bool (by rw [eqI_eq]; exact decide_eq_true hex)) ?_
    refine .P3 ?_
    refine .as 76 (.bool true) rfl (congrArg Value.bool (by rw [hxf]; rfl)) ?_
    refine .P2 ?_
    refine .nil (.seq (.ret (.seq ?_)))
    exact .end_ rfl rfl (fun m hm => ⟨rfl, hm.ext⟩)
   try simp only [nz] at ht68
   refine .skip (.seq (.seq (.seq (.region (.P2 ?_)))))
   refine .nil (.seq (.cond rfl (fun ht70 => ?_) fun ht70 => ?_))
   ·try simp only [nz] at ht70
    exfalso; omega
   try simp only [nz] at ht70
   obtain ⟨p, rfl⟩ := Int.eq_ofNat_of_zero_le (show 0 ≤ t by omega)
   obtain ⟨q, rfl⟩ := Int.eq_ofNat_of_zero_le (show 0 ≤ u by omega)
   have hp : p < l.length := by omega
   have hq : q < l2.length := by omega
   have h1w := he1.fine.well
   have h2w := he2.fine.well
   obtain ⟨hx2, hx3⟩ := hx1.at4 he1 he2 hp hq
   refine .skip (.seq (.seq ?_))
   refine .D [(15, 0), (15, 1), (15, 3), (13, 7), (15, 7), (3, 23), (15, 7), (3, 71), (7, 247), (12, 7), (12, 7), (12, 7), (0, 2055), (0, 6151), (12, 15367), (7, 32759), (15, 65535), (15, 131071), (15, 262143)] (by kernel_rfl) (by kernel_rfl) (fun base hbase hB => ?_)
   iterate 2 refine .P ?_
   refine .as 79 (.bool true) rfl (congrArg Value.bool (by rw [eqI_eq]; exact decide_eq_true hx2)) ?_
   iterate 2 refine .P ?_
   refine .F fa38_0 ?_
   refine .J ag22 ?_
   refine .F fa38_1 ?_
   refine .J ag22 ?_
   refine .calln _ _ _ rfl rfl rfl rfl rfl rfl rfl rfl rfl (fun m hm => rJoined_ok hm.lole (Mem.kr hm) hlA hlB hwl2 (fun i a ha => h2w.sound i a ha) (by omega) (by omega)) (fun z hz => ?_)
   obtain ⟨zh, zv⟩ := z
   simp only at hz
   iterate 2 refine .P ?_
   refine .F fa38_0 ?_
   refine .R ag22 hB ?_
   refine .len rfl rfl rfl rfl rfl rfl (ln22 ..) ?_
   refine .P ?_
   refine .as 92 (.int .i64 (Int.ofNat (q + l.length))) rfl (congrArg (Value.int .i64) (mv_wr (n := l.length) (q := q) rfl (by omega))) ?_
   refine .calln _ _ _ rfl rfl rfl rfl rfl rfl rfl rfl rfl (fun m hm => Same_ok (l := joinL l l2) (p := p) (q := q + l.length) hm.lole (hz.mono (fun b o h => h.elim (fun h => InH.kr hm (fun p_ hp_ => List.mem_append_left _ hp_) b o h) (Mem.kr hm b o)) (RTy.mono (fun b o h => h.elim (fun h => InH.kr hm (fun p_ hp_ => List.mem_append_left _ hp_) b o h) (Mem.kr hm b o)))) (few_join hwl hwl2) (by rw [joinL_len]; omega) (h1w.join h2w) (by rw [joinL_len]; omega) (by rw [joinL_len]; omega)) (fun z3 hz3 => ?_)
   refine .eqBool rfl rfl rfl rfl rfl underlying4 rfl rfl ?_
   refine .as 94 (.bool true) rfl (congrArg Value.bool (by rw [show x1.1 = z3 by rw [Bool.eq_iff_iff, hx3, hz3]]; cases z3 <;> rfl)) ?_
   iterate 2 refine .P ?_
   refine .nil (.seq (.ret ?_))
   exact .end_ rfl rfl (fun m hm => ⟨rfl, hm.ext⟩)
  try simp only [nz] at hs_47
  have hne2 : e2 ≠ 0 := by omega
  have hxe := hx1.at2 he1 he2 hne2
  have hex : x1.2 = e2 := by rw [hxe]
  have hxf : x1.1 = false := by rw [hxe]
  iterate 20 refine .O ?_
  refine .P ?_
  refine .nil (.seq (.cond_false rfl (.skip (.seq (.seq (.seq (.region (.P2 ?_))))))))
  refine .nil (.seq (.cond rfl (fun ht70 => ?_) fun ht70 => ?_))
  ·try simp only [nz] at ht70
   refine .seq (.region (.P3 ?_))
   refine .as 73 (.bool true) rfl (congrArg Value.bool (by rw [eqI_eq]; exact decide_eq_true hex)) ?_
   refine .P3 ?_
   refine .as 76 (.bool true) rfl (congrArg Value.bool (by rw [hxf]; rfl)) ?_
   refine .P2 ?_
   refine .nil (.seq (.ret (.seq ?_)))
   exact .end_ rfl rfl (fun m hm => ⟨rfl, hm.ext⟩)
  try simp only [nz] at ht70
  exfalso; omega
 try simp only [nz] at ht41
 have hne1 : e1 ≠ 0 := by omega
 have hxe := hx1.at1 he1 hne1
 have hex : x1.2 = e1 := by rw [hxe]
 have hxf : x1.1 = false := by rw [hxe]
 refine .skip (.seq (.seq (.seq (.region (.P2 ?_)))))
 refine .as 46 (.bool false) rfl (congrArg Value.bool (by rw [eqI_eq]; exact decide_eq_false hne1)) ?_
 refine .P ?_
 iterate 20 refine .O ?_
 refine .P ?_
 refine .nil (.seq (.cond_false rfl (.skip (.seq (.seq (.seq (.region (.P2 ?_))))))))
 refine .as 70 (.bool true) rfl (congrArg Value.bool (by rw [eqI_eq, decide_eq_false hne1]; rfl)) ?_
 refine .nil (.seq (.cond_true rfl (.seq (.region (.P3 ?_)))))
 refine .as 73 (.bool true) rfl (congrArg Value.bool (by rw [eqI_eq]; exact decide_eq_true hex)) ?_
 refine .P3 ?_
 refine .as 76 (.bool true) rfl (congrArg Value.bool (by rw [hxf]; rfl)) ?_
 refine .P2 ?_
 refine .nil (.seq (.ret (.seq ?_)))
 exact .end_ rfl rfl (fun m hm => ⟨rfl, hm.ext⟩)
end Go.Proofs.YtmfbljaemhpokaaGreatDoor
