/-
  The engine, part 5: an interpreter over abstract memories, and the proof that the model's machine does what it reckons. Conditions: none.
-/
import Derived.Test.YtdgbgmpnjggikaaGreatDoorEng4

set_option autoImplicit true
set_option relaxedAutoImplicit true
set_option linter.unusedSectionVars false
set_option linter.unusedVariables false
set_option linter.unusedSimpArgs false
namespace Go.Ab
mutual
def dcells {H : Type} : DataW H → List Value
 | .lit (.int k n) => [.int k n]
 | .lit (.bool b) => [.bool b]
 | .lit (.float k b) => [.float k b]
 | .lit (.string l) => [.string ⟨⟨l⟩⟩]
 | .agg l => dcellss l
 | _ => []
def dcellss {H : Type} : List (DataW H) → List Value
 | [] => []
 | x :: xs => dcells x ++ dcellss xs
end
def contig (P : Program) (n : Nat) : Nat → List Field → Bool
 | off, [] => Nat.beq off n
 | off, f :: fs => Nat.beq f.offset off && contig P n (off + P.cellsOf f.type) fs
def plainT (P : Program) : Nat → TypeId → Bool
 | 0, _ => false
 | d + 1, t => match P.underlying t with
  | some .bool | some (.int _) | some (.float _) | some .string => true
  | some (.struct fs) => (fs.toList.all fun f => plainT P d f.type) && contig P (P.cellsOf t) 0 fs.toList
  | some (.array n e) => plainT P d e && Nat.beq (P.cellsOf t) (n * P.cellsOf e)
  | _ => false
section
variable {H : Type} {enc : TypeId × Value → H} {P : Program} {w : World} {base : Nat} {spare : Nat → Bool} {held : Bool}
theorem struct_cells {cs : List Value} {n : Nat} (hn : cs.length = n) : ∀ (fs : List Field) (xs : List (DataW H)) (off : Nat), contig P n off fs = true → off ≤ n → xs.length = fs.length → (∀ (i : Nat) (f : Field) (x : DataW H), fs[i]? = some f → xs[i]? = some x → (cs.drop f.offset).take (P.cellsOf f.type) = dcells x ∧ f.offset + P.cellsOf f.type ≤ n) → cs.drop off = dcellss xs
 | [], xs, off, hc, _, hx, _ => by
  cases xs with
  | nil =>
   unfold contig at hc
   rw [nbeq, decide_eq_true_eq] at hc
   rw [List.drop_of_length_le (by omega)]
   rfl
  | cons x xs => simp at hx
 | f :: fs, xs, off, hc, ho, hx, h => by
  cases xs with
  | nil => simp at hx
  | cons x xs =>
   unfold contig at hc
   rw [Bool.and_eq_true, nbeq, decide_eq_true_eq] at hc
   obtain ⟨h1, h2⟩ := h 0 f x rfl rfl
   rw [hc.1] at h1 h2
   have ih := struct_cells hn fs xs (off + P.cellsOf f.type) hc.2 h2 (by simpa using hx) fun i g y hg hy => h (i + 1) g y (by simpa using hg) (by simpa using hy)
   show cs.drop off = dcells x ++ dcellss xs
   rw [← h1, ← ih, ← List.drop_drop, List.take_append_drop]
theorem array_cells {cs : List Value} {n k : Nat} (hn : cs.length = n * k) : ∀ (xs : List (DataW H)) (j : Nat), j + xs.length = n → (∀ (i : Nat) (x : DataW H), xs[i]? = some x → (cs.drop ((j + i) * k)).take k = dcells x) → cs.drop (j * k) = dcellss xs
 | [], j, hj, _ => by
  have : j = n := by simpa using hj
  rw [List.drop_of_length_le (by rw [hn, this]; exact Nat.le_refl _)]
  rfl
 | x :: xs, j, hj, h => by
  simp only [List.length_cons] at hj
  have h1 := h 0 x rfl
  have ih := array_cells hn xs (j + 1) (by omega) fun i y hy => by
   have := h (i + 1) y (by simpa using hy)
   rw [show j + 1 + i = j + (i + 1) by omega]
   exact this
  show cs.drop (j * k) = dcells x ++ dcellss xs
  rw [← h1, ← ih, Nat.add_zero, Nat.succ_mul, ← List.drop_drop, List.take_append_drop]
theorem contig_le {n : Nat} : ∀ {fs : List Field} {off : Nat}, contig P n off fs = true → off ≤ n ∧ ∀ (i : Nat) (f : Field), fs[i]? = some f → f.offset + P.cellsOf f.type ≤ n
 | [], off, h => by
  unfold contig at h
  rw [nbeq, decide_eq_true_eq] at h
  exact ⟨by omega, fun i f hf => by simp at hf⟩
 | g :: fs, off, h => by
  unfold contig at h
  rw [Bool.and_eq_true, nbeq, decide_eq_true_eq] at h
  obtain ⟨h1, h2⟩ := contig_le h.2
  refine ⟨by omega, fun i f hf => ?_⟩
  cases i with
  | zero =>
   simp only [List.getElem?_cons_zero, Option.some.injEq] at hf
   subst hf
   omega
  | succ i => exact h2 i f (by simpa using hf)
theorem trod_plain : ∀ (d : Nat) (t : TypeId), plainT P d t = true → ∀ (fuel : Nat) (cs : List Value) (x : DataW H × List MemPlace), DataW.trod enc P w base spare held fuel t cs = some x → cs = dcells x.1 := by
 intro d
 induction d with
 | zero => intro t h; cases h
 | succ d ih =>
  intro t h fuel cs x hx
  unfold plainT at h
  split at h
  ·rename_i ht
   obtain ⟨b, rfl, rfl⟩ := DataW.trod_bool ht hx
   rfl
  ·rename_i k ht
   obtain ⟨n, rfl, rfl, _⟩ := DataW.trod_int ht hx
   rfl
  ·rename_i k ht
   cases fuel with
   | zero => cases hx
   | succ m =>
    unfold DataW.trod at hx
    rw [ht] at hx
    split at hx <;> simp_all
    obtain ⟨⟨rfl, _⟩, rfl⟩ := hx
    rfl
  ·rename_i ht
   obtain ⟨s, rfl, rfl, _⟩ := DataW.trod_string ht hx
   rfl
  ·rename_i fs ht
   obtain ⟨xs, m, rfl, rfl, hl, hlen, hf⟩ := DataW.trod_struct ht hx
   rw [Bool.and_eq_true, List.all_eq_true] at h
   have := struct_cells (P := P) hl fs.toList (xs.map (·.1)) 0 h.2 (Nat.zero_le _) (by simp [hlen]) fun i f y hi hy => by
    rw [List.getElem?_map, Option.map_eq_some_iff] at hy
    obtain ⟨z, hz, rfl⟩ := hy
    have h1 := hf i f (by simpa using hi)
    rw [hz] at h1
    exact ⟨ih _ (h.1 f (List.mem_of_getElem? hi)) _ _ _ h1, (contig_le h.2).2 i f hi⟩
   have h9 : cs = dcellss (xs.map (·.1)) := by simpa using this
   exact h9
  ·rename_i n e ht
   obtain ⟨xs, m, rfl, rfl, hl, hlen, hf⟩ := DataW.trod_array ht hx
   rw [Bool.and_eq_true, nbeq, decide_eq_true_eq] at h
   have := array_cells (n := n) (k := P.cellsOf e) (by rw [hl, h.2]) (xs.map (·.1)) 0 (by simp [hlen]) fun i y hy => by
    rw [List.getElem?_map, Option.map_eq_some_iff] at hy
    obtain ⟨z, hz, rfl⟩ := hy
    have hi : i < n := by
     have := (List.getElem?_eq_some_iff.1 hz).1
     omega
    have h1 := hf i hi
    rw [hz] at h1
    rw [Nat.zero_add]
    exact ih _ h.1 _ _ _ h1
   have h9 : cs = dcellss (xs.map (·.1)) := by simpa using this
   exact h9
  cases h
end
end Go.Ab
namespace Go.Ab
theorem laidVars_get {P : Program} {w : World} : ∀ {l : List (String × DataW Unit)} {ps : List MemPlace}, DataW.LaidVars P w l ps → ∀ {n : String} {d : DataW Unit}, (n, d) ∈ l → ∃ g t cs fuel p, P.globalNamed n = some g ∧ (P.globals[g]?).map (·.type) = some t ∧ w.var? P n = some cs ∧ DataW.trod (fun _ => ()) P w 0 (fun _ => true) false fuel t cs.toList = some (d, p)
 | [], _, _, _, _, hm => by cases hm
 | (n', d') :: r, ps, h, n, d, hm => by
  obtain ⟨g, t, cs, fuel, p, q, h1, h2, h3, h4, h5, _⟩ := h
  cases hm with
  | head => exact ⟨g, t, cs, fuel, p, h1, h2, h3, h4⟩
  | tail _ hm => exact laidVars_get h5 hm
section
variable {P : Program} {W : World} {l : List (String × DataW Unit)} {n : String} {d : DataW Unit} {g t k : Nat}
theorem plainVar (hsh : W.ShapedOpen P) (hL : laidMet P l W) (hm : (n, d) ∈ l) (hg : P.globalNamed n = some g) (ht : (P.globals[g]?).map (·.type) = some t) (hlt : Nat.blt g P.globals.size = true)
  (hz : ((begin P (fun _ _ => 0) default).world.heap[g]?).bind (fun o => o.row?.map fun x => (x.1.size, x.2)) = some (k, t)) (hp : plainT P 10 t = true) : ∃ fr, W.heap[g]? = some (.cells ⟨dcells d⟩ t fr) := by
 obtain ⟨_, hL, _⟩ := hL
 obtain ⟨g', t', cs, fuel, p, h1, h2, h3, h4⟩ := laidVars_get hL hm
 obtain rfl := Option.some.inj (hg.symm.trans h1)
 obtain rfl := Option.some.inj (ht.symm.trans h2)
 obtain ⟨fr, hb⟩ := block_of_var hsh hg hlt h3 hz
 have h5 : cs.toList = dcells d := trod_plain 10 t hp _ _ _ h4
 exact ⟨fr, by rw [hb]; congr 2; exact Array.ext' h5⟩
end
variable [Vals]
theorem lrel_at (hg : ground.go vs = true) : ∀ v ∈ vs, LRel ρ v v := by
 have hgr : ∀ (vs : List Value), ground.go vs = true → ∀ v ∈ vs, ground v = true := by
  intro vs
  induction vs with
  | nil => intro _ v hv; cases hv
  | cons x xs ih =>
   intro h v hv
   simp only [ground.go, Bool.and_eq_true] at h
   cases hv with
   | head => exact h.1
   | tail _ hv => exact ih h.2 v hv
 intro v hv
 have h := hgr vs hg v hv
 unfold LRel
 split
 ·simp [ground] at h
 ·simp [ground] at h
 ·simp [ground] at h
 exact ⟨h, rfl⟩
def LaidOk (P : Program) (W : World) (ρ : Ren) (b : Nat) (g : Bool) (vs : List Value) : Prop :=
 ∃ s c t fr, ρ b = some s ∧ W.heap[s.blk]? = some (.cells c t fr) ∧ s.off + vs.length ≤ c.size ∧ (∀ (i : Nat) v, vs[i]? = some v → ∃ v', c[s.off + i]? = some v' ∧ LRel ρ v v') ∧ (g = false → s.off = 0 ∧ c.size = vs.length) ∧ (g = true → s.cap < big ∧ s.off + s.cap * P.cellsOf t ≤ c.size)
theorem laidOk_plain (hρ : ρ b = some ⟨b, 0, 0⟩) (hW : W.heap[b]? = some (.cells ⟨vs⟩ t fr)) (hg : ground.go vs = true) : LaidOk P W ρ b false vs :=
 ⟨⟨b, 0, 0⟩, ⟨vs⟩, t, fr, hρ, hW, by simp, fun i v hv => ⟨v, by simpa using hv, lrel_at hg v (List.mem_of_getElem? hv)⟩, fun _ => ⟨rfl, rfl⟩, fun h => by cases h⟩
end Go.Ab
namespace Go.Ab
variable [Vals]
section
variable {S : List Nat} {m0 m m' : AW} {h : Hp}
theorem Knows.perm (k : Knows S m0 m h) (p : h.Perm h') : Knows S m0 m h' :=
 ⟨k.lole, k.next, k.lo, k.log, k.none_, k.keep, fun b o hb => k.has b o (p.mem_iff.2 hb), (p.map Prod.fst).nodup_iff.1 k.apart⟩
theorem Knows.kill (k : Knows S m0 m ((b, o) :: h)) : Knows S m0 (m.set b none) h := by
 obtain ⟨g1, g2, g3⟩ := k.has b o List.mem_cons_self
 have hlog : ∀ c, c ∈ (m.set b none).log → c ∈ m.log ∨ (c = b ∧ b < m.lo) := by
  intro c hc
  simp only [AW.set] at hc
  cases hb : Nat.blt b m.lo with
  | true =>
   rw [hb] at hc
   rw [nblt, decide_eq_true_eq] at hb
   rcases List.mem_cons.1 hc with hc | hc
   ·exact .inr ⟨hc, hb⟩
   exact .inl hc
  | false =>
   rw [hb] at hc
   exact .inl hc
 have hap := k.apart
 simp only [List.map_cons, List.nodup_cons] at hap
 refine ⟨k.lole, k.next, k.lo, fun c hc => ?_, fun hs => ?_, fun c hc hs => ?_, fun c x hc => ?_, hap.2⟩
 ·rcases hlog c hc with h | ⟨rfl, h⟩
  ·exact k.log c h
  rcases g3 with g3 | g3
  ·have := k.lole
   have := k.lo
   omega
  exact .inr ⟨g3, by rw [← k.lo]; exact h⟩
 ·have : Nat.blt b m.lo = false := by
   rw [nblt, decide_eq_false_iff_not]
   rcases g3 with g3 | g3
   ·have := k.lole
    have := k.lo
    omega
   have := hs b g3
   have := k.lo
   omega
  simp only [AW.set, this]
  exact k.none_ hs
 ·simp only [AW.set, Tr.get_set]
  rw [if_neg]
  ·exact k.keep c hc hs
  rintro rfl
  rcases g3 with g3 | g3
  ·omega
  exact hs g3
 simp only [AW.set, Tr.get_set]
 have hne : c ≠ b := by
  rintro rfl
  exact hap.1 (List.mem_map.2 ⟨_, hc, rfl⟩)
 rw [if_neg hne]
 exact k.has c x (List.mem_cons_of_mem _ hc)
end
inductive Gro where
 | no
 | emp (b : Nat)
 | one (b : Nat)
 | two (b b0 : Nat) (old : List Value)
def Gro.H (e : TypeId) (cs : List Value) : Gro → Hp
 | .no => []
 | .emp b => [(b, .cells [] e false .plain none)]
 | .one b => [(b, .cells cs e true .plain none)]
 | .two b b0 old => [(b, .cells cs e true .plain (some b0)), (b0, .cells old e true .plain (some b))]
def Gro.V (n : Nat) : Gro → Value
 | .no => .slice none 0 0
 | .emp b => .slice (some ⟨b, 0, none⟩) 0 0
 | .one b => .slice (some ⟨b, 0, none⟩) n top
 | .two b _ _ => .slice (some ⟨b, 0, none⟩) n top
def Gro.Ok (n : Nat) : Gro → Prop
 | .no => n = 0
 | .emp _ => n = 0
 | _ => 0 < n
def AppT (P : Program) (e : TypeId) (sz : Nat) : Prop := sizeT P e = some sz ∧ ∃ i, P.info? e = some i ∧ (zeroFits P e sz && (Nat.ble i.bytes 1024 && (Nat.ble 1 i.bytes && Nat.ble 1 sz))) = true
theorem below_set (lo b : Nat) (lg : List Nat) : (bif Nat.blt b lo then b :: lg else lg) = below lo [b] ++ lg := by
 simp only [below]
 cases Nat.blt b lo <;> rfl
theorem below_two (lo b c : Nat) : below lo [b, c] = below lo [b] ++ below lo [c] := by
 simp only [below]
 cases Nat.blt b lo <;> rfl
theorem below_below {lo base : Nat} (h : lo ≤ base) : ∀ l : List Nat, below lo (below base l) = below lo l
 | [] => rfl
 | b :: l => by
  have ih := below_below h l
  simp only [below]
  cases hb : Nat.blt b base with
  | true => simp only [cond_true, below, ih]
  | false =>
   have : Nat.blt b lo = false := by
    rw [nblt, decide_eq_false_iff_not] at hb ⊢
    omega
   simp only [cond_false, this, ih]
theorem appendA_gro (ht : AppT P e sz) {g : Gro} (hk : Knows S m0 m (g.H e cs ++ h)) (hg : g.Ok n) (hc : cs.length = n * sz) (hv : vs.length = k * sz) (hf : flats vs = true) (hn : n + k ≤ 4294967296) :
  ∃ g' hp nx tch, (∀ lo lg, appendA P e ⟨m.heap, m.next, lo, lg⟩ (g.V n) k vs = some (Gro.V (n + k) g', ⟨hp, nx, lo, below lo tch ++ lg⟩)) ∧ Knows S m0 ⟨hp, nx, m.lo, below m.lo tch ++ m.log⟩ (g'.H e (cs ++ vs) ++ h) ∧ g'.Ok (n + k) ∧ m.next ≤ nx ∧ (g = .no ∨ (∃ b, g = .emp b) → tch = []) := by
 obtain ⟨hsz, i, hi, hb⟩ := ht
 simp only [Bool.and_eq_true] at hb
 obtain ⟨hz, hb1, hb2, hb3⟩ := hb
 cases k with
 | zero =>
  have hvs : vs = [] := List.eq_nil_of_length_eq_zero (by rw [hv]; omega)
  subst hvs
  refine ⟨g, m.heap, m.next, [], ?_, by simpa [below] using hk, hg, Nat.le_refl _, fun _ => rfl⟩
  intro lo lg
  cases g with
  | no => rfl
  | emp b => rfl
  | one b =>
   show (bif Nat.ble n top then _ else _) = _
   rw [nble, decide_eq_true (by unfold top; omega)]
   rfl
  | two b b0 old =>
   show (bif Nat.ble n top then _ else _) = _
   rw [nble, decide_eq_true (by unfold top; omega)]
   rfl
 | succ k =>
  have hsz1 : 1 ≤ sz := Nat.le_of_ble_eq_true hb3
  have hcond : ∀ len, len = n → (!(zeroFits P e sz && Nat.beq vs.length ((k + 1) * sz) && flats vs && Nat.ble (len + (k + 1)) 4294967296 && Nat.ble i.bytes 1024 && Nat.ble 1 i.bytes && Nat.ble 1 sz)) = false := by
   intro len e1
   subst e1
   have e1 : Nat.beq vs.length ((k + 1) * sz) = true := by rw [nbeq, hv]; simp
   have e2 : Nat.ble (len + (k + 1)) 4294967296 = true := by rw [nble]; simpa using hn
   rw [hz, e1, hf, e2, hb1, hb2, hb3]
   rfl
  have hcs0 : cs.take (n * sz) = cs := by rw [← hc, List.take_length]
  cases g with
  | no =>
   have hn0 : n = 0 := hg
   subst hn0
   have hcs : cs = [] := List.eq_nil_of_length_eq_zero (by rw [hc]; omega)
   subst hcs
   refine ⟨.one m.next, m.heap.set m.next (some (.cells ([] ++ vs) e true .plain none)), m.next + 1, [], fun lo lg => ?_, hk.new (.cells ([] ++ vs) e true .plain none), (by show 0 < _; omega), Nat.le_succ _, fun _ => rfl⟩
   show appendA P e _ (.slice none 0 0) (k + 1) vs = _
   unfold appendA
   simp only [hsz, hi, hcond 0 rfl]
   rfl
  | emp b =>
   have hn0 : n = 0 := hg
   subst hn0
   have hcs : cs = [] := List.eq_nil_of_length_eq_zero (by rw [hc]; omega)
   subst hcs
   have hk2 := hk.sub (h' := h) (List.sublist_append_right _ _)
   refine ⟨.one m.next, m.heap.set m.next (some (.cells ([] ++ vs) e true .plain none)), m.next + 1, [], fun lo lg => ?_, hk2.new (.cells ([] ++ vs) e true .plain none), (by show 0 < _; omega), Nat.le_succ _, fun _ => rfl⟩
   have hbk := (hk.has b (.cells [] e false .plain none) (by simp [Gro.H])).1
   show appendA P e _ (.slice (some ⟨b, 0, none⟩) 0 0) (k + 1) vs = _
   unfold appendA
   simp only [hsz, hi, hcond 0 rfl, hbk]
   have e1 : Nat.blt 0 big = true := rfl
   have e2 : Nat.ble (0 + (k + 1)) 0 = false := by rw [nble]; simp
   simp only [e1, e2, cond_true, cond_false]
   have e3 : rdCells (.cells [] e false .plain none) 0 (0 * sz) = some [] := by
    rw [Nat.zero_mul]
    rfl
   rw [e3]
   rfl
  | one b =>
   have hk1 : Knows S m0 m ((b, .cells cs e true .plain none) :: h) := hk
   have hbk := (hk1.has b _ List.mem_cons_self).1
   have hk2 := hk1.set (o' := .cells cs e true .plain (some m.next)) .head
   have hk3 := hk2.new (.cells (cs ++ vs) e true .plain (some b))
   refine ⟨.two m.next b cs, (m.heap.set b (some (.cells cs e true .plain (some m.next)))).set m.next (some (.cells (cs ++ vs) e true .plain (some b))), m.next + 1, [b], fun lo lg => ?_, by
    simp only [AW.new, AW.set, below_set] at hk3
    exact hk3, (by show 0 < _; omega), Nat.le_succ _, fun h => by rcases h with h | ⟨_, h⟩ <;> cases h⟩
   show appendA P e _ (.slice (some ⟨b, 0, none⟩) n top) (k + 1) vs = _
   unfold appendA
   simp only [hsz, hi, hcond n rfl, hbk]
   have e1 : Nat.blt top big = false := rfl
   have e4 : Nat.beq e e = true := by rw [nbeq]; simp
   have e5 : Nat.beq 0 ((top - top) * sz) = true := by rw [nbeq]; simp
   have e6 : Nat.ble (n * sz) cs.length = true := by rw [nble]; simp [hc]
   have e7 : Nat.beq (n * sz) cs.length = true := by rw [nbeq]; simp [hc]
   simp only [Nat.zero_add, e1, e4, e5, e6, e7, cond_true, cond_false, hcs0, List.drop_zero, ← below_set]
   rfl
  | two b b0 old =>
   have hk0 : Knows S m0 m ((b, .cells cs e true .plain (some b0)) :: (b0, .cells old e true .plain (some b)) :: h) := hk
   have hbk := (hk0.has b _ List.mem_cons_self).1
   have hk1 : Knows S m0 (m.set b0 none) ((b, .cells cs e true .plain (some b0)) :: h) := (hk0.perm (List.Perm.swap _ _ _)).kill
   have hk2 := hk1.set (o' := .cells cs e true .plain (some m.next)) .head
   have hk3 := hk2.new (.cells (cs ++ vs) e true .plain (some b))
   refine ⟨.two m.next b cs, ((m.heap.set b0 none).set b (some (.cells cs e true .plain (some m.next)))).set m.next (some (.cells (cs ++ vs) e true .plain (some b))), m.next + 1, [b, b0], fun lo lg => ?_, by
    simp only [AW.new, AW.set, below_set] at hk3
    rw [below_two, List.append_assoc]
    exact hk3, (by show 0 < _; omega), Nat.le_succ _, fun h => by rcases h with h | ⟨_, h⟩ <;> cases h⟩
   show appendA P e _ (.slice (some ⟨b, 0, none⟩) n top) (k + 1) vs = _
   unfold appendA
   simp only [hsz, hi, hcond n rfl, hbk]
   have e1 : Nat.blt top big = false := rfl
   have e4 : Nat.beq e e = true := by rw [nbeq]; simp
   have e5 : Nat.beq 0 ((top - top) * sz) = true := by rw [nbeq]; simp
   have e6 : Nat.ble (n * sz) cs.length = true := by rw [nble]; simp [hc]
   have e7 : Nat.beq (n * sz) cs.length = true := by rw [nbeq]; simp [hc]
   have hl : below lo [b, b0] ++ lg = (bif Nat.blt b lo then b :: (bif Nat.blt b0 lo then b0 :: lg else lg) else (bif Nat.blt b0 lo then b0 :: lg else lg)) := by
    rw [below_two, List.append_assoc, below_set, below_set]
   simp only [Nat.zero_add, e1, e4, e5, e6, e7, cond_true, cond_false, hcs0, List.drop_zero, hl]
   rfl
def Shows (X : Cx) (h : Hp) (sz : Nat) (v : Value) (k : Nat) (vs : List Value) : Prop := lenV v = some k ∧ vs.length = k * sz ∧ flats vs = true ∧ ∀ m lo lg, Knows X.S X.m0 m h → firstA ⟨m.heap, m.next, lo, lg⟩ sz k v = some vs
theorem Shows.slice {sz b off n c : Nat} (hs : Sees X h b (.cells cs el g md mate)) (hl : off + n * sz ≤ cs.length) (hv : (cs.drop off).take (n * sz) = vs) (hf : flats vs = true) : Shows X h sz (.slice (some ⟨b, off, none⟩) n c) n vs := by
 refine ⟨rfl, ?_, hf, fun m lo lg hk => ?_⟩
 ·rw [← hv, List.length_take, List.length_drop]
  omega
 show (bif Nat.beq n 0 then some [] else (m.heap.get b).bind fun o => rdCells o off (n * sz)) = some vs
 cases hb : Nat.beq n 0 with
 | true =>
  rw [nbeq, decide_eq_true_eq] at hb
  subst hb
  rw [← hv]
  simp
 | false =>
  rw [hs m hk]
  simp only [cond_false, Option.bind_some]
  exact rdCells_take hl hv
theorem Shows.nil (ha : a = none ∨ ∃ b off, a = some ⟨b, off, none⟩) : Shows X h sz (.slice a 0 c) 0 [] := by
 refine ⟨rfl, by simp, rfl, fun m lo lg hk => ?_⟩
 rcases ha with rfl | ⟨b, off, rfl⟩ <;> rfl
theorem appendV_gro (h1 : P.underlying t1 = some (.slice e)) (h2 : P.underlying t2 = some (.slice e2)) (hsz : sizeT P e = some sz) (hl : lenV x = some k) (hf : firstA m sz k x = some vs) : appendV P (some t1) (some t2) s x m = valP (appendA P e m s k vs) := by
 unfold appendV
 simp only [Option.bind_some, h1, h2, hsz, hl, hf]
section
variable {X : Cx} {ops : Array Oper} {base : Nat} {rI : List Nat} {cl : Bool} {mk : List (Nat × Nat)} {e : Env} {h : Hp} {Q : Out → Prop} {o : Oper} {i : Info} {rest : List Oper} {drest : List (Oper × Info)} {t : Tmp}
theorem Ie.append {g : Gro} (hp : h.Perm (g.H el cs ++ h1)) (hx : evE X.P e x = some xv) (hv : Shows X h sz xv k vs) (hg : g.Ok n) (hc : cs.length = n * sz) (hn : n + k ≤ 4294967296) (hd : o.dst = some t) (ht : Nat.blt t X.n = true) (hgd : wantE ops e o = some true) (ho : o.op = .call { callee := .builtin .append, args := #[s, x], argTypes := #[t1, t2] }) (hu1 : X.P.underlying t1 = some (.slice el)) (hu2 : X.P.underlying t2 = some (.slice e2)) (hT : AppT X.P el sz) (hs : evE X.P e s = some (g.V n))
  (q : ∀ g' : Gro, g'.Ok (n + k) → Ie X ops ((t, g'.V (n + k)) :: e) (g'.H el (cs ++ vs) ++ h1) rest Q) : Ie X ops e h (o :: rest) Q := fun ts m a1 a2 => by
 obtain ⟨g', hp', nx, tch, h3, h4, h5, _, _⟩ := appendA_gro hT (a2.perm hp) hg hc hv.2.1 hv.2.2.1 hn
 refine Io.op (k := 0) (m' := ⟨hp', nx, m.lo, below m.lo tch ++ m.log⟩) (v := g'.V (n + k)) (wantE_spec a1 hgd) (by rw [ho]; rfl) ?_ ?_
 ·rw [ho, doOp_h rfl]
  have : evs X.P ts [s, x] = some [g.V n, xv] := by
   unfold evs evs evs
   rw [evE_ev a1 hs, evE_ev a1 hx]
   rfl
  show (match evs X.P ts [s, x] with | some args => callB X.P .append args #[t1, t2] m | none => none) = _
  rw [this]
  show appendV X.P (some t1) (some t2) (g.V n) xv m = _
  rw [appendV_gro hu1 hu2 hT.1 hv.1 (hv.2.2.2 m m.lo m.log a2)]
  have h6 := h3 m.lo m.log
  rw [show (⟨m.heap, m.next, m.lo, m.log⟩ : AW) = m from rfl] at h6
  rw [h6]
  rfl
 rw [hd]
 exact q g' h5 _ _ (a1.put ht _) h4
theorem De.append {g : Gro} (hp : h.Perm (g.H el cs ++ h1)) (hx : evE X.P e x = some xv) (hv : Shows X h sz xv k vs) (hg : g.Ok n) (hc : cs.length = n * sz) (hn : n + k ≤ 4294967296) (hi : i.cls = .h) (hok : i.hok = true) (hin : allIn i.pre (mk.map Prod.fst) = true) (hri : allIn i.pre rI = true) (hd : o.dst = some t) (ht : Nat.blt t X.n = true) (hgd : wantE ops e o = some true) (ho : o.op = .call { callee := .builtin .append, args := #[s, x], argTypes := #[t1, t2] }) (hu1 : X.P.underlying t1 = some (.slice el)) (hu2 : X.P.underlying t2 = some (.slice e2)) (hT : AppT X.P el sz) (hs : evE X.P e s = some (g.V n))
  (q : ∀ g' : Gro, g'.Ok (n + k) → De X ops base rI false mk ((t, g'.V (n + k)) :: e) (g'.H el (cs ++ vs) ++ h1) drest Q) : De X ops base rI cl mk e h ((o, i) :: drest) Q := fun ts m rs ws a1 a2 a3 a4 a5 => by
 obtain ⟨g', hp', nx, tch, h3, h4, h5, h6, _⟩ := appendA_gro hT (a2.perm hp) hg hc hv.2.1 hv.2.2.1 hn
 obtain ⟨j, out, g1, g2⟩ := q g' h5 _ ⟨hp', nx, m.lo, below m.lo tch ++ m.log⟩ rs ((i.i, below base tch) :: ws) (a1.put ht _) h4 ⟨a3.1, Nat.le_trans a3.2 h6⟩ a4 (fun hf => by cases hf)
 refine ⟨j, out, ?_, g2⟩
 have e2' : doOp X.P (irun X.P j) ts o.op ⟨hideB i.pre mk m.heap, m.next, base, []⟩ = some (.val (g'.V (n + k)) ⟨hp', nx, base, below base tch ++ []⟩) := by
  rw [hideB_all _ _ _ hin, ho, doOp_h rfl]
  have : evs X.P ts [s, x] = some [g.V n, xv] := by
   unfold evs evs evs
   rw [evE_ev a1 hs, evE_ev a1 hx]
   rfl
  show (match evs X.P ts [s, x] with | some args => callB X.P .append args #[t1, t2] ⟨m.heap, m.next, base, []⟩ | none => none) = _
  rw [this]
  show appendV X.P (some t1) (some t2) (g.V n) xv _ = _
  rw [appendV_gro hu1 hu2 hT.1 hv.1 (hv.2.2.2 m base [] a2), h3 base []]
  rfl
 have e1 : (i.hok && plainB i.pre m.heap mk) = true := by rw [hok, plainB_all _ _ _ hin]; rfl
 have e3 : ∀ w h, writeOk i.pre w h rs = true := fun w h => writeOk_in _ _ _ hri _ a4
 unfold dops
 rw [wantE_spec a1 hgd]
 have hle : X.m0.lo ≤ base := Nat.le_trans a2.lole a3.1
 simp only [cond_true, hi, e1, e2', e3, showB_all _ _ _ _ hin, hd, List.append_nil, below_below hle]
 rw [a2.lo] at g1
 exact g1
end
end Go.Ab
namespace Go.Ab
variable [Vals]
inductive Pick : Hp → Hp → Hp → Prop where
 | all {l : Hp} : Pick l l []
 | here {l r : Hp} : Pick (l ++ r) l r
 | one {p : Nat × AObj} {r : Hp} : Pick (p :: r) [p] r
 | tail {p : Nat × AObj} {h l r : Hp} (k : Pick h l r) : Pick (p :: h) l (p :: r)
 | over {h0 h l r : Hp} (k : Pick h l r) : Pick (h0 ++ h) l (h0 ++ r)
theorem Pick.perm {h l r : Hp} (k : Pick h l r) : h.Perm (l ++ r) := by
 induction k with
 | all => rw [List.append_nil]
 | here => exact .refl _
 | one => exact .refl _
 | @tail p h l r k ih => exact (ih.cons p).trans List.perm_middle.symm
 | @over h0 h l r k ih =>
  refine (ih.append_left h0).trans ?_
  rw [← List.append_assoc, ← List.append_assoc]
  exact List.perm_append_comm.append_right r
section
variable {κ : Type} [DecidableEq κ]
def findP (k : κ) : List (κ × Value) → Nat → Option (Nat × Value)
 | [], _ => none
 | (a, v) :: l, i => if k = a then some (i, v) else findP k l (i + 1)
def getP (k : κ) : List (κ × Value) → Option Value
 | [] => none
 | (a, v) :: l => if k = a then some v else getP k l
def putP (k : κ) (x : Value) : List (κ × Value) → List (κ × Value)
 | [] => [(k, x)]
 | (a, v) :: l => if k = a then (k, x) :: l else (a, v) :: putP k x l
theorem findP_get (k : κ) : ∀ (l : List (κ × Value)) (i : Nat), (findP k l i).map Prod.snd = getP k l
 | [], _ => rfl
 | (a, v) :: l, i => by
  unfold findP getP
  split
  ·rfl
  exact findP_get k l (i + 1)
def PairsK (K : κ → Value) : List MapEntry → List (κ × Value) → Prop
 | [], [] => True
 | e :: es, (a, v) :: l => e.key = K a ∧ e.val = v ∧ PairsK K es l
 | _, _ => False
structure KeyOk (P : Program) (t : TypeId) (K : κ → Value) : Prop where
 eq : ∀ a b, eqA P 10000 t (K a) (K b) = some (decide (a = b))
 ok : ∀ a, (keyV P 20 t (K a) && ground (K a)) = true
 same : ∀ a, sameKey 20 (K a) (K a) = true
theorem findA_pairs {P : Program} {t : TypeId} {K : κ → Value} (hK : KeyOk P t K) (k : κ) : ∀ (es : List MapEntry) (l : List (κ × Value)) (i : Nat), PairsK K es l → findA P t (K k) es i = some (findP k l i)
 | [], [], i, _ => rfl
 | e :: es, (a, v) :: l, i, h => by
  obtain ⟨h1, h2, h3⟩ := h
  unfold findA findP
  rw [h1, hK.eq]
  by_cases hk : k = a
  ·subst hk
   simp [h2]
  simp only [hk, decide_false, if_false]
  exact findA_pairs hK k es l (i + 1) h3
 | [], _ :: _, _, h => h.elim
 | _ :: _, [], _, h => h.elim
theorem PairsK.put {P : Program} {t : TypeId} {K : κ → Value} (hK : KeyOk P t K) (k : κ) (x : Value) (c : Nat) : ∀ (es : List MapEntry) (l : List (κ × Value)), PairsK K es l → ∃ es' c', mapPut P t es c (K k) x = some (.map es' c') ∧ PairsK K es' (putP k x l) := by
 have happ : ∀ (es : List MapEntry) (l : List (κ × Value)), PairsK K es l → findP k l 0 = none → ∀ i, findP k l i = none := by
  intro es l h hf i
  have := findP_get k l 0
  rw [hf] at this
  have h2 := findP_get k l i
  rw [← this] at h2
  cases hx : findP k l i with
  | none => rfl
  | some y => rw [hx] at h2; cases h2
 intro es l h
 unfold mapPut
 rw [findA_pairs hK k es l 0 h]
 cases hf : findP k l 0 with
 | none =>
  refine ⟨_, _, rfl, ?_⟩
  have hn := happ es l h hf
  clear hf happ
  induction l generalizing es with
  | nil =>
   cases es with
   | nil => exact ⟨rfl, rfl, trivial⟩
   | cons e es => exact h.elim
  | cons p l ih =>
   obtain ⟨a, v⟩ := p
   cases es with
   | nil => exact h.elim
   | cons e es =>
    obtain ⟨h1, h2, h3⟩ := h
    have h4 := hn 0
    unfold findP at h4
    split at h4
    ·cases h4
    rename_i hne
    unfold putP
    rw [if_neg hne]
    refine ⟨h1, h2, ih es h3 fun i => ?_⟩
    cases i with
    | zero =>
     have := hn 0
     unfold findP at this
     rw [if_neg hne] at this
     have e1 := findP_get k l 1
     rw [this] at e1
     have e2 := findP_get k l 0
     rw [← e1] at e2
     cases hx : findP k l 0 with
     | none => rfl
     | some y => rw [hx] at e2; cases e2
    | succ i =>
     have := hn i
     unfold findP at this
     rw [if_neg hne] at this
     exact this
 | some y =>
  obtain ⟨j, v⟩ := y
  have key : ∀ (es : List MapEntry) (l : List (κ × Value)) (i j : Nat) (v : Value), PairsK K es l → findP k l i = some (j, v) → i ≤ j ∧ sameKeyAt es (j - i) (K k) = true ∧ PairsK K (es.modify (j - i) fun e => { e with key := K k, val := x }) (putP k x l) := by
   intro es
   induction es with
   | nil =>
    intro l i j v h hf
    cases l with
    | nil => cases hf
    | cons p l => exact h.elim
   | cons e es ih =>
    intro l i j v h hf
    cases l with
    | nil => exact h.elim
    | cons p l =>
     obtain ⟨a, w⟩ := p
     obtain ⟨h1, h2, h3⟩ := h
     unfold findP at hf
     unfold putP
     split at hf
     ·rename_i hk
      subst hk
      cases hf
      rw [if_pos rfl, Nat.sub_self]
      refine ⟨Nat.le_refl _, ?_, ?_⟩
      ·unfold sameKeyAt
       simp only [List.getElem?_cons_zero, h1]
       exact hK.same k
      exact ⟨rfl, rfl, h3⟩
     rename_i hk
     rw [if_neg hk]
     obtain ⟨g1, g2, g3⟩ := ih l (i + 1) j v h3 hf
     have hj : j - i = (j - (i + 1)) + 1 := by omega
     rw [hj]
     refine ⟨by omega, ?_, ?_⟩
     ·unfold sameKeyAt at g2 ⊢
      simpa using g2
     exact ⟨h1, h2, g3⟩
  obtain ⟨_, g2, g3⟩ := key es l 0 j v h hf
  rw [Nat.sub_zero] at g2 g3
  simp only [g2, cond_true]
  exact ⟨_, _, rfl, g3⟩
end
theorem eqBytes_same (a : List UInt8) : eqBytes a a = true := by rw [eqBytes_eq]; simp
theorem KeyOk.string {P : Program} {t : TypeId} (hu : P.underlying t = some .string) : KeyOk P t Value.string where
 eq := fun a b => by
  have : eqA P (9999 + 1) t (.string a) (.string b) = some (decide (a = b)) := by
   unfold eqA
   simp only [hu, eqBase, eqBytes_eq]
   congr 1
   rw [decide_eq_decide]
   constructor
   ·intro h
    cases a with | mk a => cases b with | mk b =>
     cases a with | mk a => cases b with | mk b => cases h; rfl
   rintro rfl; rfl
  exact this
 ok := fun a => by
  have : keyV P (19 + 1) t (.string a) = true := by
   unfold keyV
   simp only [hu]
  rw [show (20 : Nat) = 19 + 1 from rfl, this]
  rfl
 same := fun a => by
  show sameKey (19 + 1) (.string a) (.string a) = true
  unfold sameKey
  exact eqBytes_same _
theorem KeyOk.int {P : Program} {t : TypeId} {k : IntKind} (hu : P.underlying t = some (.int k)) : KeyOk P t (Value.int k) where
 eq := fun a b => by
  have : eqA P (9999 + 1) t (.int k a) (.int k b) = some (decide (a = b)) := by
   unfold eqA
   simp only [hu, eqBase]
   rw [eqI_eq]
   simp
  exact this
 ok := fun a => by
  have : keyV P (19 + 1) t (.int k a) = true := by
   unfold keyV
   simp only [hu]
  rw [show (20 : Nat) = 19 + 1 from rfl, this]
  rfl
 same := fun a => by
  show sameKey (19 + 1) (.int k a) (.int k a) = true
  unfold sameKey
  simp [eqI_eq]
section
variable {X : Cx} {ops : Array Oper} {e : Env} {h : Hp} {Q : Out → Prop} {o : Oper} {rest : List Oper} {t : Tmp}
theorem Ie.lookup {κ : Type} [DecidableEq κ] {K : κ → Value} {ty kt et : TypeId} {x k : Operand} {b : Nat} {es : List MapEntry} {c : Nat} {l : List (κ × Value)} {kv : κ} {z v : Value} {r : Hp} (hp : Pick h [(b, .map es c)] r) (hP : PairsK K es l) (hK : KeyOk X.P kt K) (hd : o.dst = some t) (ht : Nat.blt t X.n = true) (hg : wantE ops e o = some true) (ho : o.op = .lookup ty x k false) (hu : X.P.underlying ty = some (.map kt et)) (hz : zeroT X.P et = some z) (hx : evE X.P e x = some (.map (some b))) (hk : evE X.P e k = some (K kv)) (hv : (getP kv l).getD z = v) (q : Ie X ops ((t, v) :: e) h rest Q) : Ie X ops e h (o :: rest) Q := by
 refine Ie.val h hd ht hg (by rw [ho]; rfl) (fun ts m h1 h2 => ⟨0, m, ?_, h2⟩) q
 rw [ho, doOp_l rfl]
 have hm := ((h2.perm hp.perm).has b (.map es c) (by simp)).1
 have hf := findA_pairs hK kv es l 0 hP
 have hgt := findP_get kv l 0
 show doL (lookup1 X.P ts ty x k false) m = _
 unfold lookup1
 rw [evE_ev h1 hx, evE_ev h1 hk]
 show doL (lookupA X.P ty (.map (some b)) (K kv) false) m = _
 unfold lookupA
 simp only [hu, hK.ok, cond_true, doL, hm, Option.bind_some, hf]
 cases hff : findP kv l 0 with
 | none =>
  rw [hff] at hgt
  rw [← hgt] at hv
  simp only [hz, Option.map_some, Bool.false_eq_true, if_false]
  rw [← hv]
  rfl
 | some y =>
  obtain ⟨j, w⟩ := y
  rw [hff] at hgt
  rw [← hgt] at hv
  simp only [Bool.false_eq_true, if_false]
  rw [← hv]
  rfl
theorem Ie.mapUpdate {κ : Type} [DecidableEq κ] {K : κ → Value} {ty kt et : TypeId} {x k y : Operand} {b : Nat} {es : List MapEntry} {c : Nat} {l : List (κ × Value)} {kv : κ} {v : Value} {r : Hp} (hp : Pick h [(b, .map es c)] r) (hP : PairsK K es l) (hK : KeyOk X.P kt K) (hd : o.dst = none) (hg : wantE ops e o = some true) (ho : o.op = .mapUpdate ty x k y) (hu : X.P.underlying ty = some (.map kt et)) (hx : evE X.P e x = some (.map (some b))) (hk : evE X.P e k = some (K kv)) (hy : evE X.P e y = some v) (q : ∀ es' c', PairsK K es' (putP kv v l) → Ie X ops e ((b, .map es' c') :: r) rest Q) : Ie X ops e h (o :: rest) Q := by
 obtain ⟨es', c', g1, g2⟩ := hP.put hK kv v c
 refine Ie.val_ (v := undef) ((b, .map es' c') :: r) hd hg (by rw [ho]; rfl) (fun ts m h1 h2 => ⟨0, m.set b (some (.map es' c')), ?_, (h2.perm hp.perm).set .head⟩) (q es' c' g2)
 rw [ho, doOp_h rfl]
 have hm := ((h2.perm hp.perm).has b (.map es c) (by simp)).1
 have : evs X.P ts [x, k, y] = some [.map (some b), K kv, v] := by
  unfold evs evs evs evs
  rw [evE_ev h1 hx, evE_ev h1 hk, evE_ev h1 hy]
  rfl
 show (match evs X.P ts [x, k, y] with | some [mp, k, x] => mapSet X.P ty mp k x m | _ => none) = _
 rw [this]
 show mapSet X.P ty (.map (some b)) (K kv) v m = _
 unfold mapSet
 simp only [hu, hK.ok, cond_true, hm, g1]
theorem Ie.makeSlice {ty el : TypeId} {x y : Operand} {n : Nat} {k : IntKind} {ob : AObj} {fv : Nat → Value} (hv : makeSliceA X.P ty (some (Int.ofNat n)) (some (Int.ofNat n)) = some (ob, fv)) (hd : o.dst = some t) (ht : Nat.blt t X.n = true) (hg : wantE ops e o = some true) (ho : o.op = .makeSlice ty x y) (hx : evE X.P e x = some (.int k (Int.ofNat n))) (hy : evE X.P e y = some (.int k (Int.ofNat n))) (q : ∀ b, X.m0.next ≤ b → Ie X ops ((t, fv b) :: e) ((b, ob) :: h) rest Q) : Ie X ops e h (o :: rest) Q :=
 Ie.made hd ht hg (by rw [ho]; rfl) (by rw [ho]; rfl) (fun ts H => by
  rw [ho]
  show makeSliceA X.P ty ((ev X.P ts x).bind asInt?) ((ev X.P ts y).bind asInt?) = _
  rw [evE_ev H hx, evE_ev H hy]
  exact hv) q
theorem Ie.buildSlice {ty : TypeId} {n : Nat} {parts : Array (Nat × Operand)} {ps : List (Nat × Value)} {ob : AObj} {fv : Nat → Value} (hd : o.dst = some t) (ht : Nat.blt t X.n = true) (hg : wantE ops e o = some true) (ho : o.op = .buildSlice ty n parts) (hx : evPartsE X.P e parts.toList = some ps) (hv : buildSliceA X.P ty n ps = some (ob, fv)) (q : ∀ b, X.m0.next ≤ b → Ie X ops ((t, fv b) :: e) ((b, ob) :: h) rest Q) : Ie X ops e h (o :: rest) Q :=
 Ie.made hd ht hg (by rw [ho]; rfl) (by rw [ho]; rfl) (fun ts H => by
  rw [ho]
  show (evParts X.P ts parts.toList).bind (buildSliceA X.P ty n) = _
  rw [evPartsE_spec H hx]
  exact hv) q
theorem Ie.min {x y : Operand} {k k' : IntKind} {a b : Int} {ats : Array TypeId} (hd : o.dst = some t) (ht : Nat.blt t X.n = true) (hg : wantE ops e o = some true) (ho : o.op = .call { callee := .builtin .min, args := #[x, y], argTypes := ats }) (hx : evE X.P e x = some (.int k a)) (hy : evE X.P e y = some (.int k' b)) (q : Ie X ops ((t, .int k (if b < a then b else a)) :: e) h rest Q) : Ie X ops e h (o :: rest) Q := by
 refine Ie.val h hd ht hg (by rw [ho]; rfl) (fun ts m h1 h2 => ⟨0, m, ?_, h2⟩) q
 rw [ho, doOp_p rfl]
 have : evs X.P ts [x, y] = some [.int k a, .int k' b] := by
  unfold evs evs evs
  rw [evE_ev h1 hx, evE_ev h1 hy]
  rfl
 show doP (minMax1 true (evs X.P ts [x, y])) m = _
 rw [this]
 rfl
end
section
variable {X : Cx} {ops : Array Oper} {base : Nat} {rI : List Nat} {cl : Bool} {mk : List (Nat × Nat)} {e : Env} {h : Hp} {Q : Out → Prop} {o : Oper} {i : Info} {rest : List (Oper × Info)} {t : Tmp}
theorem De.buildSlice {ty : TypeId} {n : Nat} {parts : Array (Nat × Operand)} {ps : List (Nat × Value)} {ob : AObj} {fv : Nat → Value} (hi : i.cls = .a) (hd : o.dst = some t) (ht : Nat.blt t X.n = true) (hg : wantE ops e o = some true) (ho : o.op = .buildSlice ty n parts) (hx : evPartsE X.P e parts.toList = some ps) (hv : buildSliceA X.P ty n ps = some (ob, fv)) (q : ∀ b, base ≤ b → X.m0.next ≤ b → De X ops base rI cl ((i.i, b) :: mk) ((t, fv b) :: e) ((b, ob) :: h) rest Q) : De X ops base rI cl mk e h ((o, i) :: rest) Q :=
 De.made hi hd ht hg (by rw [ho]; rfl) (fun ts H => by
  rw [ho]
  show (evParts X.P ts parts.toList).bind (buildSliceA X.P ty n) = _
  rw [evPartsE_spec H hx]
  exact hv) q
theorem De.min {x y : Operand} {k k' : IntKind} {a b : Int} {ats : Array TypeId} (hi : i.cls = .p) (hd : o.dst = some t) (ht : Nat.blt t X.n = true) (hg : wantE ops e o = some true) (ho : o.op = .call { callee := .builtin .min, args := #[x, y], argTypes := ats }) (hx : evE X.P e x = some (.int k a)) (hy : evE X.P e y = some (.int k' b)) (q : De X ops base rI cl mk ((t, .int k (if b < a then b else a)) :: e) h rest Q) : De X ops base rI cl mk e h ((o, i) :: rest) Q :=
 De.pure hi hd ht hg (fun ts H => by
  rw [ho]
  have : evs X.P ts [x, y] = some [.int k a, .int k' b] := by
   unfold evs evs evs
   rw [evE_ev H hx, evE_ev H hy]
   rfl
  refine ⟨rfl, ?_⟩
  show minMax1 true (evs X.P ts [x, y]) = _
  rw [this]
  rfl) q
end
end Go.Ab
namespace Go.Ab
variable [Vals]
section
variable {S : List Nat} {m0 m m' : AW}
theorem Knows.step {l l' r : Hp} (k : Knows S m0 m (l ++ r)) (k2 : Knows (l.map Prod.fst) m m' l') : Knows S m0 m' (l' ++ r) := by
 have hC : ∀ b, b ∈ l.map Prod.fst → m0.next ≤ b ∨ b ∈ S := fun b hb => by
  obtain ⟨⟨c, o⟩, h1, rfl⟩ := List.mem_map.1 hb
  exact (k.has c o (List.mem_append_left _ h1)).2.2
 have hap := k.apart
 rw [List.map_append, List.nodup_append] at hap
 obtain ⟨_, hap2, hap3⟩ := hap
 refine ⟨k.lole, Nat.le_trans k.next k2.next, k2.lo.trans k.lo, fun b hb => ?_, fun hs => ?_, fun b hb hs => ?_, fun b o hb => ?_, ?_⟩
 ·rcases k2.log b hb with h | ⟨h1, h2⟩
  ·exact k.log b h
  rw [k.lo] at h2
  rcases hC b h1 with h | h
  ·have := k.lole; omega
  exact .inr ⟨h, h2⟩
 ·rw [← k.none_ hs]
  refine k2.none_ fun b hb => ?_
  rw [k.lo]
  rcases hC b hb with h | h
  ·exact Nat.le_trans k.lole h
  exact hs b h
 ·rw [← k.keep b hb hs]
  refine k2.keep b (Nat.lt_of_lt_of_le hb k.next) fun h => ?_
  rcases hC b h with h | h
  ·omega
  exact hs h
 ·rcases List.mem_append.1 hb with hb | hb
  ·obtain ⟨h1, h2, h3⟩ := k2.has b o hb
   refine ⟨h1, h2, ?_⟩
   rcases h3 with h3 | h3
   ·exact .inl (Nat.le_trans k.next h3)
   exact hC b h3
  obtain ⟨h1, h2, h3⟩ := k.has b o (List.mem_append_right _ hb)
  refine ⟨(k2.keep b h2 fun h => ?_).trans h1, Nat.lt_of_lt_of_le h2 k2.next, h3⟩
  exact hap3 b h b (List.mem_map.2 ⟨_, hb, rfl⟩) rfl
 rw [List.map_append, List.nodup_append]
 refine ⟨k2.apart, hap2, fun a ha b hb => ?_⟩
 rintro rfl
 obtain ⟨⟨c, o⟩, h1, rfl⟩ := List.mem_map.1 ha
 obtain ⟨⟨c', o'⟩, h2, e⟩ := List.mem_map.1 hb
 simp only at e
 subst e
 rcases (k2.has c' o h1).2.2 with h3 | h3
 ·have := (k.has c' o' (List.mem_append_right _ h2)).2.1
  omega
 exact hap3 c' h3 c' (List.mem_map.2 ⟨_, h2, rfl⟩) rfl
theorem Knows.self {h : Hp} (k : Knows S m0 m h) : Knows (h.map Prod.fst) m m h :=
 ⟨k.lole', Nat.le_refl _, rfl, fun _ h => .inl h, fun _ => rfl, fun _ _ _ => rfl, fun b o hb => by
  obtain ⟨g1, g2, _⟩ := k.has b o hb
  exact ⟨g1, g2, .inr (List.mem_map.2 ⟨_, hb, rfl⟩)⟩, k.apart⟩
end
theorem Fc.bodyS {P : Program} {f : FuncId} {fn : Func} {c : Code} {args : List Value} {m : AW} {S : List Nat} {h0 : Hp} {Q : Value → AW → Prop} (hf : P.funcs[f]? = some fn) (hb : fn.body = some c) (hv : Vals.call f args = none) (h1 : Nat.ble args.length fn.ntmps = true) (h2 : Nat.ble fn.ntmps dIx = true) (hm : Knows S m m h0)
  (q : Ce ⟨P, f, fn.ntmps, none, S, m⟩ (argsE args 0) h0 c (End P fn Q)) : Fc P f args m Q := by
 obtain ⟨k, ⟨ex, ts, v, m'⟩, g1, g2⟩ := q _ m (Has.args h1 h2) hm
 have hbb : (Nat.ble args.length fn.ntmps && Nat.ble fn.ntmps dIx) = true := by rw [h1, h2]; rfl
 have key : ∃ v m', stFn P (irun P k) f args m = some ⟨.ret, .lf, v, m'⟩ ∧ Q v m' := by
  unfold stFn
  simp only [hf, hb, hv]
  unfold stFb
  simp only [hbb, cond_true]
  simp only at g1
  rw [g1]
  have hd : ∀ (ts : Tr Value) (m : AW) (v : Value), ts.get dIx = none → resA P fn ts m = some v → retD P (irun P k) fn ts m = some ⟨.ret, .lf, v, m⟩ := by
   intro ts m v e1 e2
   unfold retD defsOf
   rw [e1]
   simp only [runD, retFn, e2]
  cases ex with
  | normal =>
   obtain ⟨e0, w, e1, e2⟩ := g2
   exact ⟨w, m', hd _ _ _ e0 e1, e2⟩
  | ret =>
   obtain ⟨e0, w, e1, e2⟩ := g2
   exact ⟨w, m', hd _ _ _ e0 e1, e2⟩
  | _ => exact absurd g2 (by simp [End])
 obtain ⟨w, m2, e1, e2⟩ := key
 exact ⟨k + 1, w, m2, e1, e2⟩
section
variable {X : Cx} {ops : Array Oper} {e : Env} {h : Hp} {Q : Out → Prop} {o : Oper} {rest : List Oper} {t : Tmp}
theorem Ie.callc {α : Type} {fo : Operand} {as : Array Operand} {ats : Array TypeId} {vs first cap : List Value} {g : FuncId} {l r : Hp} (A : α → Prop) (V : α → Value) (H : α → Hp) (hp : Pick h l r) (hd : o.dst = some t) (ht : Nat.blt t X.n = true) (hg : wantE ops e o = some true) (ho : o.op = .call { callee := .value fo, args := as, argTypes := ats }) (ha : evsE X.P e as.toList = some vs) (hf : evE X.P e fo = some (.func (.func g) ⟨first⟩ ⟨cap⟩))
  (hc : ∀ m, Knows X.S X.m0 m (l ++ r) → Knows (l.map Prod.fst) m m l → Fc X.P g (first ++ vs ++ cap) m fun v m' => ∃ x, A x ∧ v = V x ∧ Knows (l.map Prod.fst) m m' (H x)) (q : ∀ x, A x → Ie X ops ((t, V x) :: e) (H x ++ r) rest Q) : Ie X ops e h (o :: rest) Q :=
 Ie.callx A V (fun x => H x ++ r) hd ht hg ho ha hf (fun m hm => by
  have h1 := hm.perm hp.perm
  exact (hc m h1 (h1.sub (List.sublist_append_left _ _)).self).mono fun v m' ⟨x, e1, e2, e3⟩ => ⟨x, e1, e2, h1.step e3⟩) q
def Yc (P : Program) (l : Nat) (args : List Value) (m : AW) (Q : Value → AW → Prop) : Prop := ∃ k v m', irun P k noFr (.yield l args) m = some ⟨.ret, .lf, v, m'⟩ ∧ Q v m'
def Iterates (P : Program) (g : FuncId) (first cap : List Value) (vs : List (List Value)) (D : Nat → Prop) (m : AW) : Prop :=
 ∀ (α : Type) (l : Nat) (C : List Nat) (A : Nat → α → Prop) (B : α → Prop) (H : α → Hp) (x0 : α),
  (∀ x, (H x).map Prod.fst = C) → (∀ b, D b → b ∉ C) → A 0 x0 → Knows C m m (H x0) →
  (∀ i x v, vs[i]? = some v → A i x → ∀ m', Knows C m m' (H x) → Yc P l v m' fun r m'' => ∃ x', Knows C m' m'' (H x') ∧ (r = .bool true ∧ A (i + 1) x' ∨ r = .bool false ∧ B x')) →
  Fc P g (first ++ [.func (.yield l) ⟨[]⟩ ⟨[]⟩] ++ cap) m fun _ m' => ∃ x', Knows C m m' (H x') ∧ (A vs.length x' ∨ B x')
theorem Ie.yield {α : Type} {fo : Operand} {as : Array Operand} {ats : Array TypeId} {vs : List Value} {j : Nat} {l r : Hp} (A : α → Prop) (V : α → Value) (H : α → Hp) (hp : Pick h l r) (hd : o.dst = some t) (ht : Nat.blt t X.n = true) (hg : wantE ops e o = some true) (ho : o.op = .call { callee := .value fo, args := as, argTypes := ats }) (ha : evsE X.P e as.toList = some vs) (hf : evE X.P e fo = some (.func (.yield j) ⟨[]⟩ ⟨[]⟩))
  (hc : ∀ m, Knows X.S X.m0 m (l ++ r) → Yc X.P j vs m fun v m' => ∃ x, A x ∧ v = V x ∧ Knows (l.map Prod.fst) m m' (H x)) (q : ∀ x, A x → Ie X ops ((t, V x) :: e) (H x ++ r) rest Q) : Ie X ops e h (o :: rest) Q := fun ts m h1 h2 => by
 have h3 := h2.perm hp.perm
 obtain ⟨k, v, m', g1, x, hA, rfl, hk⟩ := hc m h3
 refine Io.op (k := k) (m' := m') (v := V x) (wantE_spec h1 hg) (by rw [ho]; rfl) ?_ ?_
 ·rw [ho, doOp_h rfl]
  simp only [opH, callH, evsE_evs h1 ha, evE_ev h1 hf, callV, g1]
 rw [hd]
 exact q x hA _ m' (h1.put ht _) (h3.step hk)
end
def Asg (X : Cx) (l : Nat) (ready busy : AObj) (body : Code) (Q : Out → Prop) : Out → Prop
 | ⟨.normal, ts, _, m⟩ => m.heap.get l = some ready ∧ Ru X.P ⟨X.f, X.n, ts, some l⟩ (.code body) (m.set l (some busy)) Q
 | _ => False
def Rnd {α : Type} (X : Cx) (l : Nat) (busy : AObj) (H : α → Hp) (A R : α → Prop) : Out → Prop
 | ⟨.normal, _, _, m⟩ => ∃ x, A x ∧ Knows X.S X.m0 m ((l, busy) :: H x)
 | ⟨.ret, _, _, m⟩ => ∃ x, R x ∧ Knows X.S X.m0 m ((l, busy) :: H x)
 | _ => False
section
variable {X : Cx} {e : Env} {h : Hp} {Q : Out → Prop}
def parE : List (Tmp × Value) → Env → Env
 | [], e => e
 | (t, v) :: l, e => parE l ((t, v) :: e)
theorem Has.par {n : Nat} : ∀ {l : List (Tmp × Value)} {ts : Tr Value} {e : Env}, Has n ts e → (l.all fun x => Nat.blt x.1 n) = true → Has n (l.foldl (fun ts x => Ab.put n ts (some x.1) x.2) ts) (parE l e)
 | [], _, _, h, _ => h
 | (t, v) :: l, ts, e, h, hl => by
  simp only [List.all_cons, Bool.and_eq_true] at hl
  exact Has.par (l := l) (h.put hl.1 v) hl.2
theorem Ce.rangeFunc {α : Type} {fo : Operand} {ps : Array Tmp} {assign body : Code} {g : FuncId} {first cap : List Value} {vs : List (List Value)} {K : List Nat} (A : Nat → α → Prop) (R : α → Prop) (H : α → Hp) (x0 : α) (hr : X.r = none) (hf : evE X.P e fo = some (.func (.func g) ⟨first⟩ ⟨cap⟩)) (hK : ∀ x, (H x).map Prod.fst = K) (h0 : A 0 x0) (hs : (H x0).Sublist h) (hps : ∀ v, v ∈ vs → v.length = ps.size ∧ ((ps.toList.zip v).all fun x => Nat.blt x.1 X.n) = true)
  (D : Nat → Prop) (hit : ∀ m, Knows X.S X.m0 m h → Iterates X.P g first cap vs D m ∧ ∀ b, D b → b < m.next ∧ b ∉ K)
  (step : ∀ i x v, vs[i]? = some v → A i x → ∀ l m' ready busy, X.m0.next ≤ l → Knows X.S X.m0 m' ((l, ready) :: H x) → Ce { X with m0 := m', S := l :: K, r := some l } (parE (ps.toList.zip v) e) ((l, ready) :: H x) assign (Asg { X with m0 := m', S := l :: K, r := some l } l ready busy body (Rnd { X with m0 := m', S := l :: K, r := some l } l busy H (A (i + 1)) R)))
  (qn : ∀ x, A vs.length x → Ne X e (H x) Q) (qr : ∀ x, R x → Re X e (H x) Q) : Ce X e h (.rangeFunc fo ps assign body) Q := fun ts m h1 h2 => by
 -- the two blocks of the loop
 let rd : AObj := .loop .ready none X.f X.n ts ps.toList assign body m.next
 let bz : AObj := .loop .busy none X.f X.n ts ps.toList assign body m.next
 let fin : AObj := .loop .done (some .ret) X.f X.n ts ps.toList assign body m.next
 let l := m.next + 1
 let m2 : AW := (m.new .deferred).new rd
 have hX2 : Knows X.S X.m0 m2 ((l, rd) :: (m.next, .deferred) :: h) := (h2.new .deferred).new rd
 have hsub : Knows X.S X.m0 m2 ((l, rd) :: H x0) := hX2.sub (.cons_cons _ (.cons _ hs))
 have hKR : Knows X.S X.m0 m2 h := hX2.sub (.cons _ (.cons _ (.refl _)))
 have hkeys : ((l, rd) :: H x0).map Prod.fst = l :: K := by simp [hK]
 have hk0 : Knows (l :: K) m2 m2 ((l, rd) :: H x0) := by
  have := hsub.self
  rw [hkeys] at this
  exact this
 have hDl : ∀ b, D b → b ∉ l :: K := fun b hb => by
  obtain ⟨e1, e2⟩ := (hit m h2).2 b hb
  intro h
  rcases List.mem_cons.1 h with rfl | h
  ·exact absurd e1 (by show ¬ (m.next + 1 < m.next); omega)
  exact e2 h
 have hiter := (hit m2 hKR).1 (α × Bool) l (l :: K) (fun i x => A i x.1 ∧ x.2 = true) (fun x => R x.1 ∧ x.2 = false) (fun x => (l, if x.2 then rd else fin) :: H x.1) (x0, true) (fun x => by simp [hK]) hDl ⟨h0, rfl⟩ (by simpa using hk0) ?_
 ·obtain ⟨k, v, m3, g1, x', g2, g3⟩ := hiter
  have hl3 := g2.has l (if x'.2 then rd else fin) List.mem_cons_self
  have hK3 : Knows X.S X.m0 m3 ((l, if x'.2 then rd else fin) :: H x'.1) := by
   have := Knows.step (r := []) (l := (l, rd) :: H x0) (l' := (l, if x'.2 then rd else fin) :: H x'.1) (by simpa using hsub) (by rw [hkeys]; exact g2)
   simpa using this
  have hst : ∀ out, endRF ⟨X.f, X.n, ts, X.r⟩ l m3 = some out → Q out → Ru X.P ⟨X.f, X.n, ts, X.r⟩ (.code (.rangeFunc fo ps assign body)) m Q := by
   intro out e1 e2
   refine Ru.step (k := k) ?_ e2
   show stRF X.P (irun X.P k) ⟨X.f, X.n, ts, X.r⟩ fo ps.toList assign body m = _
   unfold stRF
   simp only [evE_ev h1 hf, beginRF, hr]
   simp only [hr] at e1
   have : irun X.P k noFr (.fn g (first ++ [.func (.yield (m.next + 1)) ⟨[]⟩ ⟨[]⟩] ++ cap)) ((m.new .deferred).new (.loop .ready none X.f X.n ts ps.toList assign body m.next)) = some ⟨.ret, .lf, v, m3⟩ := g1
   simp only [this]
   exact e1
  rcases g3 with ⟨g3, g4⟩ | ⟨g3, g4⟩
  ·rw [g4] at hl3 hK3
   simp only [if_true] at hl3 hK3
   have e1 : endRF ⟨X.f, X.n, ts, X.r⟩ l m3 = some ⟨.normal, ts, undef, m3.set l (some (.loop .exhausted none X.f X.n ts ps.toList assign body m.next))⟩ := by
    unfold endRF
    simp only [hl3.1, rd]
   exact hst _ e1 (qn x'.1 g3 ts _ h1 ((hK3.set (o' := .loop .exhausted none X.f X.n ts ps.toList assign body m.next) .head).sub (.cons _ (.refl _))))
  rw [g4] at hl3 hK3
  simp only [Bool.false_eq_true, if_false] at hl3 hK3
  have e1 : endRF ⟨X.f, X.n, ts, X.r⟩ l m3 = some ⟨.ret, ts, undef, m3.set l (some (.loop .exhausted (some .ret) X.f X.n ts ps.toList assign body m.next))⟩ := by
   unfold endRF
   simp only [hl3.1, fin]
  exact hst _ e1 (qr x'.1 g3 ts _ h1 ((hK3.set (o' := .loop .exhausted (some .ret) X.f X.n ts ps.toList assign body m.next) .head).sub (.cons _ (.refl _))))
 rintro i ⟨x, b⟩ v hv ⟨hA, hb⟩ m' hm'
 simp only at hA hb hm'
 subst hb
 simp only [if_true] at hm'
 have hXm' : Knows X.S X.m0 m' ((l, rd) :: H x) := by
  have := Knows.step (r := []) (l := (l, rd) :: H x0) (l' := (l, rd) :: H x) (by simpa using hsub) (by rw [hkeys]; exact hm')
  simpa using this
 have hself : Knows (l :: K) m' m' ((l, rd) :: H x) := by
  have := hXm'.self
  rw [show ((l, rd) :: H x).map Prod.fst = l :: K by simp [hK]] at this
  exact this
 obtain ⟨hp1, hp2⟩ := hps v (List.mem_of_getElem? hv)
 have hln : X.m0.next ≤ l := Nat.le_succ_of_le h2.next
 obtain ⟨k1, ⟨ex, ts1, v1, m1⟩, a1, a2⟩ := step i x v hv hA l m' rd bz hln hXm' _ m' (h1.par hp2) hself
 cases ex with
 | normal =>
  obtain ⟨b1, k2, ⟨ex2, ts2, v2, m4⟩, c1, c2⟩ := a2
  have hy : ∀ (r : Value) (m5 : AW), endRound X.P X.f l (some ⟨ex2, ts2, v2, m4⟩) = some ⟨.ret, .lf, r, m5⟩ → irun X.P (k1 + k2 + 1) noFr (.yield l v) m' = some ⟨.ret, .lf, r, m5⟩ := by
   intro r m5 hend
   show stYield X.P (irun X.P (k1 + k2)) l v m' = _
   unfold stYield
   have hrd := (hm'.has l rd List.mem_cons_self).1
   simp only [hrd, rd]
   have hlen : Nat.beq v.length ps.toList.length = true := by rw [nbeq]; simp [hp1]
   rw [hlen]
   have e1 := irun_le (P := X.P) (Nat.le_add_right k1 k2) _ _ _ _ a1
   simp only [cond_true] at e1 ⊢
   rw [e1]
   simp only
   unfold stBody
   simp only [b1, rd]
   have e2 := irun_le (P := X.P) (Nat.le_add_left k2 k1) _ _ _ _ c1
   simp only [bz] at e2
   rw [e2]
   exact hend
  cases ex2 with
  | normal =>
   obtain ⟨x', d1, d2⟩ := c2
   have hb4 := (d2.has l bz List.mem_cons_self).1
   refine ⟨k1 + k2 + 1, .bool true, m4.set l (some rd), hy _ _ ?_, (x', true), ?_, .inl ⟨rfl, d1, rfl⟩⟩
   ·show outOf (.bool true) (setLoop m4 l .ready none) = _
    unfold setLoop
    simp only [hb4, bz]
    rfl
   simp only [if_true]
   exact d2.set .head
  | ret =>
   obtain ⟨x', d1, d2⟩ := c2
   have hb4 := (d2.has l bz List.mem_cons_self).1
   refine ⟨k1 + k2 + 1, .bool false, m4.set l (some fin), hy _ _ ?_, (x', false), ?_, .inr ⟨rfl, d1, rfl⟩⟩
   ·show outOf (.bool false) (setLoop m4 l .done (some .ret)) = _
    unfold setLoop
    simp only [hb4, bz]
    rfl
   simp only [Bool.false_eq_true, if_false]
   exact d2.set .head
  | _ => exact absurd c2 (by simp [Rnd])
 | _ => exact absurd a2 (by simp [Asg])
end
end Go.Ab
namespace Go.Ab
variable [Vals]
theorem nrm_lt (a b : Int) : (ltI a b = true) = (a < b) := by rw [ltI_eq, decide_eq_true_eq]
theorem nrm_nlt (a b : Int) : (ltI a b = false) = (b ≤ a) := by rw [ltI_eq, decide_eq_false_iff_not, Int.not_lt]
theorem nrm_eq (a b : Int) : (eqI a b = true) = (a = b) := by rw [eqI_eq, decide_eq_true_eq]
theorem nrm_neq (a b : Int) : (eqI a b = false) = (a ≠ b) := by rw [eqI_eq, decide_eq_false_iff_not]
theorem bytes_ext {a b : ByteArray} (h : a.data.toList = b.data.toList) : a = b := by
 cases a with | mk a => cases b with | mk b =>
  cases a with | mk a => cases b with | mk b => cases h; rfl
theorem nrm_seq (a b : ByteArray) : (eqBytes a.data.toList b.data.toList = true) = (a = b) := by
 rw [eqBytes_eq, decide_eq_true_eq]
 exact propext ⟨bytes_ext, fun h => by rw [h]⟩
theorem nrm_sneq (a b : ByteArray) : (eqBytes a.data.toList b.data.toList = false) = (a ≠ b) := by
 rw [eqBytes_eq, decide_eq_false_iff_not]
 exact propext ⟨fun h e => h (by rw [e]), fun h e => h (bytes_ext e)⟩
theorem nrm_sempty (a : ByteArray) : (eqBytes a.data.toList [] = true) = (a.size = 0) := by
 rw [eqBytes_eq, decide_eq_true_eq]
 cases a with | mk a => cases a with | mk a =>
  show (a = []) = (a.length = 0)
  rw [List.length_eq_zero_iff]
theorem nrm_snempty (a : ByteArray) : (eqBytes a.data.toList [] = false) = (a.size ≠ 0) := by
 rw [eqBytes_eq, decide_eq_false_iff_not]
 cases a with | mk a => cases a with | mk a =>
  show (¬ a = []) = (a.length ≠ 0)
  exact propext (not_congr List.length_eq_zero_iff.symm)
theorem nrm_ofNat (n : Nat) : Int.ofNat n = (n : Int) := rfl
section
variable {X : Cx} {e : Env} {h : Hp} {Q : Out → Prop} {a b : Code}
def JnQ (X : Cx) (F : Prop) (e : Env) (h : Hp) (Q : Out → Prop) : Out → Prop
 | ⟨.normal, ts, _, m⟩ => F ∧ Has X.n ts e ∧ Knows X.S X.m0 m h
 | o => Q o
theorem Ce.join (F : Prop) (e' : Env) (h' : Hp) (q1 : Ce X e h a (JnQ X F e' h' Q)) (q2 : F → Ce X e' h' b Q) : Ce X e h (.seq a b) Q := Ce.seq fun ts m h1 h2 => (q1 ts m h1 h2).mono fun o ho => by
 obtain ⟨ex, ts1, v1, m1⟩ := o
 cases ex with
 | normal => exact q2 ho.1 ts1 m1 ho.2.1 ho.2.2
 | _ => exact ho
theorem Ne.as (u : Nat) (w' : Value) (hl : look e u = some w) (hw : w = w') (q : Ne X ((u, w') :: e) h Q) : Ne X e h Q := fun ts m h1 h2 => q ts m (has_as u hl hw h1) h2
def SubX : List Nat → Env → Env → Prop
 | _, [], _ => True
 | seen, (t, v) :: e', e => bif seen.any (Nat.beq t) then SubX seen e' e else (look e t = some v ∧ SubX (t :: seen) e' e)
theorem SubX.look {e : Env} : ∀ {e' : Env} {seen : List Nat}, SubX seen e' e → ∀ t v, seen.any (Nat.beq t) = false → look e' t = some v → look e t = some v
 | [], _, _, _, _, _, hl => by cases hl
 | (u, w) :: e', seen, hs, t, v, hn, hl => by
  unfold SubX at hs
  unfold Ab.look at hl
  cases hb : Nat.beq u t with
  | true =>
   rw [hb] at hl
   cases hl
   rw [nbeq, decide_eq_true_eq] at hb
   subst hb
   rw [hn] at hs
   exact hs.1
  | false =>
   rw [hb] at hl
   cases hx : seen.any (Nat.beq u) with
   | true =>
    rw [hx] at hs
    exact SubX.look hs t v hn hl
   | false =>
    rw [hx] at hs
    refine SubX.look hs.2 t v ?_ hl
    rw [List.any_cons, hn, Bool.or_false]
    rw [nbeq, decide_eq_false_iff_not] at hb ⊢
    exact fun e => hb e.symm
theorem Has.subX (h : Has n ts e) (hs : SubX [] e' e) : Has n ts e' := ⟨h.few, h.defs, fun t v hl => h.at_ t v (hs.look t v rfl hl)⟩
theorem Ce.joinA (F : Prop) (l : Env) (q1 : Ce X e h a (JnQ X F (l ++ e) h Q)) (q2 : F → Ce X (l ++ e) h b Q) : Ce X e h (.seq a b) Q := Ce.join F _ _ q1 q2
theorem Ne.jnx (hF : F) (he : SubX [] e' e) (hh : h'.Sublist h) : Ne X e h (JnQ X F e' h' Q) := fun _ _ h1 h2 => ⟨hF, h1.subX he, h2.sub hh⟩
theorem Ce.as (u : Nat) (w' : Value) (hl : look e u = some w) (hw : w = w') (q : Ce X ((u, w') :: e) h c Q) : Ce X e h c Q := fun ts m h1 h2 => q ts m (has_as u hl hw h1) h2
variable {ops : Array Oper} {o : Oper} {rest : List Oper} {t : Tmp}
theorem indexA_str (hu : P.underlying ty = some .string) (hc : s.data.toList[j]? = some c) : indexA P ty (.string s) (.int k (Int.ofNat j)) = some (.int .u8 (Int.ofNat c.toNat)) := by
 unfold indexA
 simp only [asInt?, hu, hc, Option.map_some]
theorem Ie.indexStr (hd : o.dst = some t) (ht : Nat.blt t X.n = true) (hg : wantE ops e o = some true) (ho : o.op = .index ty x i) (hu : X.P.underlying ty = some .string) (hx : evE X.P e x = some (.string s)) (hi : evE X.P e i = some (.int k (Int.ofNat j))) (hc : s.data.toList[j]? = some c) (q : Ie X ops ((t, .int .u8 (Int.ofNat c.toNat)) :: e) h rest Q) : Ie X ops e h (o :: rest) Q :=
 Ie.p hd ht hg (by rw [ho]; simp only [opE, hx, hi]; exact indexA_str hu hc) q
theorem Ie.toBytes (hy : y.size ≤ 4294967296) (hd : o.dst = some t) (ht : Nat.blt t X.n = true) (hg : wantE ops e o = some true) (ho : o.op = .convert s d x) (hcl : cls X.P (.convert s d x) = .a) (hs : X.P.underlying s = some .string) (hd' : X.P.underlying d = some (.slice el)) (he : X.P.underlying el = some (.int .u8)) (hz : sizeT X.P el = some 1) (hx : evE X.P e x = some (.string y)) (q : ∀ b, X.m0.next ≤ b → Ie X ops ((t, .slice (some ⟨b, 0, none⟩) y.size top) :: e) ((b, .cells (y.data.toList.map fun b => .int .u8 (Int.ofNat b.toNat)) el true .strish none) :: h) rest Q) : Ie X ops e h (o :: rest) Q :=
 Ie.made (fv := sliceTo y.size top) hd ht hg (by rw [ho]; rfl) (by rw [ho]; exact hcl) (fun ts H => by
  rw [ho]
  show (ev X.P ts x).bind (strBytes X.P s d) = _
  rw [evE_ev H hx]
  show strBytes X.P s d (.string y) = _
  unfold strBytes
  have : Nat.ble y.size 4294967296 = true := by rw [nble]; simpa using hy
  simp only [hs, hd', he, hz, this, cond_true]) q
end
end Go.Ab
namespace Go.Ab
variable [Vals]
abbrev Kn := Nat → AObj → Prop
def Mem (m : AW) : Kn := fun b o => b < m.next ∧ m.heap.get b = some o
def InH (h : Hp) : Kn := fun b o => (b, o) ∈ h
theorem Mem.ext (h : Ext m m') : ∀ b o, Mem m b o → Mem m' b o := fun b _ ⟨h1, h2⟩ => ⟨Nat.lt_of_lt_of_le h1 h.next, (h.keep b h1).trans h2⟩
theorem Mem.kr (k : KR [] m m' h) : ∀ b o, Mem m b o → Mem m' b o := fun b _ ⟨h1, h2⟩ => ⟨Nat.lt_of_lt_of_le h1 k.next, (k.keep b h1 (by simp)).trans h2⟩
theorem InH.kr (k : KR S m m' h) (hs : ∀ p, p ∈ l → p ∈ h) : ∀ b o, InH l b o → Mem m' b o := fun b o hb => ⟨(k.has b o (hs _ hb)).2, (k.has b o (hs _ hb)).1⟩
theorem InH.sees (hs : ∀ p, p ∈ l → p ∈ h) : ∀ b o, InH l b o → Sees X h b o := fun b o hb _ k => (k.has b o (hs _ hb)).1
theorem Sees.app (s : Sees X h b o) : Sees X (l ++ h) b o := fun m k => s m (k.sub (List.sublist_append_right _ _))
theorem Mem.sees (hm : X.m0 = m) (hS : X.S = []) : ∀ b o, Mem m b o → Sees X h b o := fun _ _ ⟨h1, h2⟩ => Sees.base (by rw [hm]; exact h2) (by rw [hm]; exact h1) (by rw [hS]; simp)
def Off (S : List Nat) (m : AW) : Kn := fun b o => b < m.next ∧ b ∉ S ∧ m.heap.get b = some o
theorem Off.sees (hm : X.m0 = m) (hS : X.S = S) : ∀ b o, Off S m b o → Sees X h b o := fun _ _ ⟨h1, h2, h3⟩ => Sees.base (by rw [hm]; exact h3) (by rw [hm]; exact h1) (by rw [hS]; exact h2)
theorem Off.kr (k : KR S m m' h) : ∀ b o, Off S m b o → Off S m' b o := fun b _ ⟨h1, h2, h3⟩ => ⟨Nat.lt_of_lt_of_le h1 k.next, h2, (k.keep b h1 h2).trans h3⟩
def Sl {α : Type} (K : Kn) (sz : Nat) (R : α → List Value → Prop) (l : List α) (v : Value) : Prop :=
 ∃ a cap, v = .slice a l.length cap ∧ (l.length ≤ 9223372036854775807 ∧ l.length ≤ cap) ∧ (l = [] ∧ (a = none ∨ ∃ b off, a = some ⟨b, off, none⟩) ∨ ∃ b off cs el g md mate, a = some ⟨b, off, none⟩ ∧ K b (.cells cs el g md mate) ∧ off + l.length * sz ≤ cs.length ∧ ∀ i x, l[i]? = some x → R x ((cs.drop (off + i * sz)).take sz))
theorem Sl.mono (h : Sl K sz R l v) (k : ∀ b o, K b o → K' b o) (hR : ∀ x cs, R x cs → R' x cs) : Sl K' sz R' l v := by
 obtain ⟨a, cap, rfl, hn, hl⟩ := h
 refine ⟨a, cap, rfl, hn, ?_⟩
 rcases hl with hl | ⟨b, off, cs, el, g, md, mate, rfl, hb, hle, hc⟩
 ·exact .inl hl
 exact .inr ⟨b, off, cs, el, g, md, mate, rfl, k _ _ hb, hle, fun i x hx => hR _ _ (hc i x hx)⟩
def Flat {α : Type} (sz : Nat) (R : α → List Value → Prop) (l : List α) (vs : List Value) : Prop := vs.length = l.length * sz ∧ ∀ i x, l[i]? = some x → R x ((vs.drop (i * sz)).take sz)
theorem Flat.nil : Flat sz R [] [] := ⟨by simp, fun i x h => by simp at h⟩
theorem Flat.one (h : R x vs) (hl : vs.length = sz) : Flat sz R [x] vs := ⟨by simp [hl], fun i y hy => by
 cases i with
 | zero =>
  simp only [List.getElem?_cons_zero, Option.some.injEq] at hy
  subst hy
  rw [Nat.zero_mul, List.drop_zero, ← hl, List.take_length]
  exact h
 | succ i => simp at hy⟩
theorem Flat.append (h : Flat sz R l vs) (h' : Flat sz R l' vs') : Flat sz R (l ++ l') (vs ++ vs') := by
 refine ⟨by rw [List.length_append, List.length_append, h.1, h'.1, Nat.add_mul], fun i x hx => ?_⟩
 by_cases hi : i < l.length
 ·rw [List.getElem?_append_left hi] at hx
  have h1 := h.2 i x hx
  have h2 : (i + 1) * sz ≤ l.length * sz := Nat.mul_le_mul_right _ hi
  rw [Nat.add_mul, Nat.one_mul] at h2
  rw [List.drop_append_of_le_length (by rw [h.1]; omega), List.take_append_of_le_length (by rw [List.length_drop, h.1]; omega)]
  exact h1
 rw [List.getElem?_append_right (by omega)] at hx
 have h1 := h'.2 _ x hx
 have h2 : i * sz = vs.length + (i - l.length) * sz := by
  rw [h.1, ← Nat.add_mul]
  congr 1
  omega
 rw [h2, List.drop_append, List.drop_eq_nil_of_le (by omega), List.nil_append, show vs.length + (i - l.length) * sz - vs.length = (i - l.length) * sz by omega]
 exact h1
theorem Flat.flats (hs : 0 < sz) (hR : ∀ x cs, R x cs → flats cs = true) (h : Flat sz R l vs) : flats vs = true := by
 unfold Ab.flats
 rw [List.all_eq_true]
 intro v hv
 obtain ⟨p, hp⟩ := List.getElem?_of_mem hv
 have hlt : p < vs.length := (List.getElem?_eq_some_iff.1 hp).1
 have hi : p / sz < l.length := by
  rw [Nat.div_lt_iff_lt_mul hs, ← h.1]
  exact hlt
 have h1 := hR _ _ (h.2 (p / sz) _ (List.getElem?_eq_getElem hi))
 unfold Ab.flats at h1
 rw [List.all_eq_true] at h1
 refine h1 v (List.mem_of_getElem? (i := p % sz) ?_)
 rw [List.getElem?_take, if_pos (Nat.mod_lt _ hs), List.getElem?_drop, Nat.mul_comm, Nat.div_add_mod]
 exact hp
theorem Sl.shows (hs : 0 < sz) (hR : ∀ x cs, R x cs → flats cs = true) (hl : Sl K sz R l v) (hK : ∀ b o, K b o → Sees X h b o) : ∃ vs, Shows X h sz v l.length vs ∧ Flat sz R l vs := by
 obtain ⟨a, cap, rfl, hn, hl⟩ := hl
 rcases hl with ⟨rfl, ha⟩ | ⟨b, off, cs, el, g, md, mate, rfl, hb, hle, hc⟩
 ·exact ⟨[], Shows.nil ha, Flat.nil⟩
 have hF : Flat sz R l ((cs.drop off).take (l.length * sz)) := by
  refine ⟨by rw [List.length_take, List.length_drop]; omega, fun i x hx => ?_⟩
  have hi : i < l.length := (List.getElem?_eq_some_iff.1 hx).1
  have h1 := hc i x hx
  have h2 : (i + 1) * sz ≤ l.length * sz := Nat.mul_le_mul_right _ hi
  rw [Nat.add_mul, Nat.one_mul] at h2
  rw [List.drop_take, List.take_take, Nat.min_eq_left (by omega), List.drop_drop]
  exact h1
 exact ⟨_, Shows.slice (hK _ _ hb) hle rfl (hF.flats hs hR), hF⟩
theorem Sl.single (h : R x vs) (hl : vs.length = sz) (hc : 1 ≤ c := by decide) : Sl (InH [(b, .cells vs el g md mate)]) sz R [x] (.slice (some ⟨b, 0, none⟩) 1 c) :=
 ⟨some ⟨b, 0, none⟩, c, rfl, ⟨by simp, hc⟩, .inr ⟨b, 0, vs, el, g, md, mate, rfl, List.mem_cons_self, by simp [hl], fun i y hy => by
  have := (Flat.one h hl).2 i y hy
  rwa [Nat.zero_add]⟩⟩
def AppC (P : Program) (e : TypeId) (sz : Nat) : Bool := match sizeT P e, P.info? e with
 | some s, some i => Nat.beq s sz && (zeroFits P e sz && (Nat.ble i.bytes 1024 && (Nat.ble 1 i.bytes && Nat.ble 1 sz)))
 | _, _ => false
theorem AppT.of (h : AppC P e sz = true) : AppT P e sz := by
 unfold AppC at h
 split at h
 ·rename_i s i h1 h2
  rw [Bool.and_eq_true, nbeq, decide_eq_true_eq] at h
  obtain ⟨rfl, h3⟩ := h
  exact ⟨h1, i, h2, h3⟩
 cases h
section
variable {α : Type} {X : Cx} {ops : Array Oper} {base : Nat} {rI : List Nat} {cl : Bool} {mk : List (Nat × Nat)} {e : Env} {h : Hp} {Q : Out → Prop} {o : Oper} {i : Info} {rest : List Oper} {drest : List (Oper × Info)} {t : Tmp}
theorem Ie.appendSl {g : Gro} (hL : l0 ++ l = L) (hp : Pick h (g.H el cs) h1) (hF : Flat sz R l0 cs) (hg : g.Ok l0.length) (hl : Sl K sz R l xv) (hK : ∀ b o, K b o → Sees X h b o) (hR : ∀ x cs, R x cs → flats cs = true) (hn : l0.length + l.length ≤ 4294967296) (hd : o.dst = some t) (ht : Nat.blt t X.n = true) (hgd : wantE ops e o = some true) (ho : o.op = .call { callee := .builtin .append, args := #[s, x], argTypes := #[t1, t2] }) (hu1 : X.P.underlying t1 = some (.slice el)) (hu2 : X.P.underlying t2 = some (.slice e2)) (hT : AppC X.P el sz = true) (hs : evE X.P e s = some (g.V l0.length)) (hx : evE X.P e x = some xv)
  (q : ∀ (g' : Gro) (cs' : List Value), Flat sz R L cs' → g'.Ok L.length → Ie X ops ((t, g'.V L.length) :: e) (g'.H el cs' ++ h1) rest Q) : Ie X ops e h (o :: rest) Q := by
 subst hL
 have hA := AppT.of hT
 have hs0 : 0 < sz := by
  obtain ⟨_, i, _, hb⟩ := hA
  simp only [Bool.and_eq_true] at hb
  exact Nat.le_of_ble_eq_true hb.2.2.2
 obtain ⟨vs, hv, hf⟩ := hl.shows hs0 hR hK
 have hlen : (l0 ++ l).length = l0.length + l.length := List.length_append
 refine Ie.append hp.perm hx hv hg hF.1 hn hd ht hgd ho hu1 hu2 hA hs fun g' hg' => ?_
 rw [← hlen] at hg' ⊢
 exact q g' _ (hF.append hf) hg'
theorem De.appendSl {g : Gro} (hL : l0 ++ l = L) (hp : Pick h (g.H el cs) h1) (hF : Flat sz R l0 cs) (hg : g.Ok l0.length) (hl : Sl K sz R l xv) (hK : ∀ b o, K b o → Sees X h b o) (hR : ∀ x cs, R x cs → flats cs = true) (hn : l0.length + l.length ≤ 4294967296) (hi : i.cls = .h) (hok : i.hok = true) (hin : allIn i.pre (mk.map Prod.fst) = true) (hri : allIn i.pre rI = true) (hd : o.dst = some t) (ht : Nat.blt t X.n = true) (hgd : wantE ops e o = some true) (ho : o.op = .call { callee := .builtin .append, args := #[s, x], argTypes := #[t1, t2] }) (hu1 : X.P.underlying t1 = some (.slice el)) (hu2 : X.P.underlying t2 = some (.slice e2)) (hT : AppC X.P el sz = true) (hs : evE X.P e s = some (g.V l0.length)) (hx : evE X.P e x = some xv)
  (q : ∀ (g' : Gro) (cs' : List Value), Flat sz R L cs' → g'.Ok L.length → De X ops base rI false mk ((t, g'.V L.length) :: e) (g'.H el cs' ++ h1) drest Q) : De X ops base rI cl mk e h ((o, i) :: drest) Q := by
 subst hL
 have hA := AppT.of hT
 have hs0 : 0 < sz := by
  obtain ⟨_, i, _, hb⟩ := hA
  simp only [Bool.and_eq_true] at hb
  exact Nat.le_of_ble_eq_true hb.2.2.2
 obtain ⟨vs, hv, hf⟩ := hl.shows hs0 hR hK
 have hlen : (l0 ++ l).length = l0.length + l.length := List.length_append
 refine De.append hp.perm hx hv hg hF.1 hn hi hok hin hri hd ht hgd ho hu1 hu2 hA hs fun g' hg' => ?_
 rw [← hlen] at hg' ⊢
 exact q g' _ (hF.append hf) hg'
end
end Go.Ab
namespace Go.Ab
variable [Vals]
theorem putCells_set {v : Value} : ∀ (cs : List Value) (i : Nat), i < cs.length → putCells cs i [v] = cs.set i v
 | [], _, h => absurd h (Nat.not_lt_zero _)
 | c :: cs, 0, _ => by
  unfold putCells
  simp
 | c :: cs, i + 1, h => by
  unfold putCells
  rw [putCells_set cs i (by simpa using h)]
  rfl
section
variable {α : Type} {X : Cx} {ops : Array Oper} {e : Env} {h : Hp} {Q : Out → Prop} {o : Oper} {rest : List Oper} {t : Tmp}
theorem Ie.storeAt (hF : ∀ x, cellsOfV (F x) = [F x] ∧ flat (F x) = true) {st : List α} (hi : i < st.length) (hp : Pick h [(b, .cells (st.map F) el g md none)] r) (hmd : md.writes = true) (hd : o.dst = none) (hg : wantE ops e o = some true) (ho : o.op = .store ty a y) (hsz : sizeT X.P ty = some 1) (ha : evE X.P e a = some (.pointer (some ⟨b, 0 + i * 1, none⟩))) (hx : evE X.P e y = some (F x)) (q : Ie X ops e ((b, .cells ((st.set i x).map F) el g md none) :: r) rest Q) : Ie X ops e h (o :: rest) Q := by
 refine Ie.val_ (v := undef) ((b, .cells ((st.set i x).map F) el g md none) :: r) hd hg (by rw [ho]; rfl) (fun ts m h1 h2 => ⟨0, m.set b (some (.cells ((st.set i x).map F) el g md none)), ?_, (h2.perm hp.perm).set .head⟩) q
 rw [ho, doOp_h rfl]
 have h3 : m.heap.get b = some (.cells (st.map F) el g md none) := ((h2.perm hp.perm).has b _ (by simp)).1
 have hoff : 0 + i * 1 = i := by omega
 have h4 : storeA m b (0 + i * 1) [F x] = some (m.set b (some (.cells ((st.set i x).map F) el g md none))) := by
  unfold storeA
  have hw : (md.writes && Nat.ble (0 + i * 1 + [F x].length) (st.map F).length && flats [F x]) = true := by
   rw [hmd, nble, decide_eq_true (by simp; omega)]
   simp [flats, (hF x).2]
  simp only [h3, hw, kill, cond_true]
  rw [hoff, putCells_set _ _ (by simpa using hi), List.map_set]
 have h5 : Nat.beq (cellsOfV (F x)).length 1 = true := by rw [(hF x).1]; rfl
 simp only [opH, evE_ev h1 ha, evE_ev h1 hx, storeV, hsz, h5, cond_true, (hF x).1, h4, valM]
 rfl
end
end Go.Ab
namespace Go.Ab
variable [Vals]
section
variable {α : Type} {X : Cx} {ops : Array Oper} {e : Env} {h : Hp} {Q : Out → Prop} {o : Oper} {rest : List Oper} {t : Tmp}
theorem Off.old (k : Knows [] m m2 (l ++ r)) : ∀ b o, Mem m b o → Off (l.map Prod.fst) m2 b o := fun b o ⟨e1, e2⟩ => by
 refine ⟨Nat.lt_of_lt_of_le e1 k.next, fun hb => ?_, (k.keep b e1 (by simp)).trans e2⟩
 obtain ⟨⟨c, o'⟩, g1, rfl⟩ := List.mem_map.1 hb
 rcases (k.has c o' (List.mem_append_left _ g1)).2.2 with h | h
 ·simp only at e1
  omega
 cases h
theorem Re.swap (p : h.Perm h') (q : Re X e h' Q) : Re X e h Q := fun ts m h1 h2 => q ts m h1 (h2.perm p)
theorem Ne.swap (p : h.Perm h') (q : Ne X e h' Q) : Ne X e h Q := fun ts m h1 h2 => q ts m h1 (h2.perm p)
theorem Ce.swap (p : h.Perm h') (q : Ce X e h' c Q) : Ce X e h c Q := fun ts m h1 h2 => q ts m h1 (h2.perm p)
theorem Ie.swap (p : h.Perm h') (q : Ie X ops e h' ops' Q) : Ie X ops e h ops' Q := fun ts m h1 h2 => q ts m h1 (h2.perm p)
end
end Go.Ab
namespace Go.Ab
variable [Vals]
structure ArgB where
 s : Spot
 t : TypeId
 cs : List Value
def ArgB.o (b : ArgB) : AObj := .cells b.cs b.t true .ro none
def argR (ρ : Ren) (L : List ArgB) : Ren := fun i => if i < laidEnd then ρ i else (L[i - laidEnd]?).map ArgB.s
def KA (L : List ArgB) : Kn := fun i o => ∃ j b, i = laidEnd + j ∧ L[j]? = some b ∧ o = b.o
theorem pre_get {L L' : List α} (h : L <+: L') {j : Nat} {b : α} (hb : L[j]? = some b) : L'[j]? = some b := by
 obtain ⟨M, rfl⟩ := h
 rw [List.getElem?_append_left (List.getElem?_eq_some_iff.1 hb).1]
 exact hb
theorem KA.mono (h : L <+: L') : ∀ b o, KA L b o → KA L' b o := fun _ _ ⟨j, b, h1, h2, h3⟩ => ⟨j, b, h1, pre_get h h2, h3⟩
theorem argR_le (h : L <+: L') : (argR ρ L).le (argR ρ L') := fun i s hi => by
 unfold argR at hi ⊢
 split
 ·rename_i hlt
  rw [if_pos hlt] at hi
  exact hi
 rename_i hlt
 rw [if_neg hlt] at hi
 cases hL : L[i - laidEnd]? with
 | none => rw [hL] at hi; cases hi
 | some b =>
  rw [hL] at hi
  rw [pre_get h hL]
  exact hi
def ArgB.Ok (W : World) (ρ : Ren) (b : ArgB) : Prop := ∃ c fr, W.heap[b.s.blk]? = some (.cells c b.t fr) ∧ b.s.off + b.cs.length ≤ c.size ∧ b.s.cap = 0 ∧ ∀ (i : Nat) v, b.cs[i]? = some v → ∃ v', c[b.s.off + i]? = some v' ∧ VRel ρ v v'
theorem ArgB.Ok.mono {b : ArgB} (h : b.Ok W ρ) (hρ : ρ.le ρ') : b.Ok W ρ' := by
 obtain ⟨c, fr, h1, h2, h3, h4⟩ := h
 exact ⟨c, fr, h1, h2, h3, fun i v hi => let ⟨v', a, b⟩ := h4 i v hi; ⟨v', a, b.mono hρ⟩⟩
def ArgOk (W : World) (ρ : Ren) (L : List ArgB) : Prop := ∀ (j : Nat) b, L[j]? = some b → b.Ok W (argR ρ L)
theorem ArgOk.nil : ArgOk W ρ [] := fun j b h => by cases h
theorem ArgOk.push (h : ArgOk W ρ L) (hb : b.Ok W (argR ρ L)) : ArgOk W ρ (L ++ [b]) := fun j x hx => by
 have hle : (argR ρ L).le (argR ρ (L ++ [b])) := argR_le (List.prefix_append _ _)
 by_cases hj : j < L.length
 ·rw [List.getElem?_append_left hj] at hx
  exact (h j x hx).mono hle
 rw [List.getElem?_append_right (by omega)] at hx
 cases e : j - L.length with
 | zero =>
  rw [e] at hx
  cases hx
  exact hb.mono hle
 | succ n =>
  rw [e] at hx
  simp at hx
structure ArgBase (P : Program) (W : World) (ρ : Ren) : Prop where
 glob : ∀ g, g < P.globals.size → ∃ c, ρ g = some ⟨g, 0, c⟩
 inb : ∀ b s, ρ b = some s → b < laidEnd ∧ s.blk < W.heap.size
theorem VsRel.len {ρ : Ren} : ∀ {a a' : List Value}, VsRel ρ a a' → a.length = a'.length
 | _, _, .nil => rfl
 | _, _, .cons _ hs => by simp [hs.len]
section
variable {H : Type} {enc : TypeId × Value → H} {P : Program} {W : World} {ρ : Ren} {held : Bool}
def Enters {α : Type} (enc : TypeId × Value → H) (P : Program) (W : World) (ρ : Ren) (held : Bool) (e : TypeId) (R : Kn → α → List Value → Prop) : Prop :=
 ∀ (fuel : Nat) (cs' : List Value) (x : DataW H × List MemPlace) (L : List ArgB), DataW.trod enc P W 0 (fun _ => true) held fuel e cs' = some x → ArgOk W ρ L → ∃ (L' : List ArgB) (a : α) (cs : List Value), L <+: L' ∧ ArgOk W ρ L' ∧ R (KA L') a cs ∧ VsRel (argR ρ L') cs cs'
def EntersL {α : Type} (enc : TypeId × Value → H) (P : Program) (W : World) (ρ : Ren) (held : Bool) (ts : List TypeId) (R : Kn → α → List Value → Prop) : Prop :=
 ∀ (cs' : List Value) (L : List ArgB), (∀ (i : Nat) t, ts[i]? = some t → ∃ (fuel : Nat) (y : DataW H × List MemPlace), DataW.trod enc P W 0 (fun _ => true) held fuel t ((cs'.drop i).take 1) = some y) → cs'.length = ts.length → ArgOk W ρ L → ∃ (L' : List ArgB) (a : α) (cs : List Value), L <+: L' ∧ ArgOk W ρ L' ∧ R (KA L') a cs ∧ VsRel (argR ρ L') cs cs'
theorem EntersL.nil : EntersL enc P W ρ held [] (fun _ (_ : Unit) cs => cs = []) := fun cs' L _ hl hL => by
 cases cs' with
 | nil => exact ⟨L, (), [], List.prefix_refl _, hL, rfl, .nil⟩
 | cons c r => simp at hl
theorem EntersL.cons {R1 : Kn → α → List Value → Prop} {R2 : Kn → β → List Value → Prop} (h1 : Enters enc P W ρ held t R1) (hm : ∀ K K' : Kn, (∀ b o, K b o → K' b o) → ∀ a cs, R1 K a cs → R1 K' a cs) (h2 : EntersL enc P W ρ held ts R2) : EntersL enc P W ρ held (t :: ts) (fun K (p : α × β) cs => ∃ a b, cs = a ++ b ∧ R1 K p.1 a ∧ R2 K p.2 b) := fun cs' L ht hl hL => by
 cases cs' with
 | nil => simp at hl
 | cons c r =>
  obtain ⟨fuel, y, e1⟩ := ht 0 t rfl
  obtain ⟨L1, a, ca, p1, ok1, hR1, hv1⟩ := h1 fuel [c] y L e1 hL
  obtain ⟨L2, b, cb, p2, ok2, hR2, hv2⟩ := h2 r L1 (fun i u hu => ht (i + 1) u hu) (by simpa using hl) ok1
  exact ⟨L2, (a, b), ca ++ cb, p1.trans p2, ok2, ⟨ca, cb, rfl, hm _ _ (KA.mono p2) _ _ hR1, hR2⟩, (hv1.mono (argR_le p2)).append hv2⟩
theorem Enters.map {R : Kn → α → List Value → Prop} {R' : Kn → β → List Value → Prop} (h : Enters enc P W ρ held t R) (g : α → β) (k : ∀ K a cs, R K a cs → R' K (g a) cs) : Enters enc P W ρ held t R' := fun fuel cs' x L e hL => by
 obtain ⟨L', a, cs, h1, h2, h3, h4⟩ := h fuel cs' x L e hL
 exact ⟨L', g a, cs, h1, h2, k _ _ _ h3, h4⟩
end
end Go.Ab
namespace Go.Ab
variable [Vals]
theorem sliceA_to {sz b off n cap kk : Nat} (hu : P.underlying ty = some (.slice el)) (hz : sizeT P el = some sz) (hk : kk ≤ n) (hc : n ≤ cap) : sliceA P ty (.slice (some ⟨b, off, none⟩) n cap) none (some (.int k (Int.ofNat kk))) none = some (.slice (some ⟨b, off, none⟩) kk cap) := by
 unfold sliceA
 simp only [hu, hz]
 have hb : ∀ y, kk ≤ y → boundA (some (.int k (Int.ofNat kk))) 0 y = some kk := fun y hy => by
  unfold boundA
  simp only [asInt?]
  rw [nble, decide_eq_true hy]
  rfl
 have hb2 : ∀ d y, kk ≤ y → boundA (some (.int k (Int.ofNat kk))) d y = some kk := fun d y hy => by
  unfold boundA
  simp only [asInt?]
  rw [nble, decide_eq_true hy]
  rfl
 have h0 : ∀ y, boundA none 0 y = some 0 := fun y => rfl
 cases hcb : Nat.blt cap big with
 | true =>
  simp only [cond_true]
  unfold sliceExact
  rw [show boundA none cap cap = some cap from rfl]
  simp only [Option.bind_some]
  rw [hb2 n cap (by omega)]
  simp only [Option.bind_some]
  rw [h0]
  simp only [Option.bind_some]
  unfold sliceOut
  simp only [Nat.zero_mul, Nat.add_zero, Nat.sub_zero]
  cases Nat.beq cap 0 <;> rfl
 | false =>
  simp only [cond_false]
  rw [hb2 n n hk]
  simp only [Option.bind_some]
  rw [h0]
  simp only [Option.bind_some, Nat.zero_mul, Nat.add_zero, Nat.sub_zero]
theorem Sl.take (h : Sl K sz R l (.slice a n cap)) (hk : kk ≤ l.length) : Sl K sz R (l.take kk) (.slice a kk cap) := by
 obtain ⟨a', cap', e, hn, hl⟩ := h
 cases e
 have hlen : (l.take kk).length = kk := by rw [List.length_take]; omega
 refine ⟨a, cap, by rw [hlen], by rw [hlen]; omega, ?_⟩
 rcases hl with ⟨rfl, ha⟩ | ⟨b, off, cs, el, g, md, mate, rfl, hb, hle, hc⟩
 ·exact .inl ⟨by simp, ha⟩
 refine .inr ⟨b, off, cs, el, g, md, mate, rfl, hb, ?_, fun i x hx => hc i x ?_⟩
 ·rw [hlen]
  have := Nat.mul_le_mul_right sz hk
  omega
 rw [List.getElem?_take] at hx
 split at hx
 ·exact hx
 cases hx
section
variable {α : Type} {X : Cx} {ops : Array Oper} {base : Nat} {rI : List Nat} {cl : Bool} {mk : List (Nat × Nat)} {e : Env} {h : Hp} {Q : Out → Prop} {o : Oper} {i : Info} {rest : List Oper} {drest : List (Oper × Info)} {t : Tmp}
theorem Ie.sliceTo {sz b off n cap kk : Nat} (hk : kk ≤ n) (hc : n ≤ cap) (hd : o.dst = some t) (ht : Nat.blt t X.n = true) (hg : wantE ops e o = some true) (ho : o.op = .slice ty x none (some y) none) (hu : X.P.underlying ty = some (.slice el)) (hz : sizeT X.P el = some sz) (hx : evE X.P e x = some (.slice (some ⟨b, off, none⟩) n cap)) (hy : evE X.P e y = some (.int k (Int.ofNat kk))) (q : Ie X ops ((t, .slice (some ⟨b, off, none⟩) kk cap) :: e) h rest Q) : Ie X ops e h (o :: rest) Q :=
 Ie.p hd ht hg (by rw [ho]; simp only [opE, hx, evoE, hy, Option.map_some]; exact sliceA_to hu hz hk hc) q
def DeW (X : Cx) (ops : Array Oper) (base : Nat) (rI : List Nat) (W : List Nat) (as : List (Nat × Nat)) (e : Env) (h : Hp) (l : List (Oper × Info)) (Q : Out → Prop) : Prop :=
 ∀ ts m rs ws, Has X.n ts e → Knows X.S X.m0 m h → X.m0.next ≤ base ∧ base ≤ m.next → (∀ p ∈ rs, p.1 ∈ rI) → (∀ p ∈ ws, ∀ b ∈ p.2, b ∈ W) → Do X.P X.n ops base X.m0.lo l rs ws as ts m Q
theorem DeW.of (q : De X ops base rI false as e h l Q) : DeW X ops base rI W as e h l Q := fun ts m rs ws h1 h2 h3 h4 _ => q ts m rs ws h1 h2 h3 h4 (fun hf => by cases hf)
theorem DeW.p (hi : i.cls = .p) (hd : o.dst = some t) (ht : Nat.blt t X.n = true) (hg : wantE ops e o = some true) (hv : opE X.P e o.op = some v) (q : DeW X ops base rI W mk ((t, v) :: e) h drest Q) : DeW X ops base rI W mk e h ((o, i) :: drest) Q := fun ts m rs ws h1 h2 h3 h4 h5 => by
 obtain ⟨k, out, g1, g2⟩ := q _ m rs ws (h1.put ht v) h2 h3 h4 h5
 obtain ⟨c1, _, c2⟩ := opE_spec h1 hv
 refine ⟨k, out, ?_, g2⟩
 unfold dops
 rw [wantE_spec h1 hg]
 simp only [cond_true, hi, doOp_p c1, doP, c2, hd]
 exact g1
theorem DeW.fieldAddr {j b off k : Nat} (hi : i.cls = .p) (hd : o.dst = some t) (ht : Nat.blt t X.n = true) (hg : wantE ops e o = some true) (ho : o.op = .fieldAddr s x j) (hx : evE X.P e x = some (.pointer (some ⟨b, off, none⟩))) (hf : ∀ b off, fieldAddrA X.P s (.pointer (some ⟨b, off, none⟩)) j = some (.pointer (some ⟨b, off + k, none⟩))) (q : DeW X ops base rI W mk ((t, .pointer (some ⟨b, off + k, none⟩)) :: e) h drest Q) : DeW X ops base rI W mk e h ((o, i) :: drest) Q :=
 DeW.p hi hd ht hg (by rw [ho]; simp only [opE, hx, hf]) q
theorem DeW.indexAddr {b off len cap sz j : Nat} (hi : i.cls = .p) (hd : o.dst = some t) (ht : Nat.blt t X.n = true) (hg : wantE ops e o = some true) (ho : o.op = .indexAddr ty x y) (hu : X.P.underlying ty = some (.slice el)) (hs : sizeT X.P el = some sz) (hx : evE X.P e x = some (.slice (some ⟨b, off, none⟩) len cap)) (hy : evE X.P e y = some (.int k (Int.ofNat j))) (hj : j < len) (q : DeW X ops base rI W mk ((t, .pointer (some ⟨b, off + j * sz, none⟩)) :: e) h drest Q) : DeW X ops base rI W mk e h ((o, i) :: drest) Q :=
 DeW.p hi hd ht hg (by
  rw [ho]
  simp only [opE, hx, hy]
  unfold indexAddrA
  simp only [asInt?, hu, hs]
  rw [nblt, decide_eq_true hj]
  rfl) q
theorem readOk_notIn {W : List Nat} (pre b : Nat) (hb : b ∉ W) : ∀ (ws : List (Nat × List Nat)), (∀ p ∈ ws, ∀ c ∈ p.2, c ∈ W) → readOk pre b ws = true
 | [], _ => rfl
 | (h, w) :: ws, hw => by
  have hn : notIn b w = true := by
   have h1 : ∀ c ∈ w, c ≠ b := fun c hc e => hb (e ▸ hw (h, w) List.mem_cons_self c hc)
   clear hw
   induction w with
   | nil => rfl
   | cons c w ih =>
    unfold notIn
    have h2 : Nat.beq b c = false := by rw [nbeq, decide_eq_false_iff_not]; exact fun e => h1 c List.mem_cons_self e.symm
    have h3 : Nat.beq c b = false := by rw [nbeq, decide_eq_false_iff_not]; exact h1 c List.mem_cons_self
    have h4 := ih fun c' hc => h1 c' (List.mem_cons_of_mem _ hc)
    simp [h2, h3, h4]
  unfold readOk
  rw [hn, Bool.or_true]
  exact readOk_notIn pre b hb ws fun p hp => hw p (List.mem_cons_of_mem _ hp)
theorem DeW.load {b off : Nat} (hi : i.cls = .l) (hd : o.dst = some t) (ht : Nat.blt t X.n = true) (hg : wantE ops e o = some true) (ho : o.op = .load ty a) (ha : evE X.P e a = some (.pointer (some ⟨b, off, none⟩))) (hty : aggT X.P ty = some false) (hs : Sees X h b (.cells cs el g md mate)) (hc : cs[off]? = some v) (hb : b < base) (hW : ∀ c, c ∈ W → ∃ oc, (c, oc) ∈ h ∧ oc ≠ .cells cs el g md mate) (q : DeW X ops base (i.i :: rI) W mk ((t, v) :: e) h drest Q) : DeW X ops base rI W mk e h ((o, i) :: drest) Q := fun ts m rs ws h1 h2 h3 h4 h5 => by
 have hbW : b ∉ W := fun h => by
  obtain ⟨oc, e1, e2⟩ := hW b h
  have := (h2.has b oc e1).1
  rw [hs m h2] at this
  exact e2 (Option.some.inj this).symm
 have hv : opL X.P ts o.op = some (.rd b fun o => match o with | .cells cs _ _ _ _ => cs[off]? | _ => none) := by
  rw [ho]
  simp only [opL, evE_ev h1 ha, Option.bind_some]
  exact loadA_false hty
 have hr : (m.heap.get b).bind (fun o => match o with | .cells cs _ _ _ _ => cs[off]? | _ => none) = some v := by rw [hs m h2]; exact hc
 cases hfull : (i.full && seenB i.pre b mk) with
 | true =>
  obtain ⟨k, out, g1, g2⟩ := q _ m rs ws (h1.put ht v) h2 h3 (fun p hp => List.mem_cons_of_mem _ (h4 p hp)) h5
  refine ⟨k, out, ?_, g2⟩
  unfold dops
  rw [wantE_spec h1 hg]
  simp only [cond_true, hi, hv, hd, hr, hfull]
  exact g1
 | false =>
  obtain ⟨k, out, g1, g2⟩ := q _ m ((i.i, b, (fun o => match o with | .cells cs _ _ _ _ => cs[off]? | _ => none), v) :: rs) ws (h1.put ht v) h2 h3 (fun p hp => by
   rcases List.mem_cons.1 hp with rfl | hp
   ·exact List.mem_cons_self
   exact List.mem_cons_of_mem _ (h4 p hp)) h5
  refine ⟨k, out, ?_, g2⟩
  unfold dops
  rw [wantE_spec h1 hg]
  have : (Nat.blt b base && readOk i.pre b ws) = true := by
   rw [readOk_notIn _ _ hbW _ h5, nblt, decide_eq_true hb]
   rfl
  simp only [cond_true, hi, hv, hd, hr, hfull, cond_false, this]
  exact g1
theorem below_nil {lo : Nat} : ∀ {l : List Nat}, (∀ b ∈ l, lo ≤ b) → below lo l = []
 | [], _ => rfl
 | b :: l, h => by
  unfold below
  have : Nat.blt b lo = false := by rw [nblt, decide_eq_false_iff_not]; have := h b List.mem_cons_self; omega
  rw [this]
  exact below_nil fun c hc => h c (List.mem_cons_of_mem _ hc)
theorem below_mem {lo b : Nat} : ∀ {l : List Nat}, b ∈ below lo l → b ∈ l ∧ b < lo
 | [], h => by cases h
 | c :: l, h => by
  unfold below at h
  cases hc : Nat.blt c lo with
  | true =>
   rw [hc] at h
   rcases List.mem_cons.1 h with rfl | h
   ·rw [nblt, decide_eq_true_eq] at hc
    exact ⟨List.mem_cons_self, hc⟩
   have := below_mem (l := l) h
   exact ⟨List.mem_cons_of_mem _ this.1, this.2⟩
  | false =>
   rw [hc] at h
   have := below_mem (l := l) h
   exact ⟨List.mem_cons_of_mem _ this.1, this.2⟩
theorem Upd.app {o o' : AObj} (u : Upd h b o o' h') : Upd (A ++ h) b o o' (A ++ h') := by
 induction A with
 | nil => exact u
 | cons p A ih => exact .tail ih
theorem Ie.drop (hs : h'.Sublist h) (q : Ie X ops e h' ops' Q) : Ie X ops e h ops' Q := fun ts m h1 h2 => q ts m h1 (h2.sub hs)
theorem De.drop (hs : h'.Sublist h) (q : De X ops base rI cl mk e h' l Q) : De X ops base rI cl mk e h l Q := fun ts m rs ws h1 h2 h3 h4 h5 => q ts m rs ws h1 (h2.sub hs) h3 h4 h5
end
end Go.Ab
namespace Go.Ab
variable [Vals]
section
variable {X : Cx} {ops : Array Oper} {e : Env} {h : Hp} {Q : Out → Prop} {o : Oper} {rest : List Oper} {t : Tmp} {v : Value}
theorem Ie.P (q : Ie X ops ((t, v) :: e) h rest Q) (hd : o.dst = some t := by exact rfl) (ht : Nat.blt t X.n = true := by exact rfl) (hg : wantE ops e o = some true := by exact rfl) (hv : opE X.P e o.op = some v := by exact rfl) : Ie X ops e h (o :: rest) Q := Ie.p hd ht hg hv q
theorem Ie.F {i b off k : Nat} (hf : ∀ b off, fieldAddrA X.P s (.pointer (some ⟨b, off, none⟩)) i = some (.pointer (some ⟨b, off + k, none⟩))) (q : Ie X ops ((t, .pointer (some ⟨b, off + k, none⟩)) :: e) h rest Q) (hd : o.dst = some t := by exact rfl) (ht : Nat.blt t X.n = true := by exact rfl) (hg : wantE ops e o = some true := by exact rfl) (ho : o.op = .fieldAddr s x i := by exact rfl) (hx : evE X.P e x = some (.pointer (some ⟨b, off, none⟩)) := by exact rfl) : Ie X ops e h (o :: rest) Q := Ie.fieldAddr hd ht hg ho hx hf q
theorem Ie.L {b off : Nat} (hty : aggT X.P ty = some false) (q : Ie X ops ((t, v) :: e) h rest Q) (hd : o.dst = some t := by exact rfl) (ht : Nat.blt t X.n = true := by exact rfl) (hg : wantE ops e o = some true := by exact rfl) (ho : o.op = .load ty a := by exact rfl) (ha : evE X.P e a = some (.pointer (some ⟨b, off, none⟩)) := by exact rfl) (hs : Sees X h b (.cells cs el g md mate) := by repeat first | exact .head | exact .app .head | exact .base ‹_› ‹_› (by simp) | refine .tail ?_ | refine .app ?_) (hc : cs[off]? = some v := by exact rfl) : Ie X ops e h (o :: rest) Q := Ie.load hd ht hg ho ha hty hs hc q
theorem Ie.K {b off len cap sz j : Nat} (hu : X.P.underlying ty = some (.slice el)) (hs : sizeT X.P el = some sz) (q : Ie X ops ((t, .pointer (some ⟨b, off + j * sz, none⟩)) :: e) h rest Q) (hd : o.dst = some t := by exact rfl) (ht : Nat.blt t X.n = true := by exact rfl) (hg : wantE ops e o = some true := by exact rfl) (ho : o.op = .indexAddr ty x i := by exact rfl) (hx : evE X.P e x = some (.slice (some ⟨b, off, none⟩) len cap) := by exact rfl) (hi : evE X.P e i = some (.int k (Int.ofNat j)) := by exact rfl) (hj : j < len := by omega) : Ie X ops e h (o :: rest) Q := Ie.indexAddr hd ht hg ho hu hs hx hi hj q
end
end Go.Ab