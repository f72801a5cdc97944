/-
  The engine, part 6: an interpreter over abstract memories, and the proof that the model's machine does what it reckons. Conditions: none.
-/
import Derived.Test.YtmfbljaemhpokaaGreatDoorEng5

set_option autoImplicit true
set_option relaxedAutoImplicit true
set_option linter.unusedSectionVars false
set_option linter.unusedVariables false
set_option linter.unusedSimpArgs false
namespace Go.Ab
variable [Vals]
abbrev Kn := Nat → AObj → Prop
def Mem (m : AW) : Kn := fun b o => b < m.next ∧ m.heap.get b = some o
def InH (h : Hp) : Kn := fun b o => (b, o) ∈ h
def MemD (D : Nat → Prop) (m : AW) : Kn := fun b o => D b ∧ b < m.next ∧ m.heap.get b = some o
theorem Mem.ext (h : Ext m m') : ∀ b o, Mem m b o → Mem m' b o := fun b _ ⟨h1, h2⟩ => ⟨Nat.lt_of_lt_of_le h1 h.next, (h.keep b h1).trans h2⟩
theorem Mem.kr (k : KR [] m m' h) : ∀ b o, Mem m b o → Mem m' b o := fun b _ ⟨h1, h2⟩ => ⟨Nat.lt_of_lt_of_le h1 k.next, (k.keep b h1 (by simp)).trans h2⟩
theorem InH.kr (k : KR S m m' h) (hs : ∀ p, p ∈ l → p ∈ h) : ∀ b o, InH l b o → Mem m' b o := fun b o hb => ⟨(k.has b o (hs _ hb)).2, (k.has b o (hs _ hb)).1⟩
theorem InH.sees (hs : ∀ p, p ∈ l → p ∈ h) : ∀ b o, InH l b o → Sees X h b o := fun b o hb _ k => (k.has b o (hs _ hb)).1
theorem Sees.app (s : Sees X h b o) : Sees X (l ++ h) b o := fun m k => s m (k.sub (List.sublist_append_right _ _))
theorem Mem.sees (hm : X.m0 = m) (hS : X.S = []) : ∀ b o, Mem m b o → Sees X h b o := fun _ _ ⟨h1, h2⟩ => Sees.base (by rw [hm]; exact h2) (by rw [hm]; exact h1) (by rw [hS]; simp)
theorem rf_base {K : List Nat} (k : Knows [] m m1 ((bt, o) :: h)) (hs : ∀ b, b ∈ K → b ∈ h.map Prod.fst) : ∀ b, (b = bt ∨ b < m.next) → b < m1.next ∧ b ∉ K := by
 have hap := k.apart
 simp only [List.map_cons, List.nodup_cons] at hap
 intro b hb
 rcases hb with rfl | hb
 ·exact ⟨(k.has b o List.mem_cons_self).2.1, fun h => hap.1 (hs _ h)⟩
 refine ⟨Nat.lt_of_lt_of_le hb k.next, fun hK => ?_⟩
 obtain ⟨⟨c, o'⟩, h1, rfl⟩ := List.mem_map.1 (hs _ hK)
 rcases (k.has c o' (List.mem_cons_of_mem _ h1)).2.2 with h2 | h2
 ·simp only at hb
  omega
 cases h2
theorem rf_mem (k : Knows [] m m1 h) : ∀ b o, Mem m b o → MemD (fun b => b = bt ∨ b < m.next) m1 b o := fun b o ⟨h1, h2⟩ => ⟨.inr h1, Nat.lt_of_lt_of_le h1 k.next, (k.keep b h1 (by simp)).trans h2⟩
theorem rf_new (k : Knows [] m m1 ((bt, o) :: h)) : MemD (fun b => b = bt ∨ b < m.next) m1 bt o := ⟨.inl rfl, (k.has bt o List.mem_cons_self).2.1, (k.has bt o List.mem_cons_self).1⟩
theorem Mem.kr2 (k : Knows [] m m1 h1) (k2 : KR S m1 m2 h2) (hS : ∀ b, b ∈ S → b ∈ h1.map Prod.fst) : ∀ b o, Mem m b o → Mem m2 b o := fun b o ⟨e1, e2⟩ => by
 have hlt := Nat.lt_of_lt_of_le e1 k.next
 refine ⟨Nat.lt_of_lt_of_le hlt k2.next, (k2.keep b hlt fun hb => ?_).trans ((k.keep b e1 (by simp)).trans e2)⟩
 obtain ⟨⟨c, o'⟩, g1, rfl⟩ := List.mem_map.1 (hS b hb)
 rcases (k.has c o' g1).2.2 with h | h
 ·simp only at e1
  omega
 cases h
def Off (S : List Nat) (m : AW) : Kn := fun b o => b < m.next ∧ b ∉ S ∧ m.heap.get b = some o
theorem Off.sees (hm : X.m0 = m) (hS : X.S = S) : ∀ b o, Off S m b o → Sees X h b o := fun _ _ ⟨h1, h2, h3⟩ => Sees.base (by rw [hm]; exact h3) (by rw [hm]; exact h1) (by rw [hS]; exact h2)
theorem Off.kr (k : KR S m m' h) : ∀ b o, Off S m b o → Off S m' b o := fun b _ ⟨h1, h2, h3⟩ => ⟨Nat.lt_of_lt_of_le h1 k.next, h2, (k.keep b h1 h2).trans h3⟩
theorem Off.mem : ∀ b o, Off S m b o → Mem m b o := fun _ _ ⟨h1, _, h3⟩ => ⟨h1, h3⟩
theorem rf_baseS {K : List Nat} (k : Knows S m m1 ((bt, o) :: h)) (hs : ∀ b, b ∈ K → b ∈ h.map Prod.fst) : ∀ b, (b = bt ∨ b < m.next ∧ b ∉ S) → b < m1.next ∧ b ∉ K := by
 have hap := k.apart
 simp only [List.map_cons, List.nodup_cons] at hap
 intro b hb
 rcases hb with rfl | ⟨hb, hbS⟩
 ·exact ⟨(k.has b o List.mem_cons_self).2.1, fun h => hap.1 (hs _ h)⟩
 refine ⟨Nat.lt_of_lt_of_le hb k.next, fun hK => ?_⟩
 obtain ⟨⟨c, o'⟩, h1, rfl⟩ := List.mem_map.1 (hs _ hK)
 rcases (k.has c o' (List.mem_cons_of_mem _ h1)).2.2 with h2 | h2
 ·simp only at hb
  omega
 exact hbS h2
theorem rf_memS (k : Knows S m m1 h) : ∀ b o, Off S m b o → MemD (fun b => b = bt ∨ b < m.next ∧ b ∉ S) m1 b o := fun b o ⟨h1, h2, h3⟩ => ⟨.inr ⟨h1, h2⟩, Nat.lt_of_lt_of_le h1 k.next, (k.keep b h1 h2).trans h3⟩
theorem rf_newS (k : Knows S m m1 ((bt, o) :: h)) : MemD (fun b => b = bt ∨ b < m.next ∧ b ∉ S) m1 bt o := ⟨.inl rfl, (k.has bt o List.mem_cons_self).2.1, (k.has bt o List.mem_cons_self).1⟩
theorem Off.kr2 (k : Knows S m m1 h1) (k2 : KR S2 m1 m2 h2) (hS : ∀ b, b ∈ S2 → b ∈ h1.map Prod.fst) : ∀ b o, Off S m b o → Off S m2 b o := fun b o ⟨e1, e2, e3⟩ => by
 have hlt := Nat.lt_of_lt_of_le e1 k.next
 refine ⟨Nat.lt_of_lt_of_le hlt k2.next, e2, (k2.keep b hlt fun hb => ?_).trans ((k.keep b e1 e2).trans e3)⟩
 obtain ⟨⟨c, o'⟩, g1, rfl⟩ := List.mem_map.1 (hS b hb)
 rcases (k.has c o' g1).2.2 with h | h
 ·simp only at e1
  omega
 exact e2 h
def Sl {α : Type} (K : Kn) (sz : Nat) (R : α → List Value → Prop) (l : List α) (v : Value) : Prop :=
 ∃ a cap, v = .slice a l.length cap ∧ (l.length ≤ 9223372036854775807 ∧ l.length ≤ cap) ∧ (l = [] ∧ (a = none ∨ ∃ b off, a = some ⟨b, off, none⟩) ∨ ∃ b off cs el g md mate, a = some ⟨b, off, none⟩ ∧ K b (.cells cs el g md mate) ∧ off + l.length * sz ≤ cs.length ∧ ∀ i x, l[i]? = some x → R x ((cs.drop (off + i * sz)).take sz))
theorem Sl.mono (h : Sl K sz R l v) (k : ∀ b o, K b o → K' b o) (hR : ∀ x cs, R x cs → R' x cs) : Sl K' sz R' l v := by
 obtain ⟨a, cap, rfl, hn, hl⟩ := h
 refine ⟨a, cap, rfl, hn, ?_⟩
 rcases hl with hl | ⟨b, off, cs, el, g, md, mate, rfl, hb, hle, hc⟩
 ·exact .inl hl
 exact .inr ⟨b, off, cs, el, g, md, mate, rfl, k _ _ hb, hle, fun i x hx => hR _ _ (hc i x hx)⟩
theorem cell_of_take {cs l : List Value} (h : (cs.drop o).take n = l) (hk : l[k]? = some v) : cs[o + k]? = some v := by
 rw [← h, List.getElem?_take] at hk
 split at hk
 ·rw [List.getElem?_drop] at hk
  exact hk
 cases hk
def Flat {α : Type} (sz : Nat) (R : α → List Value → Prop) (l : List α) (vs : List Value) : Prop := vs.length = l.length * sz ∧ ∀ i x, l[i]? = some x → R x ((vs.drop (i * sz)).take sz)
theorem Flat.nil : Flat sz R [] [] := ⟨by simp, fun i x h => by simp at h⟩
theorem Flat.one (h : R x vs) (hl : vs.length = sz) : Flat sz R [x] vs := ⟨by simp [hl], fun i y hy => by
 cases i with
 | zero =>
  simp only [List.getElem?_cons_zero, Option.some.injEq] at hy
  subst hy
  rw [Nat.zero_mul, List.drop_zero, ← hl, List.take_length]
  exact h
 | succ i => simp at hy⟩
theorem Flat.append (h : Flat sz R l vs) (h' : Flat sz R l' vs') : Flat sz R (l ++ l') (vs ++ vs') := by
 refine ⟨by rw [List.length_append, List.length_append, h.1, h'.1, Nat.add_mul], fun i x hx => ?_⟩
 by_cases hi : i < l.length
 ·rw [List.getElem?_append_left hi] at hx
  have h1 := h.2 i x hx
  have h2 : (i + 1) * sz ≤ l.length * sz := Nat.mul_le_mul_right _ hi
  rw [Nat.add_mul, Nat.one_mul] at h2
  rw [List.drop_append_of_le_length (by rw [h.1]; omega), List.take_append_of_le_length (by rw [List.length_drop, h.1]; omega)]
  exact h1
 rw [List.getElem?_append_right (by omega)] at hx
 have h1 := h'.2 _ x hx
 have h2 : i * sz = vs.length + (i - l.length) * sz := by
  rw [h.1, ← Nat.add_mul]
  congr 1
  omega
 rw [h2, List.drop_append, List.drop_eq_nil_of_le (by omega), List.nil_append, show vs.length + (i - l.length) * sz - vs.length = (i - l.length) * sz by omega]
 exact h1
theorem Flat.flats (hs : 0 < sz) (hR : ∀ x cs, R x cs → flats cs = true) (h : Flat sz R l vs) : flats vs = true := by
 unfold Ab.flats
 rw [List.all_eq_true]
 intro v hv
 obtain ⟨p, hp⟩ := List.getElem?_of_mem hv
 have hlt : p < vs.length := (List.getElem?_eq_some_iff.1 hp).1
 have hi : p / sz < l.length := by
  rw [Nat.div_lt_iff_lt_mul hs, ← h.1]
  exact hlt
 have h1 := hR _ _ (h.2 (p / sz) _ (List.getElem?_eq_getElem hi))
 unfold Ab.flats at h1
 rw [List.all_eq_true] at h1
 refine h1 v (List.mem_of_getElem? (i := p % sz) ?_)
 rw [List.getElem?_take, if_pos (Nat.mod_lt _ hs), List.getElem?_drop, Nat.mul_comm, Nat.div_add_mod]
 exact hp
theorem Sl.shows (hs : 0 < sz) (hR : ∀ x cs, R x cs → flats cs = true) (hl : Sl K sz R l v) (hK : ∀ b o, K b o → Sees X h b o) : ∃ vs, Shows X h sz v l.length vs ∧ Flat sz R l vs := by
 obtain ⟨a, cap, rfl, hn, hl⟩ := hl
 rcases hl with ⟨rfl, ha⟩ | ⟨b, off, cs, el, g, md, mate, rfl, hb, hle, hc⟩
 ·exact ⟨[], Shows.nil ha, Flat.nil⟩
 have hF : Flat sz R l ((cs.drop off).take (l.length * sz)) := by
  refine ⟨by rw [List.length_take, List.length_drop]; omega, fun i x hx => ?_⟩
  have hi : i < l.length := (List.getElem?_eq_some_iff.1 hx).1
  have h1 := hc i x hx
  have h2 : (i + 1) * sz ≤ l.length * sz := Nat.mul_le_mul_right _ hi
  rw [Nat.add_mul, Nat.one_mul] at h2
  rw [List.drop_take, List.take_take, Nat.min_eq_left (by omega), List.drop_drop]
  exact h1
 exact ⟨_, Shows.slice (hK _ _ hb) hle rfl (hF.flats hs hR), hF⟩
theorem Gro.sl {R : α → List Value → Prop} {l : List α} {g : Gro} (hF : Flat sz R l cs) (hg : g.Ok l.length) (hn : l.length ≤ 9223372036854775807) : Sl (InH (g.H el cs)) sz R l (g.V l.length) := by
 cases g with
 | no =>
  have h0 : l.length = 0 := hg
  have : l = [] := List.eq_nil_of_length_eq_zero h0
  subst this
  exact ⟨none, 0, rfl, by simp, .inl ⟨rfl, .inl rfl⟩⟩
 | emp b =>
  have h0 : l.length = 0 := hg
  have : l = [] := List.eq_nil_of_length_eq_zero h0
  subst this
  exact ⟨some ⟨b, 0, none⟩, 0, rfl, by simp, .inl ⟨rfl, .inr ⟨b, 0, rfl⟩⟩⟩
 | one b => exact ⟨some ⟨b, 0, none⟩, top, rfl, ⟨hn, by unfold top; omega⟩, .inr ⟨b, 0, cs, el, true, .plain, none, rfl, List.mem_cons_self, by rw [hF.1]; omega, fun i x hx => by rw [Nat.zero_add]; exact hF.2 i x hx⟩⟩
 | two b b0 old => exact ⟨some ⟨b, 0, none⟩, top, rfl, ⟨hn, by unfold top; omega⟩, .inr ⟨b, 0, cs, el, true, .plain, some b0, rfl, List.mem_cons_self, by rw [hF.1]; omega, fun i x hx => by rw [Nat.zero_add]; exact hF.2 i x hx⟩⟩
theorem Sl.single (h : R x vs) (hl : vs.length = sz) (hc : 1 ≤ c := by decide) : Sl (InH [(b, .cells vs el g md mate)]) sz R [x] (.slice (some ⟨b, 0, none⟩) 1 c) :=
 ⟨some ⟨b, 0, none⟩, c, rfl, ⟨by simp, hc⟩, .inr ⟨b, 0, vs, el, g, md, mate, rfl, List.mem_cons_self, by simp [hl], fun i y hy => by
  have := (Flat.one h hl).2 i y hy
  rwa [Nat.zero_add]⟩⟩
def AppC (P : Program) (e : TypeId) (sz : Nat) : Bool := match sizeT P e, P.info? e with
 | some s, some i => Nat.beq s sz && (zeroFits P e sz && (Nat.ble i.bytes 1024 && (Nat.ble 1 i.bytes && Nat.ble 1 sz)))
 | _, _ => false
theorem AppT.of (h : AppC P e sz = true) : AppT P e sz := by
 unfold AppC at h
 split at h
 ·rename_i s i h1 h2
  rw [Bool.and_eq_true, nbeq, decide_eq_true_eq] at h
  obtain ⟨rfl, h3⟩ := h
  exact ⟨h1, i, h2, h3⟩
 cases h
section
variable {α : Type} {X : Cx} {ops : Array Oper} {base : Nat} {rI : List Nat} {cl : Bool} {mk : List (Nat × Nat)} {e : Env} {h : Hp} {Q : Out → Prop} {o : Oper} {i : Info} {rest : List Oper} {drest : List (Oper × Info)} {t : Tmp}
theorem Ie.appendSl {g : Gro} (hL : l0 ++ l = L) (hp : Pick h (g.H el cs) h1) (hF : Flat sz R l0 cs) (hg : g.Ok l0.length) (hl : Sl K sz R l xv) (hK : ∀ b o, K b o → Sees X h b o) (hR : ∀ x cs, R x cs → flats cs = true) (hn : l0.length + l.length ≤ 4294967296) (hd : o.dst = some t) (ht : Nat.blt t X.n = true) (hgd : wantE ops e o = some true) (ho : o.op = .call { callee := .builtin .append, args := #[s, x], argTypes := #[t1, t2] }) (hu1 : X.P.underlying t1 = some (.slice el)) (hu2 : X.P.underlying t2 = some (.slice e2)) (hT : AppC X.P el sz = true) (hs : evE X.P e s = some (g.V l0.length)) (hx : evE X.P e x = some xv)
  (q : ∀ (g' : Gro) (cs' : List Value), Flat sz R L cs' → g'.Ok L.length → Ie X ops ((t, g'.V L.length) :: e) (g'.H el cs' ++ h1) rest Q) : Ie X ops e h (o :: rest) Q := by
 subst hL
 have hA := AppT.of hT
 have hs0 : 0 < sz := by
  obtain ⟨_, i, _, hb⟩ := hA
  simp only [Bool.and_eq_true] at hb
  exact Nat.le_of_ble_eq_true hb.2.2.2
 obtain ⟨vs, hv, hf⟩ := hl.shows hs0 hR hK
 have hlen : (l0 ++ l).length = l0.length + l.length := List.length_append
 refine Ie.append hp.perm hx hv hg hF.1 hn hd ht hgd ho hu1 hu2 hA hs fun g' hg' => ?_
 rw [← hlen] at hg' ⊢
 exact q g' _ (hF.append hf) hg'
theorem De.appendSl {g : Gro} (hL : l0 ++ l = L) (hp : Pick h (g.H el cs) h1) (hF : Flat sz R l0 cs) (hg : g.Ok l0.length) (hl : Sl K sz R l xv) (hK : ∀ b o, K b o → Sees X h b o) (hR : ∀ x cs, R x cs → flats cs = true) (hn : l0.length + l.length ≤ 4294967296) (hi : i.cls = .h) (hok : i.hok = true) (hin : allIn i.pre (mk.map Prod.fst) = true) (hri : allIn i.pre rI = true) (hd : o.dst = some t) (ht : Nat.blt t X.n = true) (hgd : wantE ops e o = some true) (ho : o.op = .call { callee := .builtin .append, args := #[s, x], argTypes := #[t1, t2] }) (hu1 : X.P.underlying t1 = some (.slice el)) (hu2 : X.P.underlying t2 = some (.slice e2)) (hT : AppC X.P el sz = true) (hs : evE X.P e s = some (g.V l0.length)) (hx : evE X.P e x = some xv)
  (q : ∀ (g' : Gro) (cs' : List Value), Flat sz R L cs' → g'.Ok L.length → De X ops base rI false mk ((t, g'.V L.length) :: e) (g'.H el cs' ++ h1) drest Q) : De X ops base rI cl mk e h ((o, i) :: drest) Q := by
 subst hL
 have hA := AppT.of hT
 have hs0 : 0 < sz := by
  obtain ⟨_, i, _, hb⟩ := hA
  simp only [Bool.and_eq_true] at hb
  exact Nat.le_of_ble_eq_true hb.2.2.2
 obtain ⟨vs, hv, hf⟩ := hl.shows hs0 hR hK
 have hlen : (l0 ++ l).length = l0.length + l.length := List.length_append
 refine De.append hp.perm hx hv hg hF.1 hn hi hok hin hri hd ht hgd ho hu1 hu2 hA hs fun g' hg' => ?_
 rw [← hlen] at hg' ⊢
 exact q g' _ (hF.append hf) hg'
theorem De.appendNewSl {g : Gro} (hne : g = .no ∨ ∃ b, g = .emp b) (hL : l0 ++ l = L) (hp : Pick h (g.H el cs) h1) (hF : Flat sz R l0 cs) (hg : g.Ok l0.length) (hl : Sl K sz R l xv) (hK : ∀ b o, K b o → Sees X h b o) (hR : ∀ x cs, R x cs → flats cs = true) (hn : l0.length + l.length ≤ 4294967296) (hi : i.cls = .h) (hok : i.hok = true) (hin : allIn i.pre (mk.map Prod.fst) = true) (hd : o.dst = some t) (ht : Nat.blt t X.n = true) (hgd : wantE ops e o = some true) (ho : o.op = .call { callee := .builtin .append, args := #[s, x], argTypes := #[t1, t2] }) (hu1 : X.P.underlying t1 = some (.slice el)) (hu2 : X.P.underlying t2 = some (.slice e2)) (hT : AppC X.P el sz = true) (hs : evE X.P e s = some (g.V l0.length)) (hx : evE X.P e x = some xv)
  (q : ∀ (g' : Gro) (cs' : List Value), Flat sz R L cs' → g'.Ok L.length → De X ops base rI cl mk ((t, g'.V L.length) :: e) (g'.H el cs' ++ h1) drest Q) : De X ops base rI cl mk e h ((o, i) :: drest) Q := by
 subst hL
 have hA := AppT.of hT
 have hs0 : 0 < sz := by
  obtain ⟨_, i, _, hb⟩ := hA
  simp only [Bool.and_eq_true] at hb
  exact Nat.le_of_ble_eq_true hb.2.2.2
 obtain ⟨vs, hv, hf⟩ := hl.shows hs0 hR hK
 have hlen : (l0 ++ l).length = l0.length + l.length := List.length_append
 refine De.appendNew hp.perm hx hv hg hF.1 hn hne hi hok hin hd ht hgd ho hu1 hu2 hA hs fun g' hg' => ?_
 rw [← hlen] at hg' ⊢
 exact q g' _ (hF.append hf) hg'
end
end Go.Ab
namespace Go.Ab
variable [Vals]
theorem putCells_set {v : Value} : ∀ (cs : List Value) (i : Nat), i < cs.length → putCells cs i [v] = cs.set i v
 | [], _, h => absurd h (Nat.not_lt_zero _)
 | c :: cs, 0, _ => by
  unfold putCells
  simp
 | c :: cs, i + 1, h => by
  unfold putCells
  rw [putCells_set cs i (by simpa using h)]
  rfl
section
variable {α : Type} {X : Cx} {ops : Array Oper} {e : Env} {h : Hp} {Q : Out → Prop} {o : Oper} {rest : List Oper} {t : Tmp}
theorem Ie.storeAt (hF : ∀ x, cellsOfV (F x) = [F x] ∧ flat (F x) = true) {st : List α} (hi : i < st.length) (hp : Pick h [(b, .cells (st.map F) el g md none)] r) (hmd : md.writes = true) (hd : o.dst = none) (hg : wantE ops e o = some true) (ho : o.op = .store ty a y) (hsz : sizeT X.P ty = some 1) (ha : evE X.P e a = some (.pointer (some ⟨b, 0 + i * 1, none⟩))) (hx : evE X.P e y = some (F x)) (q : Ie X ops e ((b, .cells ((st.set i x).map F) el g md none) :: r) rest Q) : Ie X ops e h (o :: rest) Q := by
 refine Ie.val_ (v := undef) ((b, .cells ((st.set i x).map F) el g md none) :: r) hd hg (by rw [ho]; rfl) (fun ts m h1 h2 => ⟨0, m.set b (some (.cells ((st.set i x).map F) el g md none)), ?_, (h2.perm hp.perm).set .head⟩) q
 rw [ho, doOp_h rfl]
 have h3 : m.heap.get b = some (.cells (st.map F) el g md none) := ((h2.perm hp.perm).has b _ (by simp)).1
 have hoff : 0 + i * 1 = i := by omega
 have h4 : storeA m b (0 + i * 1) [F x] = some (m.set b (some (.cells ((st.set i x).map F) el g md none))) := by
  unfold storeA
  have hw : (md.writes && Nat.ble (0 + i * 1 + [F x].length) (st.map F).length && flats [F x]) = true := by
   rw [hmd, nble, decide_eq_true (by simp; omega)]
   simp [flats, (hF x).2]
  simp only [h3, hw, kill, cond_true]
  rw [hoff, putCells_set _ _ (by simpa using hi), List.map_set]
 have h5 : Nat.beq (cellsOfV (F x)).length 1 = true := by rw [(hF x).1]; rfl
 simp only [opH, evE_ev h1 ha, evE_ev h1 hx, storeV, hsz, h5, cond_true, (hF x).1, h4, valM]
 rfl
theorem int_plain : ∀ x, cellsOfV (Value.int k x) = [Value.int k x] ∧ flat (Value.int k x) = true := fun _ => ⟨rfl, rfl⟩
end
end Go.Ab
namespace Go.Ab
variable [Vals]
def rowsH {α : Type} (F : α → Value) (el : TypeId) (rs : List (Nat × List α)) : Hp := rs.map fun r => (r.1, .cells (r.2.map F) el false .plain none)
theorem rowsH_mem {F : α → Value} {row : List α} {rs : List (Nat × List α)} {i : Nat} (h : rs[i]? = some (b, row)) : (b, AObj.cells (row.map F) el false .plain none) ∈ rowsH F el rs ++ r :=
 List.mem_append_left _ (List.mem_map.2 ⟨_, List.mem_of_getElem? h, rfl⟩)
section
variable {α : Type} {X : Cx} {ops : Array Oper} {e : Env} {h : Hp} {Q : Out → Prop} {o : Oper} {rest : List Oper} {t : Tmp}
theorem Sees.mem (hb : (b, x) ∈ h) : Sees X h b x := fun _ k => (k.has b x hb).1
theorem Off.into (k : Knows S m m1 h1) (hS : ∀ b, b ∈ S2 → b ∈ h1.map Prod.fst) : ∀ b o, Off S m b o → Off S2 m1 b o := fun b o ⟨e1, e2, e3⟩ => by
 refine ⟨Nat.lt_of_lt_of_le e1 k.next, fun hb => ?_, (k.keep b e1 e2).trans e3⟩
 obtain ⟨⟨c, o'⟩, g1, rfl⟩ := List.mem_map.1 (hS b hb)
 rcases (k.has c o' g1).2.2 with h | h
 ·simp only at e1
  omega
 exact e2 h
theorem Off.known (k : Knows S m0 m (l ++ r)) (hb : (b, x) ∈ r) : Off (l.map Prod.fst) m b x := by
 obtain ⟨h1, h2, _⟩ := k.has b x (List.mem_append_right _ hb)
 have hap := k.apart
 rw [List.map_append, List.nodup_append] at hap
 exact ⟨h2, fun h => hap.2.2 b h b (List.mem_map.2 ⟨_, hb, rfl⟩) rfl, h1⟩
theorem Off.old (k : Knows [] m m2 (l ++ r)) : ∀ b o, Mem m b o → Off (l.map Prod.fst) m2 b o := fun b o ⟨e1, e2⟩ => by
 refine ⟨Nat.lt_of_lt_of_le e1 k.next, fun hb => ?_, (k.keep b e1 (by simp)).trans e2⟩
 obtain ⟨⟨c, o'⟩, g1, rfl⟩ := List.mem_map.1 hb
 rcases (k.has c o' (List.mem_append_left _ g1)).2.2 with h | h
 ·simp only at e1
  omega
 cases h
theorem Re.swap (p : h.Perm h') (q : Re X e h' Q) : Re X e h Q := fun ts m h1 h2 => q ts m h1 (h2.perm p)
theorem Ne.swap (p : h.Perm h') (q : Ne X e h' Q) : Ne X e h Q := fun ts m h1 h2 => q ts m h1 (h2.perm p)
theorem Ce.swap (p : h.Perm h') (q : Ce X e h' c Q) : Ce X e h c Q := fun ts m h1 h2 => q ts m h1 (h2.perm p)
theorem Ie.swap (p : h.Perm h') (q : Ie X ops e h' ops' Q) : Ie X ops e h ops' Q := fun ts m h1 h2 => q ts m h1 (h2.perm p)
end
end Go.Ab
namespace Go.Ab
variable [Vals]
structure ArgB where
 s : Spot
 t : TypeId
 cs : List Value
def ArgB.o (b : ArgB) : AObj := .cells b.cs b.t true .ro none
def argR (ρ : Ren) (L : List ArgB) : Ren := fun i => if i < laidEnd then ρ i else (L[i - laidEnd]?).map ArgB.s
def argN (L : List ArgB) : Nat → Tr AObj
 | 0 => .lf
 | j + 1 => match L[j]? with
  | some b => (argN L j).set (laidEnd + j) (some b.o)
  | none => argN L j
theorem argN_get {L : List ArgB} {i : Nat} {o : AObj} : ∀ {k : Nat}, (argN L k).get i = some o → ∃ j b, j < k ∧ i = laidEnd + j ∧ L[j]? = some b ∧ o = b.o
 | 0, h => by cases h
 | k + 1, h => by
  unfold argN at h
  cases hk : L[k]? with
  | none =>
   rw [hk] at h
   obtain ⟨j, b, h1, h2⟩ := argN_get h
   exact ⟨j, b, by omega, h2⟩
  | some b =>
   rw [hk] at h
   simp only [Tr.get_set] at h
   split at h
   ·rename_i e
    cases h
    exact ⟨k, b, Nat.lt_succ_self _, e, hk, rfl⟩
   obtain ⟨j, b, h1, h2⟩ := argN_get h
   exact ⟨j, b, by omega, h2⟩
theorem argN_has {L : List ArgB} {j : Nat} {b : ArgB} (h : L[j]? = some b) : ∀ {k : Nat}, j < k → (argN L k).get (laidEnd + j) = some b.o
 | 0, hk => absurd hk (Nat.not_lt_zero _)
 | k + 1, hk => by
  unfold argN
  by_cases e : j = k
  ·subst e
   rw [h]
   simp only [Tr.get_set, if_true]
  have ih := argN_has h (k := k) (by omega)
  cases hk2 : L[k]? with
  | none => exact ih
  | some b' =>
   simp only [Tr.get_set]
   rw [if_neg (by omega)]
   exact ih
def KA (L : List ArgB) : Kn := fun i o => ∃ j b, i = laidEnd + j ∧ L[j]? = some b ∧ o = b.o
theorem pre_get {L L' : List α} (h : L <+: L') {j : Nat} {b : α} (hb : L[j]? = some b) : L'[j]? = some b := by
 obtain ⟨M, rfl⟩ := h
 rw [List.getElem?_append_left (List.getElem?_eq_some_iff.1 hb).1]
 exact hb
theorem KA.mono (h : L <+: L') : ∀ b o, KA L b o → KA L' b o := fun _ _ ⟨j, b, h1, h2, h3⟩ => ⟨j, b, h1, pre_get h h2, h3⟩
theorem argR_le (h : L <+: L') : (argR ρ L).le (argR ρ L') := fun i s hi => by
 unfold argR at hi ⊢
 split
 ·rename_i hlt
  rw [if_pos hlt] at hi
  exact hi
 rename_i hlt
 rw [if_neg hlt] at hi
 cases hL : L[i - laidEnd]? with
 | none => rw [hL] at hi; cases hi
 | some b =>
  rw [hL] at hi
  rw [pre_get h hL]
  exact hi
theorem argR_at (h : L[j]? = some b) : argR ρ L (laidEnd + j) = some b.s := by
 unfold argR
 rw [if_neg (by omega), show laidEnd + j - laidEnd = j by omega, h]
 rfl
def ArgB.Ok (W : World) (ρ : Ren) (b : ArgB) : Prop := ∃ c fr, W.heap[b.s.blk]? = some (.cells c b.t fr) ∧ b.s.off + b.cs.length ≤ c.size ∧ b.s.cap = 0 ∧ ∀ (i : Nat) v, b.cs[i]? = some v → ∃ v', c[b.s.off + i]? = some v' ∧ VRel ρ v v'
theorem ArgB.Ok.mono {b : ArgB} (h : b.Ok W ρ) (hρ : ρ.le ρ') : b.Ok W ρ' := by
 obtain ⟨c, fr, h1, h2, h3, h4⟩ := h
 exact ⟨c, fr, h1, h2, h3, fun i v hi => let ⟨v', a, b⟩ := h4 i v hi; ⟨v', a, b.mono hρ⟩⟩
def ArgOk (W : World) (ρ : Ren) (L : List ArgB) : Prop := ∀ (j : Nat) b, L[j]? = some b → b.Ok W (argR ρ L)
theorem ArgOk.nil : ArgOk W ρ [] := fun j b h => by cases h
theorem ArgOk.push (h : ArgOk W ρ L) (hb : b.Ok W (argR ρ L)) : ArgOk W ρ (L ++ [b]) := fun j x hx => by
 have hle : (argR ρ L).le (argR ρ (L ++ [b])) := argR_le (List.prefix_append _ _)
 by_cases hj : j < L.length
 ·rw [List.getElem?_append_left hj] at hx
  exact (h j x hx).mono hle
 rw [List.getElem?_append_right (by omega)] at hx
 cases e : j - L.length with
 | zero =>
  rw [e] at hx
  cases hx
  exact hb.mono hle
 | succ n =>
  rw [e] at hx
  simp at hx
def argM (L : List ArgB) : AW := ⟨argN L L.length, laidEnd + L.length, 0, []⟩
theorem argM_knows : ∀ b o, KA L b o → Mem (argM L) b o := by
 rintro i o ⟨j, b, rfl, h2, rfl⟩
 have hj := (List.getElem?_eq_some_iff.1 h2).1
 exact ⟨by show laidEnd + j < laidEnd + L.length; omega, argN_has h2 hj⟩
structure ArgBase (P : Program) (W : World) (ρ : Ren) : Prop where
 glob : ∀ g, g < P.globals.size → ∃ c, ρ g = some ⟨g, 0, c⟩
 inb : ∀ b s, ρ b = some s → b < laidEnd ∧ s.blk < W.heap.size
theorem ArgBase.of (h : LiesBy P W l) : ∃ ρ, ArgBase P W ρ := by
 obtain ⟨ρ, h1, h2, _⟩ := h
 exact ⟨ρ, h1, h2⟩
theorem relArgs (hb : ArgBase P W ρ) (hL : ArgOk W ρ L) : Rel P (argR ρ L) (argM L) W := by
 refine ⟨fun i o ho => ?_, fun b1 b2 o1 o2 s1 s2 _ g1 g2 _ _ _ => ?_, fun g hg => ?_, fun i s hi => ?_⟩
 ·obtain ⟨j, b, h1, rfl, h3, rfl⟩ := argN_get ho
  obtain ⟨c, fr, g1, g2, g3, g4⟩ := hL j b h3
  refine ⟨b.s, _, argR_at h3, g1, c, fr, rfl, g2, g4, fun h => (by cases h), fun _ => ?_, trivial⟩
  rw [g3]
  exact ⟨by decide, by omega⟩
 ·obtain ⟨_, _, _, _, _, rfl⟩ := argN_get g1
  obtain ⟨_, _, _, _, _, rfl⟩ := argN_get g2
  exact .inr ⟨rfl, rfl⟩
 ·obtain ⟨c, hc⟩ := hb.glob g hg
  refine ⟨c, ?_⟩
  unfold argR
  rw [if_pos (hb.inb g _ hc).1]
  exact hc
 unfold argR at hi
 split at hi
 ·exact (hb.inb i s hi).2
 cases hL2 : L[i - laidEnd]? with
 | none => rw [hL2] at hi; cases hi
 | some b =>
  rw [hL2] at hi
  cases hi
  obtain ⟨c, fr, g1, _⟩ := hL _ b hL2
  exact (Array.getElem?_eq_some_iff.1 g1).1
theorem calls_args [FactsOk P] (hP : PlainNames P) (hmx : P.follows .mixedOrders = true) (hb : ArgBase P W ρ) (hL : ArgOk W ρ L) (ha : VsRel (argR ρ L) args args') (h : Fc P f args (argM L) fun v _ => v = .bool b) (hf : P.funcs[f]? = some fn) (hbd : fn.body.isSome = true) :
  Calls P f ⟨args'⟩ W fun e W' => e = .returned (.bool b) ∧ Still W W' := by
 obtain ⟨k, v, m', h1, rfl⟩ := h
 refine (calls_of_irun hP hmx h1 rfl hf hbd (relArgs hb hL) (fun i hi _ => ?_) ha).mono fun e W' ⟨v', ρ', q1, q2, _, q4⟩ => ?_
 ·have hi' : laidEnd + L.length ≤ i := hi
  unfold argR
  rw [if_neg (by omega), List.getElem?_eq_none (by omega)]
  rfl
 cases q2
 refine ⟨q1, q4.rest, q4.size, fun B hB => q4.keep B hB ?_⟩
 rintro ⟨c, o, s, g1, g2, _⟩
 obtain ⟨_, _, _, _, _, rfl⟩ := argN_get g1
 cases g2
theorem VsRel.len {ρ : Ren} : ∀ {a a' : List Value}, VsRel ρ a a' → a.length = a'.length
 | _, _, .nil => rfl
 | _, _, .cons _ hs => by simp [hs.len]
theorem VsRel.at2 {ρ : Ren} : ∀ {a a' : List Value} {i : Nat} {v : Value}, VsRel ρ a a' → a[i]? = some v → ∃ v', a'[i]? = some v' ∧ VRel ρ v v'
 | _, _, _, _, .nil, h => by cases h
 | _, _, 0, _, .cons h hs, e => by
  simp only [List.getElem?_cons_zero, Option.some.injEq] at e
  subst e
  exact ⟨_, rfl, h⟩
 | _, _, i + 1, _, .cons h hs, e => by
  simp only [List.getElem?_cons_succ] at e ⊢
  exact hs.at2 e
section
variable {H : Type} {enc : TypeId × Value → H} {P : Program} {W : World} {ρ : Ren} {held : Bool}
def Enters {α : Type} (enc : TypeId × Value → H) (P : Program) (W : World) (ρ : Ren) (held : Bool) (e : TypeId) (R : Kn → α → List Value → Prop) : Prop :=
 ∀ (fuel : Nat) (cs' : List Value) (x : DataW H × List MemPlace) (L : List ArgB), DataW.trod enc P W 0 (fun _ => true) held fuel e cs' = some x → ArgOk W ρ L → ∃ (L' : List ArgB) (a : α) (cs : List Value), L <+: L' ∧ ArgOk W ρ L' ∧ R (KA L') a cs ∧ VsRel (argR ρ L') cs cs'
theorem enters_int (he : P.underlying e = some (.int k)) : Enters enc P W ρ held e (fun _ (n : Int) cs => cs = [.int k n]) := fun fuel cs' x L h hL => by
 obtain ⟨n, rfl, _, _⟩ := DataW.trod_int he h
 exact ⟨L, n, _, List.prefix_refl _, hL, rfl, .cons (.int _ _) .nil⟩
theorem enters_string (he : P.underlying e = some .string) : Enters enc P W ρ held e (fun _ (s : ByteArray) cs => cs = [.string s]) := fun fuel cs' x L h hL => by
 obtain ⟨s, rfl, _, _⟩ := DataW.trod_string he h
 exact ⟨L, s, _, List.prefix_refl _, hL, rfl, .cons (.string _) .nil⟩
theorem add_plain0 (b off i : Nat) : (⟨b, off, none⟩ : Addr).add i = ⟨b, off + i, none⟩ := by
 unfold Addr.add
 split <;> simp_all
theorem add_add (a : Addr) (n k : Nat) : (a.add n).add k = a.add (n + k) := by
 unfold Addr.add
 by_cases h1 : n = 0
 ·subst h1
  simp
 by_cases h2 : k = 0
 ·subst h2
  simp
 rw [if_neg h1, if_neg h2, if_neg (by omega)]
 simp [Nat.add_assoc]
theorem enters_elems {α : Type} {e : TypeId} {R : Kn → α → List Value → Prop} (hR : Enters enc P W ρ held e R) (hm : ∀ K K' : Kn, (∀ b o, K b o → K' b o) → ∀ a cs, R K a cs → R K' a cs) {ad : Addr} {sz fuel : Nat} : ∀ (n : Nat), (∀ i, i < n → ∃ cs' x, W.cells? 0 (ad.add (i * sz)) sz = some cs' ∧ DataW.trod enc P W 0 (fun _ => true) held fuel e cs' = some x) → ∀ L, ArgOk W ρ L →
  ∃ (L' : List ArgB) (l : List α) (cs : List Value), L <+: L' ∧ ArgOk W ρ L' ∧ l.length = n ∧ Flat sz (R (KA L')) l cs ∧ ∀ (i : Nat) v, cs[i]? = some v → ∃ v', W.cell? (ad.add i) = some v' ∧ VRel (argR ρ L') v v'
 | 0, _, L, hL => ⟨L, [], [], List.prefix_refl _, hL, rfl, Flat.nil, fun i v h => by cases h⟩
 | n + 1, h, L, hL => by
  obtain ⟨L1, l, cs, p1, ok1, hl, hF, hC⟩ := enters_elems hR hm n (fun i hi => h i (by omega)) L hL
  obtain ⟨cs', x, hc, ht⟩ := h n (Nat.lt_succ_self _)
  obtain ⟨L2, a, cs2, p2, ok2, hR2, hv⟩ := hR fuel cs' x L1 ht ok1
  obtain ⟨_, hlen, hcell⟩ := World.cells?_some hc
  have hF2 : Flat sz (R (KA L2)) l cs := ⟨hF.1, fun i y hy => hm _ _ (KA.mono p2) _ _ (hF.2 i y hy)⟩
  have hlc := hv.len
  refine ⟨L2, l ++ [a], cs ++ cs2, p1.trans p2, ok2, by rw [List.length_append, hl]; rfl, hF2.append (Flat.one hR2 (by omega)), fun i v hi => ?_⟩
  by_cases hlt : i < cs.length
  ·rw [List.getElem?_append_left hlt] at hi
   obtain ⟨v', e1, e2⟩ := hC i v hi
   exact ⟨v', e1, e2.mono (argR_le p2)⟩
  rw [List.getElem?_append_right (by omega)] at hi
  obtain ⟨v', e1, e2⟩ := hv.at2 hi
  refine ⟨v', ?_, e2⟩
  have hlt2 : i - cs.length < sz := by
   have := (List.getElem?_eq_some_iff.1 hi).1
   omega
  rw [← e1, ← hcell _ hlt2]
  have : cs.length = n * sz := by rw [hF.1, hl]
  have e3 : ad.add i = (ad.add (n * sz)).add (i - cs.length) := by
   rw [add_add]
   congr 1
   omega
  rw [e3]
theorem enters_slice {R : Kn → α → List Value → Prop} (hu : P.underlying t = some (.slice e)) (hsz : P.cellsOf e = sz) (h0 : 0 < sz) (hR : Enters enc P W ρ held e R) (hm : ∀ K K' : Kn, (∀ b o, K b o → K' b o) → ∀ a cs, R K a cs → R K' a cs) : Enters enc P W ρ held t (fun K (l : List α) cs => ∃ v, cs = [v] ∧ Sl K sz (R K) l v) := fun fuel cs' x L h hL => by
 subst hsz
 rcases DataW.trod_slice hu h with ⟨rfl, -⟩ | ⟨ad, len, cap, elems, rest, n, rfl, rfl, -, -, hlc, hcm, hel, hE, hRst, -⟩
 ·exact ⟨L, [], _, List.prefix_refl _, hL, ⟨.slice none 0 0, rfl, none, 0, rfl, ⟨Nat.zero_le _, Nat.zero_le _⟩, .inl ⟨rfl, .inl rfl⟩⟩, .cons (.sliceNil (by decide)) .nil⟩
 have hcm' : cap < big := by
  have : maxLen < big := by decide
  omega
 by_cases hc0 : cap = 0
 ·subst hc0
  have : len = 0 := by omega
  subst this
  exact ⟨L, [], _, List.prefix_refl _, hL, ⟨.slice (some ⟨0, 0, none⟩) 0 0, rfl, some ⟨0, 0, none⟩, 0, rfl, ⟨Nat.zero_le _, Nat.zero_le _⟩, .inl ⟨rfl, .inr ⟨0, 0, rfl⟩⟩⟩, .cons .empty .nil⟩
 obtain ⟨L1, l, cs, p1, ok1, hl, hF, hC⟩ := enters_elems hR hm (ad := ad) (sz := P.cellsOf e) (fuel := n) len (fun i hi => by
  have h1 := hE i hi
  have hi2 : i < elems.length := by omega
  rw [List.getElem?_eq_getElem hi2, Option.bind_eq_some_iff] at h1
  obtain ⟨cs', h2, h3⟩ := h1
  exact ⟨cs', _, h2, h3⟩) L hL
 -- a cell of the block
 have hcell : ∃ v, W.cell? ad = some v := by
  by_cases hl0 : 0 < len
  ·have h1 := hE 0 hl0
   rw [List.getElem?_eq_getElem (by omega), Option.bind_eq_some_iff] at h1
   obtain ⟨cs', h2, _⟩ := h1
   obtain ⟨_, h3, h4⟩ := World.cells?_some h2
   have h5 := h4 0 h0
   have e5 : (ad.add (0 * P.cellsOf e)).add 0 = ad := by simp [Addr.add]
   rw [e5] at h5
   exact ⟨_, h5.trans (List.getElem?_eq_getElem (by omega))⟩
  have hl0' : len = 0 := by omega
  subst hl0'
  have h1 := (hRst rfl).2 0 (by omega)
  rw [List.getElem?_eq_getElem (by have := (hRst rfl).1; omega), Option.bind_eq_some_iff] at h1
  obtain ⟨cs', h2, _⟩ := h1
  obtain ⟨_, h3, h4⟩ := World.cells?_some h2
  have h5 := h4 0 h0
  have e5 : (ad.add ((0 + 0) * P.cellsOf e)).add 0 = ad := by simp [Addr.add]
  rw [e5] at h5
  exact ⟨_, h5.trans (List.getElem?_eq_getElem (by omega))⟩
 obtain ⟨v0, hv0⟩ := hcell
 have hspot := World.cell?_spot hv0
 obtain ⟨bk, off, sp⟩ := ad
 simp only at hspot
 subst hspot
 obtain ⟨c, bt, fr, hblk⟩ : ∃ c bt fr, W.heap[bk]? = some (.cells c bt fr) := by
  unfold World.cell? at hv0
  split at hv0
  ·rename_i c bt fr hb
   exact ⟨c, bt, fr, hb⟩
  cases hv0
 have hat : ∀ k v, W.cell? ((⟨bk, off, none⟩ : Addr).add k) = some v → c[off + k]? = some v := fun k v hk => by
  rw [add_plain0] at hk
  unfold World.cell? at hk
  simp only [hblk] at hk
  simpa using hk
 have hvc := hat 0 v0 (by simpa [Addr.add] using hv0)
 have hsz1 : off < c.size := by
  have := (Array.getElem?_eq_some_iff.1 hvc).1
  omega
 let nb : ArgB := ⟨⟨bk, off, 0⟩, bt, cs⟩
 have hnb : nb.Ok W (argR ρ L1) := by
  refine ⟨c, fr, hblk, ?_, rfl, fun i v hi => ?_⟩
  ·show off + cs.length ≤ c.size
   by_cases hcs : cs.length = 0
   ·omega
   have hi : cs.length - 1 < cs.length := by omega
   obtain ⟨v', e1, _⟩ := hC _ _ (List.getElem?_eq_getElem hi)
   have := (Array.getElem?_eq_some_iff.1 (hat _ _ e1)).1
   omega
  obtain ⟨v', e1, e2⟩ := hC i v hi
  exact ⟨v', hat i v' e1, e2⟩
 have hp2 : L1 <+: L1 ++ [nb] := List.prefix_append _ _
 have hlast : (L1 ++ [nb])[L1.length]? = some nb := by simp
 refine ⟨L1 ++ [nb], l, _, p1.trans hp2, ok1.push hnb, ⟨.slice (some ⟨laidEnd + L1.length, 0, none⟩) len cap, rfl, some ⟨laidEnd + L1.length, 0, none⟩, cap, by rw [hl], ⟨by rw [hl]; have : big = 9223372036854775808 := rfl; omega, by rw [hl]; exact hlc⟩, .inr ⟨laidEnd + L1.length, 0, cs, bt, true, .ro, none, rfl, ⟨L1.length, nb, rfl, hlast, rfl⟩, by rw [hF.1]; omega, fun i y hy => ?_⟩⟩, .cons (.slice (argR_at hlast) hcm') .nil⟩
 rw [Nat.zero_add]
 exact hm _ _ (KA.mono hp2) _ _ (hF.2 i y hy)
def EntersL {α : Type} (enc : TypeId × Value → H) (P : Program) (W : World) (ρ : Ren) (held : Bool) (ts : List TypeId) (R : Kn → α → List Value → Prop) : Prop :=
 ∀ (cs' : List Value) (L : List ArgB), (∀ (i : Nat) t, ts[i]? = some t → ∃ (fuel : Nat) (y : DataW H × List MemPlace), DataW.trod enc P W 0 (fun _ => true) held fuel t ((cs'.drop i).take 1) = some y) → cs'.length = ts.length → ArgOk W ρ L → ∃ (L' : List ArgB) (a : α) (cs : List Value), L <+: L' ∧ ArgOk W ρ L' ∧ R (KA L') a cs ∧ VsRel (argR ρ L') cs cs'
theorem EntersL.nil : EntersL enc P W ρ held [] (fun _ (_ : Unit) cs => cs = []) := fun cs' L _ hl hL => by
 cases cs' with
 | nil => exact ⟨L, (), [], List.prefix_refl _, hL, rfl, .nil⟩
 | cons c r => simp at hl
theorem EntersL.cons {R1 : Kn → α → List Value → Prop} {R2 : Kn → β → List Value → Prop} (h1 : Enters enc P W ρ held t R1) (hm : ∀ K K' : Kn, (∀ b o, K b o → K' b o) → ∀ a cs, R1 K a cs → R1 K' a cs) (h2 : EntersL enc P W ρ held ts R2) : EntersL enc P W ρ held (t :: ts) (fun K (p : α × β) cs => ∃ a b, cs = a ++ b ∧ R1 K p.1 a ∧ R2 K p.2 b) := fun cs' L ht hl hL => by
 cases cs' with
 | nil => simp at hl
 | cons c r =>
  obtain ⟨fuel, y, e1⟩ := ht 0 t rfl
  obtain ⟨L1, a, ca, p1, ok1, hR1, hv1⟩ := h1 fuel [c] y L e1 hL
  obtain ⟨L2, b, cb, p2, ok2, hR2, hv2⟩ := h2 r L1 (fun i u hu => ht (i + 1) u hu) (by simpa using hl) ok1
  exact ⟨L2, (a, b), ca ++ cb, p1.trans p2, ok2, ⟨ca, cb, rfl, hm _ _ (KA.mono p2) _ _ hR1, hR2⟩, (hv1.mono (argR_le p2)).append hv2⟩
theorem Enters.map {R : Kn → α → List Value → Prop} {R' : Kn → β → List Value → Prop} (h : Enters enc P W ρ held t R) (g : α → β) (k : ∀ K a cs, R K a cs → R' K (g a) cs) : Enters enc P W ρ held t R' := fun fuel cs' x L e hL => by
 obtain ⟨L', a, cs, h1, h2, h3, h4⟩ := h fuel cs' x L e hL
 exact ⟨L', g a, cs, h1, h2, k _ _ _ h3, h4⟩
theorem enters_struct (hu : P.underlying e = some (.struct fs)) (hc : P.cellsOf e = ts.length) (hf : ∀ (i : Nat) t, ts[i]? = some t → ∃ f : Field, fs[i]? = some f ∧ f.type = t ∧ f.offset = i ∧ P.cellsOf t = 1) (h : EntersL enc P W ρ held ts R) : Enters enc P W ρ held e R := fun fuel cs' x L ht hL => by
 obtain ⟨xs, n, _, _, hlen, hxs, hall⟩ := DataW.trod_struct hu ht
 refine h cs' L (fun i t hi => ?_) (by omega) hL
 obtain ⟨f, h1, rfl, h3, h4⟩ := hf i t hi
 have h5 := hall i f h1
 rw [h3, h4] at h5
 have hlt : i < xs.length := by
  rw [hxs]
  exact (Array.getElem?_eq_some_iff.1 h1).1
 rw [List.getElem?_eq_getElem hlt] at h5
 exact ⟨n, _, h5⟩
def fieldsB (P : Program) (fs : Array Field) : Nat → List TypeId → Bool
  | _, [] => true
  | i, t :: ts => (match fs[i]? with
    | some f => Nat.beq f.type t && (Nat.beq f.offset i && Nat.beq (P.cellsOf t) 1)
    | none => false) && fieldsB P fs (i + 1) ts
def structB (P : Program) (e : TypeId) (ts : List TypeId) : Bool := match P.underlying e with
 | some (.struct fs) => fieldsB P fs 0 ts && Nat.beq (P.cellsOf e) ts.length
 | _ => false
theorem fieldsB_spec {P : Program} {fs : Array Field} : ∀ {ts : List TypeId} {k : Nat}, fieldsB P fs k ts = true → ∀ (i : Nat) t, ts[i]? = some t → ∃ f : Field, fs[k + i]? = some f ∧ f.type = t ∧ f.offset = k + i ∧ P.cellsOf t = 1
 | [], _, _, i, t, h => by simp at h
 | t :: ts, k, hb, i, u, h => by
  unfold fieldsB at hb
  rw [Bool.and_eq_true] at hb
  cases i with
  | zero =>
   simp only [List.getElem?_cons_zero, Option.some.injEq] at h
   subst h
   have h1 := hb.1
   split at h1
   ·rename_i f hf
    simp only [Bool.and_eq_true, nbeq, decide_eq_true_eq] at h1
    exact ⟨f, hf, h1.1, h1.2.1, h1.2.2⟩
   cases h1
  | succ i =>
   simp only [List.getElem?_cons_succ] at h
   have := fieldsB_spec hb.2 i u h
   rwa [show k + 1 + i = k + (i + 1) by omega] at this
theorem enters_fields (hs : structB P e ts = true) (h : EntersL enc P W ρ held ts R) : Enters enc P W ρ held e R := by
 unfold structB at hs
 split at hs
 ·rename_i fs hu
  rw [Bool.and_eq_true, nbeq, decide_eq_true_eq] at hs
  refine enters_struct hu hs.2 (fun i t hi => ?_) h
  have := fieldsB_spec hs.1 i t hi
  rwa [Nat.zero_add] at this
 cases hs
end
end Go.Ab
namespace Go.Ab
variable [Vals]
theorem sliceA_to {sz b off n cap kk : Nat} (hu : P.underlying ty = some (.slice el)) (hz : sizeT P el = some sz) (hk : kk ≤ n) (hc : n ≤ cap) : sliceA P ty (.slice (some ⟨b, off, none⟩) n cap) none (some (.int k (Int.ofNat kk))) none = some (.slice (some ⟨b, off, none⟩) kk cap) := by
 unfold sliceA
 simp only [hu, hz]
 have hb : ∀ y, kk ≤ y → boundA (some (.int k (Int.ofNat kk))) 0 y = some kk := fun y hy => by
  unfold boundA
  simp only [asInt?]
  rw [nble, decide_eq_true hy]
  rfl
 have hb2 : ∀ d y, kk ≤ y → boundA (some (.int k (Int.ofNat kk))) d y = some kk := fun d y hy => by
  unfold boundA
  simp only [asInt?]
  rw [nble, decide_eq_true hy]
  rfl
 have h0 : ∀ y, boundA none 0 y = some 0 := fun y => rfl
 cases hcb : Nat.blt cap big with
 | true =>
  simp only [cond_true]
  unfold sliceExact
  rw [show boundA none cap cap = some cap from rfl]
  simp only [Option.bind_some]
  rw [hb2 n cap (by omega)]
  simp only [Option.bind_some]
  rw [h0]
  simp only [Option.bind_some]
  unfold sliceOut
  simp only [Nat.zero_mul, Nat.add_zero, Nat.sub_zero]
  cases Nat.beq cap 0 <;> rfl
 | false =>
  simp only [cond_false]
  rw [hb2 n n hk]
  simp only [Option.bind_some]
  rw [h0]
  simp only [Option.bind_some, Nat.zero_mul, Nat.add_zero, Nat.sub_zero]
theorem Sl.take (h : Sl K sz R l (.slice a n cap)) (hk : kk ≤ l.length) : Sl K sz R (l.take kk) (.slice a kk cap) := by
 obtain ⟨a', cap', e, hn, hl⟩ := h
 cases e
 have hlen : (l.take kk).length = kk := by rw [List.length_take]; omega
 refine ⟨a, cap, by rw [hlen], by rw [hlen]; omega, ?_⟩
 rcases hl with ⟨rfl, ha⟩ | ⟨b, off, cs, el, g, md, mate, rfl, hb, hle, hc⟩
 ·exact .inl ⟨by simp, ha⟩
 refine .inr ⟨b, off, cs, el, g, md, mate, rfl, hb, ?_, fun i x hx => hc i x ?_⟩
 ·rw [hlen]
  have := Nat.mul_le_mul_right sz hk
  omega
 rw [List.getElem?_take] at hx
 split at hx
 ·exact hx
 cases hx
section
variable {α : Type} {X : Cx} {ops : Array Oper} {base : Nat} {rI : List Nat} {cl : Bool} {mk : List (Nat × Nat)} {e : Env} {h : Hp} {Q : Out → Prop} {o : Oper} {i : Info} {rest : List Oper} {drest : List (Oper × Info)} {t : Tmp}
theorem Ie.sliceTo {sz b off n cap kk : Nat} (hk : kk ≤ n) (hc : n ≤ cap) (hd : o.dst = some t) (ht : Nat.blt t X.n = true) (hg : wantE ops e o = some true) (ho : o.op = .slice ty x none (some y) none) (hu : X.P.underlying ty = some (.slice el)) (hz : sizeT X.P el = some sz) (hx : evE X.P e x = some (.slice (some ⟨b, off, none⟩) n cap)) (hy : evE X.P e y = some (.int k (Int.ofNat kk))) (q : Ie X ops ((t, .slice (some ⟨b, off, none⟩) kk cap) :: e) h rest Q) : Ie X ops e h (o :: rest) Q :=
 Ie.p hd ht hg (by rw [ho]; simp only [opE, hx, evoE, hy, Option.map_some]; exact sliceA_to hu hz hk hc) q
theorem De.sliceTo {sz b off n cap kk : Nat} (hk : kk ≤ n) (hc : n ≤ cap) (hi : i.cls = .p) (hd : o.dst = some t) (ht : Nat.blt t X.n = true) (hg : wantE ops e o = some true) (ho : o.op = .slice ty x none (some y) none) (hu : X.P.underlying ty = some (.slice el)) (hz : sizeT X.P el = some sz) (hx : evE X.P e x = some (.slice (some ⟨b, off, none⟩) n cap)) (hy : evE X.P e y = some (.int k (Int.ofNat kk))) (q : De X ops base rI cl mk ((t, .slice (some ⟨b, off, none⟩) kk cap) :: e) h drest Q) : De X ops base rI cl mk e h ((o, i) :: drest) Q :=
 De.p hi hd ht hg (by rw [ho]; simp only [opE, hx, evoE, hy, Option.map_some]; exact sliceA_to hu hz hk hc) q
def DeW (X : Cx) (ops : Array Oper) (base : Nat) (rI : List Nat) (W : List Nat) (as : List (Nat × Nat)) (e : Env) (h : Hp) (l : List (Oper × Info)) (Q : Out → Prop) : Prop :=
 ∀ ts m rs ws, Has X.n ts e → Knows X.S X.m0 m h → X.m0.next ≤ base ∧ base ≤ m.next → (∀ p ∈ rs, p.1 ∈ rI) → (∀ p ∈ ws, ∀ b ∈ p.2, b ∈ W) → Do X.P X.n ops base X.m0.lo l rs ws as ts m Q
theorem DeW.of (q : De X ops base rI false as e h l Q) : DeW X ops base rI W as e h l Q := fun ts m rs ws h1 h2 h3 h4 _ => q ts m rs ws h1 h2 h3 h4 (fun hf => by cases hf)
theorem DeW.p (hi : i.cls = .p) (hd : o.dst = some t) (ht : Nat.blt t X.n = true) (hg : wantE ops e o = some true) (hv : opE X.P e o.op = some v) (q : DeW X ops base rI W mk ((t, v) :: e) h drest Q) : DeW X ops base rI W mk e h ((o, i) :: drest) Q := fun ts m rs ws h1 h2 h3 h4 h5 => by
 obtain ⟨k, out, g1, g2⟩ := q _ m rs ws (h1.put ht v) h2 h3 h4 h5
 obtain ⟨c1, _, c2⟩ := opE_spec h1 hv
 refine ⟨k, out, ?_, g2⟩
 unfold dops
 rw [wantE_spec h1 hg]
 simp only [cond_true, hi, doOp_p c1, doP, c2, hd]
 exact g1
theorem DeW.fieldAddr {j b off k : Nat} (hi : i.cls = .p) (hd : o.dst = some t) (ht : Nat.blt t X.n = true) (hg : wantE ops e o = some true) (ho : o.op = .fieldAddr s x j) (hx : evE X.P e x = some (.pointer (some ⟨b, off, none⟩))) (hf : ∀ b off, fieldAddrA X.P s (.pointer (some ⟨b, off, none⟩)) j = some (.pointer (some ⟨b, off + k, none⟩))) (q : DeW X ops base rI W mk ((t, .pointer (some ⟨b, off + k, none⟩)) :: e) h drest Q) : DeW X ops base rI W mk e h ((o, i) :: drest) Q :=
 DeW.p hi hd ht hg (by rw [ho]; simp only [opE, hx, hf]) q
theorem DeW.indexAddr {b off len cap sz j : Nat} (hi : i.cls = .p) (hd : o.dst = some t) (ht : Nat.blt t X.n = true) (hg : wantE ops e o = some true) (ho : o.op = .indexAddr ty x y) (hu : X.P.underlying ty = some (.slice el)) (hs : sizeT X.P el = some sz) (hx : evE X.P e x = some (.slice (some ⟨b, off, none⟩) len cap)) (hy : evE X.P e y = some (.int k (Int.ofNat j))) (hj : j < len) (q : DeW X ops base rI W mk ((t, .pointer (some ⟨b, off + j * sz, none⟩)) :: e) h drest Q) : DeW X ops base rI W mk e h ((o, i) :: drest) Q :=
 DeW.p hi hd ht hg (by
  rw [ho]
  simp only [opE, hx, hy]
  unfold indexAddrA
  simp only [asInt?, hu, hs]
  rw [nblt, decide_eq_true hj]
  rfl) q
theorem readOk_notIn {W : List Nat} (pre b : Nat) (hb : b ∉ W) : ∀ (ws : List (Nat × List Nat)), (∀ p ∈ ws, ∀ c ∈ p.2, c ∈ W) → readOk pre b ws = true
 | [], _ => rfl
 | (h, w) :: ws, hw => by
  have hn : notIn b w = true := by
   have h1 : ∀ c ∈ w, c ≠ b := fun c hc e => hb (e ▸ hw (h, w) List.mem_cons_self c hc)
   clear hw
   induction w with
   | nil => rfl
   | cons c w ih =>
    unfold notIn
    have h2 : Nat.beq b c = false := by rw [nbeq, decide_eq_false_iff_not]; exact fun e => h1 c List.mem_cons_self e.symm
    have h3 : Nat.beq c b = false := by rw [nbeq, decide_eq_false_iff_not]; exact h1 c List.mem_cons_self
    have h4 := ih fun c' hc => h1 c' (List.mem_cons_of_mem _ hc)
    simp [h2, h3, h4]
  unfold readOk
  rw [hn, Bool.or_true]
  exact readOk_notIn pre b hb ws fun p hp => hw p (List.mem_cons_of_mem _ hp)
theorem DeW.load {b off : Nat} (hi : i.cls = .l) (hd : o.dst = some t) (ht : Nat.blt t X.n = true) (hg : wantE ops e o = some true) (ho : o.op = .load ty a) (ha : evE X.P e a = some (.pointer (some ⟨b, off, none⟩))) (hty : aggT X.P ty = some false) (hs : Sees X h b (.cells cs el g md mate)) (hc : cs[off]? = some v) (hb : b < base) (hW : ∀ c, c ∈ W → ∃ oc, (c, oc) ∈ h ∧ oc ≠ .cells cs el g md mate) (q : DeW X ops base (i.i :: rI) W mk ((t, v) :: e) h drest Q) : DeW X ops base rI W mk e h ((o, i) :: drest) Q := fun ts m rs ws h1 h2 h3 h4 h5 => by
 have hbW : b ∉ W := fun h => by
  obtain ⟨oc, e1, e2⟩ := hW b h
  have := (h2.has b oc e1).1
  rw [hs m h2] at this
  exact e2 (Option.some.inj this).symm
 have hv : opL X.P ts o.op = some (.rd b fun o => match o with | .cells cs _ _ _ _ => cs[off]? | _ => none) := by
  rw [ho]
  simp only [opL, evE_ev h1 ha, Option.bind_some]
  exact loadA_false hty
 have hr : (m.heap.get b).bind (fun o => match o with | .cells cs _ _ _ _ => cs[off]? | _ => none) = some v := by rw [hs m h2]; exact hc
 cases hfull : (i.full && seenB i.pre b mk) with
 | true =>
  obtain ⟨k, out, g1, g2⟩ := q _ m rs ws (h1.put ht v) h2 h3 (fun p hp => List.mem_cons_of_mem _ (h4 p hp)) h5
  refine ⟨k, out, ?_, g2⟩
  unfold dops
  rw [wantE_spec h1 hg]
  simp only [cond_true, hi, hv, hd, hr, hfull]
  exact g1
 | false =>
  obtain ⟨k, out, g1, g2⟩ := q _ m ((i.i, b) :: rs) ws (h1.put ht v) h2 h3 (fun p hp => by
   rcases List.mem_cons.1 hp with rfl | hp
   ·exact List.mem_cons_self
   exact List.mem_cons_of_mem _ (h4 p hp)) h5
  refine ⟨k, out, ?_, g2⟩
  unfold dops
  rw [wantE_spec h1 hg]
  have : (Nat.blt b base && readOk i.pre b ws) = true := by
   rw [readOk_notIn _ _ hbW _ h5, nblt, decide_eq_true hb]
   rfl
  simp only [cond_true, hi, hv, hd, hr, hfull, cond_false, this]
  exact g1
theorem below_nil {lo : Nat} : ∀ {l : List Nat}, (∀ b ∈ l, lo ≤ b) → below lo l = []
 | [], _ => rfl
 | b :: l, h => by
  unfold below
  have : Nat.blt b lo = false := by rw [nblt, decide_eq_false_iff_not]; have := h b List.mem_cons_self; omega
  rw [this]
  exact below_nil fun c hc => h c (List.mem_cons_of_mem _ hc)
theorem below_mem {lo b : Nat} : ∀ {l : List Nat}, b ∈ below lo l → b ∈ l ∧ b < lo
 | [], h => by cases h
 | c :: l, h => by
  unfold below at h
  cases hc : Nat.blt c lo with
  | true =>
   rw [hc] at h
   rcases List.mem_cons.1 h with rfl | h
   ·rw [nblt, decide_eq_true_eq] at hc
    exact ⟨List.mem_cons_self, hc⟩
   have := below_mem (l := l) h
   exact ⟨List.mem_cons_of_mem _ this.1, this.2⟩
  | false =>
   rw [hc] at h
   have := below_mem (l := l) h
   exact ⟨List.mem_cons_of_mem _ this.1, this.2⟩
theorem De.callc (A : β → Prop) (V : β → Value) (N : β → Hp) (hp : Pick h l r) (hi : i.cls = .h) (hok : i.hok = true) (hin : allIn i.pre (mk.map Prod.fst) = true) (hri : allIn i.pre rI = true) (hd : o.dst = some t) (ht : Nat.blt t X.n = true) (hg : wantE ops e o = some true) (ho : o.op = .call { callee := .value fo, args := ag, argTypes := ats }) (ha : evsE X.P e ag.toList = some vs) (hf : evE X.P e fo = some (.func (.func g) ⟨first⟩ ⟨cap⟩))
  (hc : ∀ m, m.lo ≤ m.next → Knows (l.map Prod.fst) m m l → (∀ b o, Off X.S X.m0 b o → Off (l.map Prod.fst) m b o) → (∀ b o, (b, o) ∈ r → Off (l.map Prod.fst) m b o) → Fc X.P g (first ++ vs ++ cap) m fun v m' => ∃ x, A x ∧ v = V x ∧ Knows (l.map Prod.fst) m m' (N x)) (q : ∀ x, A x → DeW X ops base rI (l.map Prod.fst) mk ((t, V x) :: e) (N x ++ r) drest Q) : De X ops base rI true mk e h ((o, i) :: drest) Q := fun ts m rs ws h1 h2 h3 h4 h5 => by
 have hk := h2.perm hp.perm
 have hap := hk.apart
 rw [List.map_append, List.nodup_append] at hap
 have hnot : ∀ b o, Off X.S X.m0 b o → b ∉ l.map Prod.fst := fun b o ⟨e1, e2, e3⟩ hb => by
  obtain ⟨⟨c, o'⟩, g1, rfl⟩ := List.mem_map.1 hb
  rcases (hk.has c o' (List.mem_append_left _ g1)).2.2 with h | h
  ·simp only at e1; omega
  exact e2 h
 let M : AW := ⟨m.heap, m.next, base, []⟩
 have hself : Knows (l.map Prod.fst) M M l := by
  have := hk.self
  exact ⟨h3.2, Nat.le_refl _, rfl, fun _ h => .inl h, fun _ => rfl, fun _ _ _ => rfl, fun b o hb => ⟨(hk.has b o (List.mem_append_left _ hb)).1, (hk.has b o (List.mem_append_left _ hb)).2.1, .inr (List.mem_map.2 ⟨_, hb, rfl⟩)⟩, hap.1⟩
 obtain ⟨k, v, m', g1, x, hA, rfl, hx⟩ := hc M h3.2 hself (fun b o hb => ⟨Nat.lt_of_lt_of_le hb.1 h2.next, hnot b o hb, (h2.keep b hb.1 hb.2.1).trans hb.2.2⟩) (fun b o hb => ⟨(hk.has b o (List.mem_append_right _ hb)).2.1, fun h => hap.2.2 b h b (List.mem_map.2 ⟨_, hb, rfl⟩) rfl, (hk.has b o (List.mem_append_right _ hb)).1⟩)
 have hlog : ∀ b, b ∈ m'.log → b ∈ l.map Prod.fst := fun b hb => by
  rcases hx.log b hb with h | h
  ·cases h
  exact h.1
 have hM2 : Knows (l.map Prod.fst) m ⟨m'.heap, m'.next, X.m0.lo, below X.m0.lo m'.log ++ m.log⟩ (N x) := by
  refine ⟨h2.lole', hx.next, h2.lo.symm, fun b hb => ?_, fun hs => ?_, hx.keep, fun b o hb => hx.has b o hb, hx.apart⟩
  ·rcases List.mem_append.1 hb with hb | hb
   ·obtain ⟨e1, e2⟩ := below_mem hb
    exact .inr ⟨hlog b e1, by rw [h2.lo]; exact e2⟩
   exact .inl hb
  show below X.m0.lo m'.log ++ m.log = m.log
  have hz : below X.m0.lo m'.log = [] := below_nil fun b hb => (h2.lo ▸ hs b (hlog b hb) : X.m0.lo ≤ b)
  rw [hz]
  rfl
 obtain ⟨j, out, g2, g3⟩ := q x hA _ ⟨m'.heap, m'.next, X.m0.lo, below X.m0.lo m'.log ++ m.log⟩ rs ((i.i, m'.log) :: ws) (h1.put ht (V x)) (hk.step hM2) ⟨h3.1, Nat.le_trans h3.2 hx.next⟩ h4 (fun p hp b hb => by
  rcases List.mem_cons.1 hp with rfl | hp
  ·exact hlog b hb
  rw [h5 rfl p hp] at hb
  cases hb)
 refine ⟨k + j, out, ?_, g3⟩
 unfold dops
 rw [wantE_spec h1 hg]
 have e1 : (i.hok && plainB i.pre m.heap mk) = true := by rw [hok, plainB_all _ _ _ hin]; rfl
 have e2 : doOp X.P (irun X.P (k + j)) ts o.op ⟨hideB i.pre mk m.heap, m.next, base, []⟩ = some (.val (V x) m') := by
  rw [hideB_all _ _ _ hin, ho, doOp_h rfl]
  have g1' : irun X.P k noFr (.fn g (first ++ vs ++ cap)) ⟨m.heap, m.next, base, []⟩ = some ⟨.ret, .lf, V x, m'⟩ := g1
  simp only [opH, callH, evsE_evs h1 ha, evE_ev h1 hf, callV, callA, irun_le (Nat.le_add_right k j) _ _ _ _ g1']
 have e3 : writeOk i.pre m'.log rs = true := writeOk_in _ _ _ hri _ h4
 simp only [cond_true, hi, e1, e2, e3, showB_all _ _ _ _ hin, hd]
 exact dops_le (irun_le (Nat.le_add_left j k)) g2
theorem Upd.app {o o' : AObj} (u : Upd h b o o' h') : Upd (A ++ h) b o o' (A ++ h') := by
 induction A with
 | nil => exact u
 | cons p A ih => exact .tail ih
theorem Ie.drop (hs : h'.Sublist h) (q : Ie X ops e h' ops' Q) : Ie X ops e h ops' Q := fun ts m h1 h2 => q ts m h1 (h2.sub hs)
theorem De.drop (hs : h'.Sublist h) (q : De X ops base rI cl mk e h' l Q) : De X ops base rI cl mk e h l Q := fun ts m rs ws h1 h2 h3 h4 h5 => q ts m rs ws h1 (h2.sub hs) h3 h4 h5
end
end Go.Ab
namespace Go.Ab
variable [Vals]
section
variable {X : Cx} {ops : Array Oper} {e : Env} {h : Hp} {Q : Out → Prop} {o : Oper} {rest : List Oper} {t : Tmp} {v : Value}
theorem Ie.P (q : Ie X ops ((t, v) :: e) h rest Q) (hd : o.dst = some t := by exact rfl) (ht : Nat.blt t X.n = true := by exact rfl) (hg : wantE ops e o = some true := by exact rfl) (hv : opE X.P e o.op = some v := by exact rfl) : Ie X ops e h (o :: rest) Q := Ie.p hd ht hg hv q
theorem Ie.O (q : Ie X ops ((t, undef) :: e) h rest Q) (hd : o.dst = some t := by exact rfl) (ht : Nat.blt t X.n = true := by exact rfl) (hg : wantE ops e o = some false := by exact rfl) : Ie X ops e h (o :: rest) Q := Ie.off hd ht hg q
theorem Ie.F {i b off k : Nat} (hf : ∀ b off, fieldAddrA X.P s (.pointer (some ⟨b, off, none⟩)) i = some (.pointer (some ⟨b, off + k, none⟩))) (q : Ie X ops ((t, .pointer (some ⟨b, off + k, none⟩)) :: e) h rest Q) (hd : o.dst = some t := by exact rfl) (ht : Nat.blt t X.n = true := by exact rfl) (hg : wantE ops e o = some true := by exact rfl) (ho : o.op = .fieldAddr s x i := by exact rfl) (hx : evE X.P e x = some (.pointer (some ⟨b, off, none⟩)) := by exact rfl) : Ie X ops e h (o :: rest) Q := Ie.fieldAddr hd ht hg ho hx hf q
theorem Ie.G (hl : lenA X.P ty y = some (.imm v)) (q : Ie X ops ((t, v) :: e) h rest Q) (hd : o.dst = some t := by exact rfl) (ht : Nat.blt t X.n = true := by exact rfl) (hg : wantE ops e o = some true := by exact rfl) (ho : o.op = .call { callee := .builtin .len, args := #[x], argTypes := #[ty] } := by exact rfl) (hx : evE X.P e x = some y := by exact rfl) : Ie X ops e h (o :: rest) Q := Ie.len hd ht hg ho hx hl q
theorem Ie.L {b off : Nat} (hty : aggT X.P ty = some false) (q : Ie X ops ((t, v) :: e) h rest Q) (hd : o.dst = some t := by exact rfl) (ht : Nat.blt t X.n = true := by exact rfl) (hg : wantE ops e o = some true := by exact rfl) (ho : o.op = .load ty a := by exact rfl) (ha : evE X.P e a = some (.pointer (some ⟨b, off, none⟩)) := by exact rfl) (hs : Sees X h b (.cells cs el g md mate) := by repeat first | exact .head | exact .app .head | exact .base ‹_› ‹_› (by simp) | refine .tail ?_ | refine .app ?_) (hc : cs[off]? = some v := by exact rfl) : Ie X ops e h (o :: rest) Q := Ie.load hd ht hg ho ha hty hs hc q
theorem Ie.M {b off : Nat} (hty : aggT X.P ty = some false) (hs : Sees X h b (.cells cs el g md mate)) (hc : cs[off]? = some v) (q : Ie X ops ((t, v) :: e) h rest Q) (hd : o.dst = some t := by exact rfl) (ht : Nat.blt t X.n = true := by exact rfl) (hg : wantE ops e o = some true := by exact rfl) (ho : o.op = .load ty a := by exact rfl) (ha : evE X.P e a = some (.pointer (some ⟨b, off, none⟩)) := by exact rfl) : Ie X ops e h (o :: rest) Q := Ie.load hd ht hg ho ha hty hs hc q
theorem Ie.K {b off len cap sz j : Nat} (hu : X.P.underlying ty = some (.slice el)) (hs : sizeT X.P el = some sz) (q : Ie X ops ((t, .pointer (some ⟨b, off + j * sz, none⟩)) :: e) h rest Q) (hd : o.dst = some t := by exact rfl) (ht : Nat.blt t X.n = true := by exact rfl) (hg : wantE ops e o = some true := by exact rfl) (ho : o.op = .indexAddr ty x i := by exact rfl) (hx : evE X.P e x = some (.slice (some ⟨b, off, none⟩) len cap) := by exact rfl) (hi : evE X.P e i = some (.int k (Int.ofNat j)) := by exact rfl) (hj : j < len := by omega) : Ie X ops e h (o :: rest) Q := Ie.indexAddr hd ht hg ho hu hs hx hi hj q
theorem Ne.J (hF : F) (he : SubX [] e' e := by repeat (first | exact trivial | refine ⟨rfl, ?_⟩)) (hh : h'.Sublist h := by exact List.Sublist.refl _) : Ne X e h (JnQ X F e' h' Q) := Ne.jnx hF he hh
theorem Ce.B (u : Nat) (hw : w = w') (q : Ce X ((u, .bool w') :: e) h c Q) (hl : look e u = some (.bool w) := by exact rfl) : Ce X e h c Q := Ce.as u (.bool w') hl (congrArg Value.bool hw) q
theorem bbx (h : (a = true) ↔ (b = true)) : a = b := Bool.eq_iff_iff.2 h
end
end Go.Ab
namespace Go.Ab
variable [Vals]
def pairV (k : IntKind) (x : Int × Int) : Value := .agg ⟨[.int k x.1, .int k x.2]⟩
structure PairT (P : Program) (t e : TypeId) (k : IntKind) : Prop where
 arr : P.underlying t = some (.array 2 e)
 num : P.underlying e = some (.int k)
 size : sizeT P e = some 1
 fst : ∀ a b, partA P e [.int k a, .int k b] 0 = some (.int k a)
 snd : ∀ a b, partA P e [.int k a, .int k b] 1 = some (.int k b)
theorem PairT.eqA (h : PairT P t e k) (d : Nat) (a b : Int × Int) : Ab.eqA P (d + 1 + 1) t (pairV k a) (pairV k b) = some (decide (a = b)) := by
 have hi : ∀ m n : Int, Ab.eqA P (d + 1) e (.int k m) (.int k n) = some (decide (m = n)) := fun m n => by
  unfold Ab.eqA
  simp only [h.num, eqBase, eqI_eq, decide_true, cond_true]
 obtain ⟨a1, a2⟩ := a
 obtain ⟨b1, b2⟩ := b
 have e1 : Ab.eqA P (d + 1 + 1) t (pairV k (a1, a2)) (pairV k (b1, b2)) = eqElems P (Ab.eqA P (d + 1)) e 1 [.int k a1, .int k a2] [.int k b1, .int k b2] 2 0 := by
  conv => lhs; unfold Ab.eqA
  simp only [h.arr, pairV, h.size]
 rw [e1]
 unfold eqElems
 simp only [Nat.zero_mul, h.fst, hi]
 by_cases h1 : a1 = b1
 ·subst h1
  simp only [decide_true]
  unfold eqElems
  simp only [Nat.zero_add, Nat.one_mul, h.snd, hi]
  by_cases h2 : a2 = b2
  ·subst h2
   simp only [decide_true]
   unfold eqElems
   rfl
  have h3 : ¬ ((a1, a2) = (a1, b2)) := fun h => h2 (Prod.mk.inj h).2
  simp only [decide_eq_false h2, decide_eq_false h3]
 have h3 : ¬ ((a1, a2) = (b1, b2)) := fun h => h1 (Prod.mk.inj h).1
 simp only [decide_eq_false h1, decide_eq_false h3]
theorem KeyOk.pair (h : PairT P t e k) : KeyOk P t (pairV k) where
 eq := fun a b => h.eqA 9998 a b
 ok := fun a => by
  have h1 : ∀ d n, keyV P (d + 1) e (.int k n) = true := fun d n => by
   unfold keyV
   simp only [h.num]
  have h2 : keyV P (18 + 1 + 1) t (pairV k a) = true := by
   unfold keyV
   simp only [h.arr, pairV, h.size]
   rw [show List.range 2 = [0, 1] from rfl]
   simp only [List.all_cons, List.all_nil, Nat.zero_mul, Nat.one_mul, h.fst, h.snd, h1]
   rfl
  rw [show (20 : Nat) = 18 + 1 + 1 from rfl, h2]
  rfl
 same := fun a => by
  show sameKey (18 + 1 + 1) (pairV k a) (pairV k a) = true
  have h1 : ∀ n, sameKey (18 + 1) (.int k n) (.int k n) = true := fun n => by
   unfold sameKey
   simp [eqI_eq]
  unfold sameKey
  simp only [pairV, sameKeys, h1]
  rfl
section
variable {X : Cx} {ops : Array Oper} {e : Env} {h : Hp} {Q : Out → Prop} {o : Oper} {rest : List Oper} {t : Tmp}
end
section
variable {X : Cx} {ops : Array Oper} {base : Nat} {rI : List Nat} {cl : Bool} {mk : List (Nat × Nat)} {e : Env} {h : Hp} {Q : Out → Prop} {o : Oper} {i : Info} {rest : List (Oper × Info)} {t : Tmp} {v : Value}
theorem De.storeNew {b off n : Nat} (hi : i.cls = .h) (hok : i.hok = true) (hin : allIn i.pre (mk.map Prod.fst) = true) (hnew : base ≤ b) (hd : o.dst = none) (hg : wantE ops e o = some true) (ho : o.op = .store ty a x) (ha : evE X.P e a = some (.pointer (some ⟨b, off, none⟩))) (hx : evE X.P e x = some y) (hsz : sizeT X.P ty = some (n + 1)) (hl : (cellsOfV y).length = n + 1) (hu : Upd h b (.cells cs el g md none) (.cells (putCells cs off (cellsOfV y)) el g md none) h') (hw : (md.writes && Nat.ble (off + (cellsOfV y).length) cs.length && flats (cellsOfV y)) = true) (q : De X ops base rI cl mk e h' rest Q) : De X ops base rI cl mk e h ((o, i) :: rest) Q := fun ts m rs ws h1 h2 h3 h4 h5 => by
 have hn : m.next = (m.set b (some (.cells (putCells cs off (cellsOfV y)) el g md none))).next := rfl
 obtain ⟨k, out, g1, g2⟩ := q ts (m.set b (some (.cells (putCells cs off (cellsOfV y)) el g md none))) rs ((i.i, bif Nat.blt b base then [b] else []) :: ws) h1 (h2.set hu) h3 h4 (fun hc p hp => by
  rcases List.mem_cons.1 hp with rfl | hp
  ·have : Nat.blt b base = false := by
    rw [nblt, decide_eq_false_iff_not]
    omega
   simp only [this, cond_false]
  exact h5 hc p hp)
 refine ⟨k, out, ?_, g2⟩
 have hb : m.heap.get b = some (.cells cs el g md none) := (h2.has _ _ hu.spec.1).1
 have e2 : doOp X.P (irun X.P k) ts o.op ⟨hideB i.pre mk m.heap, m.next, base, []⟩ = some (.val undef (AW.set ⟨m.heap, m.next, base, []⟩ b (some (.cells (putCells cs off (cellsOfV y)) el g md none)))) := by
  rw [hideB_all _ _ _ hin, ho, doOp_h rfl]
  have h4 : storeA ⟨m.heap, m.next, base, []⟩ b off (cellsOfV y) = some (AW.set ⟨m.heap, m.next, base, []⟩ b (some (.cells (putCells cs off (cellsOfV y)) el g md none))) := by
   unfold storeA
   cases hc : cellsOfV y with
   | nil => rw [hc] at hl; simp at hl
   | cons c r =>
    rw [hc] at hw
    simp only [hb, hw, kill, cond_true]
  have h5 : Nat.beq (cellsOfV y).length (n + 1) = true := by rw [nbeq, hl]; simp
  simp only [opH, evE_ev h1 ha, evE_ev h1 hx, storeV, hsz, h5, cond_true, h4, valM]
 have e1 : (i.hok && plainB i.pre m.heap mk) = true := by rw [hok, plainB_all _ _ _ hin]; rfl
 have hlt : Nat.blt b base = false := by
  rw [nblt, decide_eq_false_iff_not]
  omega
 have e3 : writeOk i.pre (AW.set ⟨m.heap, m.next, base, []⟩ b (some (.cells (putCells cs off (cellsOfV y)) el g md none))).log rs = true := by
  have : (AW.set ⟨m.heap, m.next, base, []⟩ b (some (.cells (putCells cs off (cellsOfV y)) el g md none))).log = [] := by
   simp only [AW.set, hlt, cond_false]
  rw [this]
  exact writeOk_nil _ _
 unfold dops
 rw [wantE_spec h1 hg]
 simp only [cond_true, hi, e1, e2, e3, showB_all _ _ _ _ hin, hd]
 have hlog : below X.m0.lo (AW.set ⟨m.heap, m.next, base, []⟩ b (some (.cells (putCells cs off (cellsOfV y)) el g md none))).log ++ m.log = (m.set b (some (.cells (putCells cs off (cellsOfV y)) el g md none))).log := by
  simp only [AW.set, h2.lo]
  cases hbb : Nat.blt b base with
  | true =>
   simp only [cond_true, below]
   cases Nat.blt b X.m0.lo <;> rfl
  | false =>
   simp only [cond_false, below, List.nil_append]
   have : Nat.blt b X.m0.lo = false := by
    rw [nblt, decide_eq_false_iff_not] at hbb ⊢
    have := h2.lole
    have := h3.1
    omega
   rw [this]
   rfl
 rw [hlog]
 have hput : put X.n ts none undef = ts := rfl
 have hheap : (⟨(AW.set ⟨m.heap, m.next, base, []⟩ b (some (.cells (putCells cs off (cellsOfV y)) el g md none))).heap, (AW.set ⟨m.heap, m.next, base, []⟩ b (some (.cells (putCells cs off (cellsOfV y)) el g md none))).next, X.m0.lo, (m.set b (some (.cells (putCells cs off (cellsOfV y)) el g md none))).log⟩ : AW) = m.set b (some (.cells (putCells cs off (cellsOfV y)) el g md none)) := by
  simp only [AW.set, h2.lo]
 rw [hheap, hput]
 exact g1
end
end Go.Ab
namespace Go.Ab
variable [Vals]
theorem Flat.take (h : Flat sz R l vs) (hj : j ≤ l.length) : Flat sz R (l.take j) (vs.take (j * sz)) := by
 obtain ⟨h1, h2⟩ := h
 have hle : j * sz ≤ vs.length := by
  rw [h1]
  exact Nat.mul_le_mul_right _ hj
 refine ⟨by rw [List.length_take, List.length_take, Nat.min_eq_left hle, Nat.min_eq_left hj], fun i x hx => ?_⟩
 rw [List.getElem?_take] at hx
 split at hx
 ·rename_i hlt
  have := h2 i x hx
  have h3 : i * sz + sz ≤ j * sz := by
   have := Nat.mul_le_mul_right sz (show i + 1 ≤ j by omega)
   rw [Nat.add_mul, Nat.one_mul] at this
   exact this
  rw [List.drop_take, List.take_take, Nat.min_eq_left (by omega)]
  exact this
 cases hx
section
variable {α : Type} {X : Cx} {ops : Array Oper} {base : Nat} {rI : List Nat} {cl : Bool} {mk : List (Nat × Nat)} {e : Env} {h : Hp} {Q : Out → Prop} {o : Oper} {i : Info} {rest : List Oper} {drest : List (Oper × Info)} {t : Tmp}
theorem Flat.drop (h : Flat sz R l vs) : ∀ i x, (l.drop j)[i]? = some x → R x ((vs.drop (j * sz + i * sz)).take sz) := fun i x hx => by
 rw [List.getElem?_drop] at hx
 have := h.2 _ x hx
 rwa [Nat.add_mul] at this
end
end Go.Ab
namespace Go.Ab
variable [Vals]
def mkI : Nat → List (Nat × Nat) → List Info
 | _, [] => []
 | n, (c, p) :: l => ⟨n, match c / 4 with | 0 => .l | 1 => .h | 2 => .a | _ => .p, Nat.beq (c / 2 % 2) 1, Nat.beq (c % 2) 1, p⟩ :: mkI (n + 1) l
section
variable {X : Cx} {ops : Array Oper} {base : Nat} {rI : List Nat} {cl : Bool} {mk : List (Nat × Nat)} {e : Env} {h : Hp} {Q : Out → Prop} {o : Oper} {i : Info} {rest : List Oper} {drest : List (Oper × Info)} {t : Tmp} {v : Value}
theorem Ce.D {id : Nat} (l : List (Nat × Nat)) (hi : infos X.P ops.toList = mkI 0 l) (htm : tmpsOk (ops.toList.zip (mkI 0 l)) ops.toList = true) (q : ∀ base, X.m0.next ≤ base → (∀ b o, (b, o) ∈ h → b < base) → De X ops base [] true [] e h (ops.toList.zip (mkI 0 l)) Q) : Ce X e h (.region id ops true) Q := Ce.draw _ hi htm q
theorem Ie.S {b off n : Nat} (hsz : sizeT X.P ty = some (n + 1)) (q : Ie X ops e h' rest Q) (hd : o.dst = none := by exact rfl) (hg : wantE ops e o = some true := by exact rfl) (ho : o.op = .store ty a x := by exact rfl) (ha : evE X.P e a = some (.pointer (some ⟨b, off, none⟩)) := by exact rfl) (hx : evE X.P e x = some y := by exact rfl) (hl : (cellsOfV y).length = n + 1 := by exact rfl) (hu : Upd h b (.cells cs el g md none) (.cells (putCells cs off (cellsOfV y)) el g md none) h' := by first | exact .head | exact .tail .head | exact .tail (.tail .head) | exact .tail (.tail (.tail .head))) (hw : (md.writes && Nat.ble (off + (cellsOfV y).length) cs.length && flats (cellsOfV y)) = true := by exact rfl) : Ie X ops e h (o :: rest) Q := Ie.store hd hg ho ha hx hsz hl hu hw q
theorem Ie.A {b off n : Nat} (hty : aggT X.P ty = some true) (hsz : sizeT X.P ty = some n) (hs : Sees X h b (.cells cs el g md mate)) (hc : (cs.drop off).take n = vs) (q : Ie X ops ((t, .agg ⟨vs⟩) :: e) h rest Q) (hd : o.dst = some t := by exact rfl) (ht : Nat.blt t X.n = true := by exact rfl) (hg : wantE ops e o = some true := by exact rfl) (ho : o.op = .load ty a := by exact rfl) (ha : evE X.P e a = some (.pointer (some ⟨b, off, none⟩)) := by exact rfl) (hl : off + n ≤ cs.length := by omega) : Ie X ops e h (o :: rest) Q := Ie.loadAgg hd ht hg ho ha hty hsz hs hl hc q
theorem De.P (q : De X ops base rI cl mk ((t, v) :: e) h drest Q) (hi : i.cls = .p := by exact rfl) (hd : o.dst = some t := by exact rfl) (ht : Nat.blt t X.n = true := by exact rfl) (hg : wantE ops e o = some true := by exact rfl) (hv : opE X.P e o.op = some v := by exact rfl) : De X ops base rI cl mk e h ((o, i) :: drest) Q := De.p hi hd ht hg hv q
theorem De.O (q : De X ops base rI cl mk ((t, undef) :: e) h drest Q) (hd : o.dst = some t := by exact rfl) (ht : Nat.blt t X.n = true := by exact rfl) (hg : wantE ops e o = some false := by exact rfl) : De X ops base rI cl mk e h ((o, i) :: drest) Q := De.off hd ht hg q
theorem De.F {j b off k : Nat} (hf : ∀ b off, fieldAddrA X.P s (.pointer (some ⟨b, off, none⟩)) j = some (.pointer (some ⟨b, off + k, none⟩))) (q : De X ops base rI cl mk ((t, .pointer (some ⟨b, off + k, none⟩)) :: e) h drest Q) (hi : i.cls = .p := by exact rfl) (hd : o.dst = some t := by exact rfl) (ht : Nat.blt t X.n = true := by exact rfl) (hg : wantE ops e o = some true := by exact rfl) (ho : o.op = .fieldAddr s x j := by exact rfl) (hx : evE X.P e x = some (.pointer (some ⟨b, off, none⟩)) := by exact rfl) : De X ops base rI cl mk e h ((o, i) :: drest) Q := De.fieldAddr hi hd ht hg ho hx hf q
theorem De.K {b off len cap sz j : Nat} (hu : X.P.underlying ty = some (.slice el)) (hs : sizeT X.P el = some sz) (q : De X ops base rI cl mk ((t, .pointer (some ⟨b, off + j * sz, none⟩)) :: e) h drest Q) (hi : i.cls = .p := by exact rfl) (hd : o.dst = some t := by exact rfl) (ht : Nat.blt t X.n = true := by exact rfl) (hg : wantE ops e o = some true := by exact rfl) (ho : o.op = .indexAddr ty x y := by exact rfl) (hx : evE X.P e x = some (.slice (some ⟨b, off, none⟩) len cap) := by exact rfl) (hy : evE X.P e y = some (.int k (Int.ofNat j)) := by exact rfl) (hj : j < len := by omega) : De X ops base rI cl mk e h ((o, i) :: drest) Q := De.indexAddr hi hd ht hg ho hu hs hx hy hj q
theorem De.M {b off : Nat} (hty : aggT X.P ty = some false) (hs : Sees X h b (.cells cs el g md mate)) (hc : cs[off]? = some v) (q : De X ops base rI cl mk ((t, v) :: e) h drest Q) (hi : i.cls = .l := by exact rfl) (hfl : i.full = true := by exact rfl) (hin : allIn i.pre (mk.map Prod.fst) = true := by exact rfl) (hd : o.dst = some t := by exact rfl) (ht : Nat.blt t X.n = true := by exact rfl) (hg : wantE ops e o = some true := by exact rfl) (ho : o.op = .load ty a := by exact rfl) (ha : evE X.P e a = some (.pointer (some ⟨b, off, none⟩)) := by exact rfl) : De X ops base rI cl mk e h ((o, i) :: drest) Q := De.load hi hfl hin hd ht hg ho ha hty hs hc q
theorem De.N {b off : Nat} (hty : aggT X.P ty = some false) (hs : Sees X h b (.cells cs el g md mate)) (hc : cs[off]? = some v) (hb : b < base) (q : De X ops base (i.i :: rI) true mk ((t, v) :: e) h drest Q) (hi : i.cls = .l := by exact rfl) (hd : o.dst = some t := by exact rfl) (ht : Nat.blt t X.n = true := by exact rfl) (hg : wantE ops e o = some true := by exact rfl) (ho : o.op = .load ty a := by exact rfl) (ha : evE X.P e a = some (.pointer (some ⟨b, off, none⟩)) := by exact rfl) : De X ops base rI true mk e h ((o, i) :: drest) Q := De.loadOld hi hd ht hg ho ha hty hs hc hb q
theorem Ie.W (u j : Nat) (q : Ie X ops ((u, .int .i64 (Int.ofNat (j + 1))) :: e) h rest Q) (hj : j + 1 ≤ 9223372036854775807 := by omega) (hl : look e u = some w := by exact rfl) (hw : w = .int .i64 (wr .i64 (Int.ofNat j + 1)) := by exact rfl) : Ie X ops e h rest Q := Ie.as u (.int .i64 (Int.ofNat (j + 1))) hl (hw.trans (congrArg (Value.int .i64) (by
 show (bif Nat.ble (j + 1) 9223372036854775807 then Int.ofNat (j + 1) else _) = _
 rw [nble, decide_eq_true hj]
 rfl))) q
theorem De.J {b off : Nat} (hty : aggT X.P ty = some false) (q : De X ops base rI cl mk ((t, v) :: e) h drest Q) (hi : i.cls = .l := by exact rfl) (hfl : i.full = true := by exact rfl) (hin : allIn i.pre (mk.map Prod.fst) = true := by exact rfl) (hd : o.dst = some t := by exact rfl) (ht : Nat.blt t X.n = true := by exact rfl) (hg : wantE ops e o = some true := by exact rfl) (ho : o.op = .load ty a := by exact rfl) (ha : evE X.P e a = some (.pointer (some ⟨b, off, none⟩)) := by exact rfl) (hs : Sees X h b (.cells cs el g md mate) := by repeat first | exact .head | exact .app .head | exact .base ‹_› ‹_› (by simp) | refine .tail ?_ | refine .app ?_) (hc : cs[off]? = some v := by exact rfl) : De X ops base rI cl mk e h ((o, i) :: drest) Q := De.load hi hfl hin hd ht hg ho ha hty hs hc q
theorem De.R {h0 : Hp} {b off : Nat} (hty : aggT X.P ty = some false) (hB : ∀ b o, (b, o) ∈ h0 → b < base) (q : De X ops base (i.i :: rI) true mk ((t, v) :: e) h drest Q) (hi : i.cls = .l := by exact rfl) (hd : o.dst = some t := by exact rfl) (ht : Nat.blt t X.n = true := by exact rfl) (hg : wantE ops e o = some true := by exact rfl) (ho : o.op = .load ty a := by exact rfl) (ha : evE X.P e a = some (.pointer (some ⟨b, off, none⟩)) := by exact rfl) (hs : Sees X h b (.cells cs el g md mate) := by repeat first | exact .head | exact .app .head | exact .base ‹_› ‹_› (by simp) | refine .tail ?_ | refine .app ?_) (hc : cs[off]? = some v := by exact rfl) (hb : ∃ o, (b, o) ∈ h0 := by first | exact ⟨_, .head _⟩ | exact ⟨_, .tail _ (.head _)⟩ | exact ⟨_, .tail _ (.tail _ (.head _))⟩ | exact ⟨_, .tail _ (.tail _ (.tail _ (.head _)))⟩ | exact ⟨_, List.mem_append_right _ (.head _)⟩ | exact ⟨_, List.mem_append_right _ (.tail _ (.head _))⟩) : De X ops base rI true mk e h ((o, i) :: drest) Q := De.loadOld hi hd ht hg ho ha hty hs hc (hb.elim fun o ho => hB b o ho) q
theorem De.E {b off n : Nat} (hty : aggT X.P ty = some true) (hsz : sizeT X.P ty = some n) (q : De X ops base rI cl mk ((t, .agg ⟨vs⟩) :: e) h drest Q) (hi : i.cls = .l := by exact rfl) (hfl : i.full = true := by exact rfl) (hin : allIn i.pre (mk.map Prod.fst) = true := by exact rfl) (hd : o.dst = some t := by exact rfl) (ht : Nat.blt t X.n = true := by exact rfl) (hg : wantE ops e o = some true := by exact rfl) (ho : o.op = .load ty a := by exact rfl) (ha : evE X.P e a = some (.pointer (some ⟨b, off, none⟩)) := by exact rfl) (hs : Sees X h b (.cells cs el g md mate) := by repeat first | exact .head | exact .app .head | exact .base ‹_› ‹_› (by simp) | refine .tail ?_ | refine .app ?_) (hl : off + n ≤ cs.length := by exact Nat.le_of_ble_eq_true rfl) (hc : (cs.drop off).take n = vs := by exact rfl) : De X ops base rI cl mk e h ((o, i) :: drest) Q := De.loadAgg hi hfl hin hd ht hg ho ha hty hsz hs hl hc q
theorem Ie.E {b off n : Nat} (hty : aggT X.P ty = some true) (hsz : sizeT X.P ty = some n) (q : Ie X ops ((t, .agg ⟨vs⟩) :: e) h rest Q) (hd : o.dst = some t := by exact rfl) (ht : Nat.blt t X.n = true := by exact rfl) (hg : wantE ops e o = some true := by exact rfl) (ho : o.op = .load ty a := by exact rfl) (ha : evE X.P e a = some (.pointer (some ⟨b, off, none⟩)) := by exact rfl) (hs : Sees X h b (.cells cs el g md mate) := by repeat first | exact .head | exact .app .head | exact .base ‹_› ‹_› (by simp) | refine .tail ?_ | refine .app ?_) (hl : off + n ≤ cs.length := by exact Nat.le_of_ble_eq_true rfl) (hc : (cs.drop off).take n = vs := by exact rfl) : Ie X ops e h (o :: rest) Q := Ie.loadAgg hd ht hg ho ha hty hsz hs hl hc q
theorem Ie.P2 (q : Ie X ops ((t2, v2) :: (t1, v1) :: e) h rest Q) (hd1 : o1.dst = some t1 := by exact rfl) (ht1 : Nat.blt t1 X.n = true := by exact rfl) (hg1 : wantE ops e o1 = some true := by exact rfl) (hv1 : opE X.P e o1.op = some v1 := by exact rfl) (hd2 : o2.dst = some t2 := by exact rfl) (ht2 : Nat.blt t2 X.n = true := by exact rfl) (hg2 : wantE ops ((t1, v1) :: e) o2 = some true := by exact rfl) (hv2 : opE X.P ((t1, v1) :: e) o2.op = some v2 := by exact rfl) : Ie X ops e h (o1 :: o2 :: rest) Q := Ie.p hd1 ht1 hg1 hv1 (Ie.p hd2 ht2 hg2 hv2 q)
theorem Ie.P3 (q : Ie X ops ((t3, v3) :: (t2, v2) :: (t1, v1) :: e) h rest Q) (hd1 : o1.dst = some t1 := by exact rfl) (ht1 : Nat.blt t1 X.n = true := by exact rfl) (hg1 : wantE ops e o1 = some true := by exact rfl) (hv1 : opE X.P e o1.op = some v1 := by exact rfl) (hd2 : o2.dst = some t2 := by exact rfl) (ht2 : Nat.blt t2 X.n = true := by exact rfl) (hg2 : wantE ops ((t1, v1) :: e) o2 = some true := by exact rfl) (hv2 : opE X.P ((t1, v1) :: e) o2.op = some v2 := by exact rfl) (hd3 : o3.dst = some t3 := by exact rfl) (ht3 : Nat.blt t3 X.n = true := by exact rfl) (hg3 : wantE ops ((t2, v2) :: (t1, v1) :: e) o3 = some true := by exact rfl) (hv3 : opE X.P ((t2, v2) :: (t1, v1) :: e) o3.op = some v3 := by exact rfl) : Ie X ops e h (o1 :: o2 :: o3 :: rest) Q := Ie.p hd1 ht1 hg1 hv1 (Ie.p hd2 ht2 hg2 hv2 (Ie.p hd3 ht3 hg3 hv3 q))
end
end Go.Ab
namespace Go.Ab
variable [Vals]
section
variable {X : Cx} {ops : Array Oper} {base : Nat} {rI : List Nat} {cl : Bool} {mk : List (Nat × Nat)} {e : Env} {h : Hp} {drest : List (Oper × Info)} {rest : List Oper} {Q : Out → Prop} {o : Oper} {i : Info} {t : Tmp}
theorem De.lookupOk {κ : Type} {x k : Operand} [DecidableEq κ] {K : κ → Value} {l : List (κ × Value)} {kv : κ} (hp : Pick h [(b, .map es c)] r) (hP : PairsK K es l) (hK : KeyOk X.P kt K) (hi : i.cls = .l) (hfl : i.full = true) (hin : allIn i.pre (mk.map Prod.fst) = true) (hd : o.dst = some t) (ht : Nat.blt t X.n = true) (hg : wantE ops e o = some true) (ho : o.op = .lookup ty x k true) (hu : X.P.underlying ty = some (.map kt et)) (hz : zeroT X.P et = some z) (hx : evE X.P e x = some (.map (some b))) (hk : evE X.P e k = some (K kv)) (hv : (match getP kv l with | some v => Value.tuple #[v, .bool true] | none => .tuple #[z, .bool false]) = v) (q : De X ops base rI cl mk ((t, v) :: e) h drest Q) : De X ops base rI cl mk e h ((o, i) :: drest) Q := by
  have hf := findA_pairs hK kv es l 0 hP
  have hgt := findP_get kv l 0
  refine De.rdFull (b := b) (ob := .map es c) (f := fun o => match o with
    | .map es _ => match findA X.P kt (K kv) es 0 with
      | some (some (_, v)) => some (if true = true then .tuple #[v, .bool true] else v)
      | some none => (zeroT X.P et).map fun z => if true = true then .tuple #[z, .bool false] else z
      | none => none
    | _ => none) hi hfl hin hd ht hg (fun ts H => ?_) (fun m hm => ((hm.perm hp.perm).has b (.map es c) (by simp)).1) ?_ q
  · rw [ho]
    show lookup1 X.P ts ty x k true = _
    unfold lookup1
    rw [evE_ev H hx, evE_ev H hk]
    show lookupA X.P ty (.map (some b)) (K kv) true = _
    unfold lookupA
    simp only [hu, hK.ok, cond_true]
    rfl
  · simp only [hf]
    cases hff : findP kv l 0 with
    | none =>
      rw [hff] at hgt
      rw [← hgt] at hv
      simp only [hz, Option.map_some, if_true]
      rw [← hv]
      rfl
    | some y =>
      obtain ⟨j, w⟩ := y
      rw [hff] at hgt
      rw [← hgt] at hv
      simp only [if_true]
      rw [← hv]
      rfl
theorem De.mapUpdate {κ : Type} [DecidableEq κ] {K : κ → Value} {l : List (κ × Value)} {kv : κ} {x k y : Operand} (hp : Pick h [(b, .map es c)] r) (hP : PairsK K es l) (hK : KeyOk X.P kt K) (hi : i.cls = .h) (hok : i.hok = true) (hin : allIn i.pre (mk.map Prod.fst) = true) (hri : allIn i.pre rI = true) (hd : o.dst = none) (hg : wantE ops e o = some true) (ho : o.op = .mapUpdate ty x k y) (hu : X.P.underlying ty = some (.map kt et)) (hx : evE X.P e x = some (.map (some b))) (hk : evE X.P e k = some (K kv)) (hy : evE X.P e y = some v) (q : ∀ es' c', PairsK K es' (putP kv v l) → De X ops base rI false mk e ((b, .map es' c') :: r) drest Q) : De X ops base rI cl mk e h ((o, i) :: drest) Q := fun ts m rs ws h1 h2 h3 h4 h5 => by
 obtain ⟨es', c', f1, f2⟩ := hP.put hK kv v c
 have hset := (h2.perm hp.perm).set (.head (o' := .map es' c'))
 obtain ⟨n, out, g1, g2⟩ := q es' c' f2 ts (m.set b (some (.map es' c'))) rs ((i.i, bif Nat.blt b base then [b] else []) :: ws) h1 hset h3 h4 (fun hf => by cases hf)
 refine ⟨n, out, ?_, g2⟩
 have hb : m.heap.get b = some (.map es c) := ((h2.perm hp.perm).has b (.map es c) (by simp)).1
 have e2 : doOp X.P (irun X.P n) ts o.op ⟨hideB i.pre mk m.heap, m.next, base, []⟩ = some (.val undef (AW.set ⟨m.heap, m.next, base, []⟩ b (some (.map es' c')))) := by
  rw [hideB_all _ _ _ hin, ho, doOp_h rfl]
  have : evs X.P ts [x, k, y] = some [.map (some b), K kv, v] := by
   unfold evs evs evs evs
   rw [evE_ev h1 hx, evE_ev h1 hk, evE_ev h1 hy]
   rfl
  show (match evs X.P ts [x, k, y] with | some [mp, k, x] => mapSet X.P ty mp k x _ | _ => none) = _
  rw [this]
  show mapSet X.P ty (.map (some b)) (K kv) v _ = _
  unfold mapSet
  simp only [hu, hK.ok, cond_true, hb, f1]
 have e1 : (i.hok && plainB i.pre m.heap mk) = true := by rw [hok, plainB_all _ _ _ hin]; rfl
 have e3 : ∀ w, writeOk i.pre w rs = true := fun w => writeOk_in _ _ _ hri _ h4
 unfold dops
 rw [wantE_spec h1 hg]
 simp only [cond_true, hi, e1, e2, e3, showB_all _ _ _ _ hin, hd]
 have hlog : below X.m0.lo (AW.set ⟨m.heap, m.next, base, []⟩ b (some (.map es' c'))).log ++ m.log = (m.set b (some (.map es' c'))).log := by
  simp only [AW.set, h2.lo]
  cases hbb : Nat.blt b base with
  | true =>
   simp only [cond_true, below]
   cases Nat.blt b X.m0.lo <;> rfl
  | false =>
   simp only [cond_false, below, List.nil_append]
   have : Nat.blt b X.m0.lo = false := by
    rw [nblt, decide_eq_false_iff_not] at hbb ⊢
    have := h2.lole
    have := h3.1
    omega
   rw [this]
   rfl
 rw [hlog]
 have hput : put X.n ts none undef = ts := rfl
 have hheap : (⟨(AW.set ⟨m.heap, m.next, base, []⟩ b (some (.map es' c'))).heap, (AW.set ⟨m.heap, m.next, base, []⟩ b (some (.map es' c'))).next, X.m0.lo, (m.set b (some (.map es' c'))).log⟩ : AW) = m.set b (some (.map es' c')) := by
  simp only [AW.set, h2.lo]
 rw [hheap, hput]
 exact g1
theorem Gro.at_ {g : Gro} {n : Nat} (h : g.Ok n) (hn : 0 < n) : ∃ b, g.V n = .slice (some ⟨b, 0, none⟩) n top ∧ (g = .one b ∨ ∃ b0 old, g = .two b b0 old) := by
 cases g with
 | no => exact absurd h (by simp only [Gro.Ok]; omega)
 | emp b => exact absurd h (by simp only [Gro.Ok]; omega)
 | one b => exact ⟨b, rfl, .inl rfl⟩
 | two b b0 old => exact ⟨b, rfl, .inr ⟨b0, old, rfl⟩⟩
theorem Ie.storeGro {v : Value} {g : Gro} {cs : List Value} (hp : Pick h (g.H el cs) r) (hgb : g = .one b ∨ ∃ b0 old, g = .two b b0 old) (hj : j < cs.length) (hv : cellsOfV v = [v]) (hfv : flat v = true) (hd : o.dst = none) (hg : wantE ops e o = some true) (ho : o.op = .store ty a y) (hsz : sizeT X.P ty = some 1) (ha : evE X.P e a = some (.pointer (some ⟨b, j, none⟩))) (hx : evE X.P e y = some v) (q : Ie X ops e ((Gro.one b).H el (cs.set j v) ++ r) rest Q) : Ie X ops e h (o :: rest) Q := by
 have h5 : Nat.beq (cellsOfV v).length 1 = true := by rw [hv]; rfl
 have hw : ∀ md : CMode, md = .plain → (md.writes && Nat.ble (j + [v].length) cs.length && flats [v]) = true := fun md e => by
  rw [e, nble, decide_eq_true (by simp; omega)]
  simp [flats, hfv, CMode.writes]
 rcases hgb with rfl | ⟨b0, old, rfl⟩
 ·refine Ie.val_ (v := undef) _ hd hg (by rw [ho]; rfl) (fun ts m h1 h2 => ⟨0, m.set b (some (.cells (cs.set j v) el true .plain none)), ?_, (h2.perm hp.perm).set .head⟩) q
  rw [ho, doOp_h rfl]
  have h3 : m.heap.get b = some (.cells cs el true .plain none) := ((h2.perm hp.perm).has b _ (by simp [Gro.H])).1
  have h4 : storeA m b j [v] = some (m.set b (some (.cells (cs.set j v) el true .plain none))) := by
   unfold storeA
   simp only [h3, hw _ rfl, kill, cond_true, putCells_set _ _ hj]
  simp only [opH, evE_ev h1 ha, evE_ev h1 hx, storeV, hsz, h5, cond_true, hv, h4, valM]
  rfl
 refine Ie.val_ (v := undef) _ hd hg (by rw [ho]; rfl) (fun ts m h1 h2 => ⟨0, (m.set b0 none).set b (some (.cells (cs.set j v) el true .plain none)), ?_, ?_⟩) q
 ·rw [ho, doOp_h rfl]
  have h3 : m.heap.get b = some (.cells cs el true .plain (some b0)) := ((h2.perm hp.perm).has b _ (by simp [Gro.H])).1
  have h4 : storeA m b j [v] = some ((m.set b0 none).set b (some (.cells (cs.set j v) el true .plain none))) := by
   unfold storeA
   simp only [h3, hw _ rfl, kill, cond_true, putCells_set _ _ hj]
  simp only [opH, evE_ev h1 ha, evE_ev h1 hx, storeV, hsz, h5, cond_true, hv, h4, valM]
  rfl
 have k1 := h2.perm (hp.perm.trans (List.Perm.swap _ _ _))
 exact k1.kill.set .head
inductive Dro where
 | gro (g : Gro)
 | tig (b : Nat)
def Dro.H (e : TypeId) (cs : List Value) : Dro → Hp
 | .gro g => g.H e cs
 | .tig b => [(b, .cells cs e false .plain none)]
def Dro.V (n : Nat) : Dro → Value
 | .gro g => g.V n
 | .tig b => .slice (some ⟨b, 0, none⟩) n n
def Dro.Ok (n : Nat) : Dro → Prop
 | .gro g => g.Ok n
 | .tig _ => 0 < n ∧ n ≤ 4294967296
def Dro.aft : Dro → Dro
 | .gro (.two b _ _) => .gro (.one b)
 | d => d
def Dro.in_ (b : Nat) : Dro → Prop
 | .gro g => g = .one b ∨ ∃ b0 old, g = .two b b0 old
 | .tig c => c = b
theorem Dro.aftV (d : Dro) (n : Nat) : d.aft.V n = d.V n := by
 cases d with
 | gro g => cases g <;> rfl
 | tig b => rfl
theorem Dro.aftOk {d : Dro} {n : Nat} (h : d.Ok n) : d.aft.Ok n := by
 cases d with
 | gro g => cases g <;> exact h
 | tig b => exact h
theorem Dro.len {d : Dro} {n : Nat} (h : d.Ok n) : ∃ a c, d.V n = .slice a n c := by
 cases d with
 | gro g => cases g with
  | no => have : n = 0 := h; subst this; exact ⟨none, 0, rfl⟩
  | emp b => have : n = 0 := h; subst this; exact ⟨_, 0, rfl⟩
  | one b => exact ⟨_, _, rfl⟩
  | two b b0 old => exact ⟨_, _, rfl⟩
 | tig b => exact ⟨_, _, rfl⟩
theorem Dro.at_ {d : Dro} {n : Nat} (h : d.Ok n) (hn : 0 < n) : ∃ b c, d.V n = .slice (some ⟨b, 0, none⟩) n c ∧ d.in_ b := by
 cases d with
 | gro g =>
  obtain ⟨b, h1, h2⟩ := Gro.at_ (g := g) h hn
  exact ⟨b, _, h1, h2⟩
 | tig b => exact ⟨b, n, rfl, rfl⟩
theorem Dro.sl {α : Type} {R : α → List Value → Prop} {l : List α} {d : Dro} (hF : Flat sz R l cs) (hg : d.Ok l.length) (hn : l.length ≤ 9223372036854775807) : Sl (InH (d.H el cs)) sz R l (d.V l.length) := by
 cases d with
 | gro g => exact Gro.sl hF hg hn
 | tig b => exact ⟨some ⟨b, 0, none⟩, l.length, rfl, ⟨hn, Nat.le_refl _⟩, .inr ⟨b, 0, cs, el, false, .plain, none, rfl, List.mem_cons_self, by rw [hF.1]; omega, fun i x hx => by rw [Nat.zero_add]; exact hF.2 i x hx⟩⟩
theorem appendA_tig (ht : AppT P te sz) {m : AW} (hb0 : m.heap.get b = some (.cells cs te false .plain none)) (h0 : 0 < n) (hn0 : n ≤ 4294967296) (hc : cs.length = n * sz) (hv : vs.length = (k + 1) * sz) (hf : flats vs = true) (hn : n + (k + 1) ≤ 4294967296) (lo : Nat) (lg : List Nat) :
  appendA P te ⟨m.heap, m.next, lo, lg⟩ (.slice (some ⟨b, 0, none⟩) n n) (k + 1) vs = some (.slice (some ⟨m.next, 0, none⟩) (n + (k + 1)) top, ⟨m.heap.set m.next (some (.cells (cs ++ vs) te true .plain none)), m.next + 1, lo, lg⟩) := by
 obtain ⟨hsz, i, hi, hb⟩ := ht
 simp only [Bool.and_eq_true] at hb
 obtain ⟨hz, hb1, hb2, hb3⟩ := hb
 have hcond : (!(zeroFits P te sz && Nat.beq vs.length ((k + 1) * sz) && flats vs && Nat.ble (n + (k + 1)) 4294967296 && Nat.ble i.bytes 1024 && Nat.ble 1 i.bytes && Nat.ble 1 sz)) = false := by
  have e1 : Nat.beq vs.length ((k + 1) * sz) = true := by rw [nbeq, hv]; simp
  have e2 : Nat.ble (n + (k + 1)) 4294967296 = true := by rw [nble]; simpa using hn
  rw [hz, e1, hf, e2, hb1, hb2, hb3]
  rfl
 unfold appendA
 simp only [hsz, hi, hcond, hb0]
 have e1 : Nat.blt n big = true := by rw [nblt, decide_eq_true_eq]; unfold big; omega
 have e2 : Nat.ble (n + (k + 1)) n = false := by rw [nble, decide_eq_false_iff_not]; omega
 have e3 : rdCells (.cells cs te false .plain none) 0 (n * sz) = some cs := rdCells_take (by omega) (by rw [List.drop_zero, ← hc, List.take_length])
 simp only [e1, e2, cond_true, cond_false, e3]
 rfl
theorem Ie.appendD {α : Type} {R : α → List Value → Prop} {l0 l L : List α} {cs : List Value} {K : Kn} {d : Dro} {s x : Operand} (hL : l0 ++ l = L) (h0 : 0 < l.length) (hp : Pick h (d.H el cs) h1) (hF : Flat sz R l0 cs) (hg : d.Ok l0.length) (hl : Sl K sz R l xv) (hK : ∀ b o, K b o → Sees X h b o) (hR : ∀ x cs, R x cs → flats cs = true) (hn : l0.length + l.length ≤ 4294967296) (hd : o.dst = some t) (ht : Nat.blt t X.n = true) (hgd : wantE ops e o = some true) (ho : o.op = .call { callee := .builtin .append, args := #[s, x], argTypes := #[t1, t2] }) (hu1 : X.P.underlying t1 = some (.slice el)) (hu2 : X.P.underlying t2 = some (.slice e2)) (hT : AppC X.P el sz = true) (hs : evE X.P e s = some (d.V l0.length)) (hx : evE X.P e x = some xv)
  (q : ∀ (g' : Gro) (cs' : List Value), Flat sz R L cs' → g'.Ok L.length → Ie X ops ((t, g'.V L.length) :: e) (g'.H el cs' ++ h1) rest Q) : Ie X ops e h (o :: rest) Q := by
 cases d with
 | gro g => exact Ie.appendSl hL hp hF hg hl hK hR hn hd ht hgd ho hu1 hu2 hT hs hx q
 | tig b =>
  subst hL
  have hA := AppT.of hT
  have hs0 : 0 < sz := by
   obtain ⟨_, i, _, hb⟩ := hA
   simp only [Bool.and_eq_true] at hb
   exact Nat.le_of_ble_eq_true hb.2.2.2
  obtain ⟨vs, hv, hf⟩ := hl.shows hs0 hR hK
  have hlen : (l0 ++ l).length = l0.length + l.length := List.length_append
  obtain ⟨k, hk⟩ : ∃ k, l.length = k + 1 := ⟨l.length - 1, by omega⟩
  refine fun ts m a1 a2 => ?_
  have hk1 : Knows X.S X.m0 m ((b, .cells cs el false .plain none) :: h1) := a2.perm hp.perm
  have hbk := (hk1.has b _ List.mem_cons_self).1
  have h6 := appendA_tig hA hbk hg.1 hg.2 hF.1 (by rw [← hk]; exact hv.2.1) hv.2.2.1 (by omega) m.lo m.log
  refine Io.op (k := 0) (m' := m.new (.cells (cs ++ vs) el true .plain none)) (v := (Gro.one m.next).V (l0 ++ l).length) (wantE_spec a1 hgd) (by rw [ho]; rfl) ?_ ?_
  ·rw [ho, doOp_h rfl]
   have : evs X.P ts [s, x] = some [.slice (some ⟨b, 0, none⟩) l0.length l0.length, xv] := by
    unfold evs evs evs
    rw [evE_ev a1 hs, evE_ev a1 hx]
    rfl
   show (match evs X.P ts [s, x] with | some args => callB X.P .append args #[t1, t2] m | none => none) = _
   rw [this]
   show appendV X.P (some t1) (some t2) _ xv m = _
   rw [appendV_gro hu1 hu2 hA.1 hv.1 (hv.2.2.2 m m.lo m.log a2), hk]
   rw [show (⟨m.heap, m.next, m.lo, m.log⟩ : AW) = m from rfl] at h6
   rw [h6, hlen, hk]
   rfl
  rw [hd]
  have hk2 := (hk1.sub (h' := h1) (.cons _ (List.Sublist.refl _))).new (.cells (cs ++ vs) el true .plain none)
  exact q (.one m.next) _ (hF.append hf) (by show 0 < _; omega) _ _ (a1.put ht _) hk2
theorem Ie.storeD {v : Value} {d : Dro} {cs : List Value} (hp : Pick h (d.H el cs) r) (hgb : d.in_ b) (hj : j < cs.length) (hv : cellsOfV v = [v]) (hfv : flat v = true) (hd : o.dst = none) (hg : wantE ops e o = some true) (ho : o.op = .store ty a y) (hsz : sizeT X.P ty = some 1) (ha : evE X.P e a = some (.pointer (some ⟨b, j, none⟩))) (hx : evE X.P e y = some v) (q : Ie X ops e (d.aft.H el (cs.set j v) ++ r) rest Q) : Ie X ops e h (o :: rest) Q := by
 cases d with
 | gro g =>
  refine Ie.storeGro hp hgb hj hv hfv hd hg ho hsz ha hx ?_
  rcases hgb with rfl | ⟨b0, old, rfl⟩ <;> exact q
 | tig c =>
  have hcb : c = b := hgb
  subst hcb
  have h5 : Nat.beq (cellsOfV v).length 1 = true := by rw [hv]; rfl
  have hw : (CMode.plain.writes && Nat.ble (j + [v].length) cs.length && flats [v]) = true := by
   rw [nble, decide_eq_true (by simp; omega)]
   simp [flats, hfv, CMode.writes]
  refine Ie.val_ (v := undef) _ hd hg (by rw [ho]; rfl) (fun ts m h1 h2 => ⟨0, m.set c (some (.cells (cs.set j v) el false .plain none)), ?_, (h2.perm hp.perm).set .head⟩) q
  rw [ho, doOp_h rfl]
  have h3 : m.heap.get c = some (.cells cs el false .plain none) := ((h2.perm hp.perm).has c _ (by simp [Dro.H])).1
  have h4 : storeA m c j [v] = some (m.set c (some (.cells (cs.set j v) el false .plain none))) := by
   unfold storeA
   simp only [h3, hw, kill, cond_true, putCells_set _ _ hj]
  simp only [opH, evE_ev h1 ha, evE_ev h1 hx, storeV, hsz, h5, cond_true, hv, h4, valM]
  rfl
end
section
variable {X : Cx} {e : Env} {h : Hp} {Q : Out → Prop} {a b : Code} {β : Type}
def JnG (X : Cx) (A : β → Prop) (E : β → Env) (H : β → Hp) (Q : Out → Prop) : Out → Prop
 | ⟨.normal, ts, _, m⟩ => ∃ y, A y ∧ Has X.n ts (E y) ∧ Knows X.S X.m0 m (H y)
 | o => Q o
theorem Ce.joinG (A : β → Prop) (E : β → Env) (H : β → Hp) (q1 : Ce X e h a (JnG X A E H Q)) (q2 : ∀ y, A y → Ce X (E y) (H y) b Q) : Ce X e h (.seq a b) Q := Ce.seq fun ts m h1 h2 => (q1 ts m h1 h2).mono fun o ho => by
 obtain ⟨ex, ts1, v1, m1⟩ := o
 cases ex with
 | normal =>
  obtain ⟨y, g1, g2, g3⟩ := ho
  exact q2 y g1 ts1 m1 g2 g3
 | _ => exact ho
theorem Re.jng {A : β → Prop} {E : β → Env} {H : β → Hp} (q : Re X e h Q) : Re X e h (JnG X A E H Q) := q
theorem Xe.jng {A : β → Prop} {E : β → Env} {H : β → Hp} {i : Nat} (q : Xe X e h i Q) : Xe X e h i (JnG X A E H Q) := q
theorem Ne.jng {A : β → Prop} {E : β → Env} {H : β → Hp} (y : β) (hA : A y) (he : Sub (E y) e) (hh : (H y).Sublist h) : Ne X e h (JnG X A E H Q) := fun _ _ h1 h2 => ⟨y, hA, h1.sub he, h2.sub hh⟩
end
end Go.Ab