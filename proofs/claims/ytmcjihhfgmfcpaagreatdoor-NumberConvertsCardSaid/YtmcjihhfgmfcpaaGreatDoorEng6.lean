/-
  The engine, part 6: an interpreter over abstract memories, and the proof that the model's machine does what it reckons. Conditions: none.
-/
import Derived.Test.YtmcjihhfgmfcpaaGreatDoorEng5

set_option autoImplicit true
set_option relaxedAutoImplicit true
set_option linter.unusedSectionVars false
set_option linter.unusedVariables false
set_option linter.unusedSimpArgs false
namespace Go.Ab
variable [Vals]
section
variable {S : List Nat} {m0 m m' : AW}
theorem Knows.step {l l' r : Hp} (k : Knows S m0 m (l ++ r)) (k2 : Knows (l.map Prod.fst) m m' l') : Knows S m0 m' (l' ++ r) := by
 have hC : ∀ b, b ∈ l.map Prod.fst → m0.next ≤ b ∨ b ∈ S := fun b hb => by
  obtain ⟨⟨c, o⟩, h1, rfl⟩ := List.mem_map.1 hb
  exact (k.has c o (List.mem_append_left _ h1)).2.2
 have hap := k.apart
 rw [List.map_append, List.nodup_append] at hap
 obtain ⟨_, hap2, hap3⟩ := hap
 refine ⟨k.lole, Nat.le_trans k.next k2.next, k2.lo.trans k.lo, fun b hb => ?_, fun hs => ?_, fun b hb hs => ?_, fun b o hb => ?_, ?_⟩
 ·rcases k2.log b hb with h | ⟨h1, h2⟩
  ·exact k.log b h
  rw [k.lo] at h2
  rcases hC b h1 with h | h
  ·have := k.lole; omega
  exact .inr ⟨h, h2⟩
 ·rw [← k.none_ hs]
  refine k2.none_ fun b hb => ?_
  rw [k.lo]
  rcases hC b hb with h | h
  ·exact Nat.le_trans k.lole h
  exact hs b h
 ·rw [← k.keep b hb hs]
  refine k2.keep b (Nat.lt_of_lt_of_le hb k.next) fun h => ?_
  rcases hC b h with h | h
  ·omega
  exact hs h
 ·rcases List.mem_append.1 hb with hb | hb
  ·obtain ⟨h1, h2, h3⟩ := k2.has b o hb
   refine ⟨h1, h2, ?_⟩
   rcases h3 with h3 | h3
   ·exact .inl (Nat.le_trans k.next h3)
   exact hC b h3
  obtain ⟨h1, h2, h3⟩ := k.has b o (List.mem_append_right _ hb)
  refine ⟨(k2.keep b h2 fun h => ?_).trans h1, Nat.lt_of_lt_of_le h2 k2.next, h3⟩
  exact hap3 b h b (List.mem_map.2 ⟨_, hb, rfl⟩) rfl
 rw [List.map_append, List.nodup_append]
 refine ⟨k2.apart, hap2, fun a ha b hb => ?_⟩
 rintro rfl
 obtain ⟨⟨c, o⟩, h1, rfl⟩ := List.mem_map.1 ha
 obtain ⟨⟨c', o'⟩, h2, e⟩ := List.mem_map.1 hb
 simp only at e
 subst e
 rcases (k2.has c' o h1).2.2 with h3 | h3
 ·have := (k.has c' o' (List.mem_append_right _ h2)).2.1
  omega
 exact hap3 c' h3 c' (List.mem_map.2 ⟨_, h2, rfl⟩) rfl
theorem Knows.self {h : Hp} (k : Knows S m0 m h) : Knows (h.map Prod.fst) m m h :=
 ⟨k.lole', Nat.le_refl _, rfl, fun _ h => .inl h, fun _ => rfl, fun _ _ _ => rfl, fun b o hb => by
  obtain ⟨g1, g2, _⟩ := k.has b o hb
  exact ⟨g1, g2, .inr (List.mem_map.2 ⟨_, hb, rfl⟩)⟩, k.apart⟩
end
section
variable {X : Cx} {ops : Array Oper} {e : Env} {h : Hp} {Q : Out → Prop} {o : Oper} {rest : List Oper} {t : Tmp}
def Yc (P : Program) (l : Nat) (args : List Value) (m : AW) (Q : Value → AW → Prop) : Prop := ∃ k v m', irun P k noFr (.yield l args) m = some ⟨.ret, .lf, v, m'⟩ ∧ Q v m'
def Iterates (P : Program) (g : FuncId) (first cap : List Value) (vs : List (List Value)) (D : Nat → Prop) (m : AW) : Prop :=
 ∀ (α : Type) (l : Nat) (C : List Nat) (A : Nat → α → Prop) (B : α → Prop) (H : α → Hp) (x0 : α),
  (∀ x, (H x).map Prod.fst = C) → (∀ b, D b → b ∉ C) → A 0 x0 → Knows C m m (H x0) →
  (∀ i x v, vs[i]? = some v → A i x → ∀ m', Knows C m m' (H x) → Yc P l v m' fun r m'' => ∃ x', Knows C m' m'' (H x') ∧ (r = .bool true ∧ A (i + 1) x' ∨ r = .bool false ∧ B x')) →
  Fc P g (first ++ [.func (.yield l) ⟨[]⟩ ⟨[]⟩] ++ cap) m fun _ m' => ∃ x', Knows C m m' (H x') ∧ (A vs.length x' ∨ B x')
theorem Ie.yield {α : Type} {fo : Operand} {as : Array Operand} {ats : Array TypeId} {vs : List Value} {j : Nat} {l r : Hp} (A : α → Prop) (V : α → Value) (H : α → Hp) (hp : Pick h l r) (hd : o.dst = some t) (ht : Nat.blt t X.n = true) (hg : wantE ops e o = some true) (ho : o.op = .call { callee := .value fo, args := as, argTypes := ats }) (ha : evsE X.P e as.toList = some vs) (hf : evE X.P e fo = some (.func (.yield j) ⟨[]⟩ ⟨[]⟩))
  (hc : ∀ m, Knows X.S X.m0 m (l ++ r) → Yc X.P j vs m fun v m' => ∃ x, A x ∧ v = V x ∧ Knows (l.map Prod.fst) m m' (H x)) (q : ∀ x, A x → Ie X ops ((t, V x) :: e) (H x ++ r) rest Q) : Ie X ops e h (o :: rest) Q := fun ts m h1 h2 => by
 have h3 := h2.perm hp.perm
 obtain ⟨k, v, m', g1, x, hA, rfl, hk⟩ := hc m h3
 refine Io.op (k := k) (m' := m') (v := V x) (wantE_spec h1 hg) (by rw [ho]; rfl) ?_ ?_
 ·rw [ho, doOp_h rfl]
  simp only [opH, callH, evsE_evs h1 ha, evE_ev h1 hf, callV, g1]
 rw [hd]
 exact q x hA _ m' (h1.put ht _) (h3.step hk)
end
def Asg (X : Cx) (l : Nat) (ready busy : AObj) (body : Code) (Q : Out → Prop) : Out → Prop
 | ⟨.normal, ts, _, m⟩ => m.heap.get l = some ready ∧ Ru X.P ⟨X.f, X.n, ts, some l⟩ (.code body) (m.set l (some busy)) Q
 | _ => False
def Rnd {α : Type} (X : Cx) (l : Nat) (busy : AObj) (H : α → Hp) (A R : α → Prop) : Out → Prop
 | ⟨.normal, _, _, m⟩ => ∃ x, A x ∧ Knows X.S X.m0 m ((l, busy) :: H x)
 | ⟨.ret, _, _, m⟩ => ∃ x, R x ∧ Knows X.S X.m0 m ((l, busy) :: H x)
 | _ => False
section
variable {X : Cx} {e : Env} {h : Hp} {Q : Out → Prop}
def parE : List (Tmp × Value) → Env → Env
 | [], e => e
 | (t, v) :: l, e => parE l ((t, v) :: e)
theorem Has.par {n : Nat} : ∀ {l : List (Tmp × Value)} {ts : Tr Value} {e : Env}, Has n ts e → (l.all fun x => Nat.blt x.1 n) = true → Has n (l.foldl (fun ts x => Ab.put n ts (some x.1) x.2) ts) (parE l e)
 | [], _, _, h, _ => h
 | (t, v) :: l, ts, e, h, hl => by
  simp only [List.all_cons, Bool.and_eq_true] at hl
  exact Has.par (l := l) (h.put hl.1 v) hl.2
theorem Ce.rangeFunc {α : Type} {fo : Operand} {ps : Array Tmp} {assign body : Code} {g : FuncId} {first cap : List Value} {vs : List (List Value)} {K : List Nat} (A : Nat → α → Prop) (R : α → Prop) (H : α → Hp) (x0 : α) (hr : X.r = none) (hf : evE X.P e fo = some (.func (.func g) ⟨first⟩ ⟨cap⟩)) (hK : ∀ x, (H x).map Prod.fst = K) (h0 : A 0 x0) (hs : (H x0).Sublist h) (hps : ∀ v, v ∈ vs → v.length = ps.size ∧ ((ps.toList.zip v).all fun x => Nat.blt x.1 X.n) = true)
  (D : Nat → Prop) (hit : ∀ m, Knows X.S X.m0 m h → Iterates X.P g first cap vs D m ∧ ∀ b, D b → b < m.next ∧ b ∉ K)
  (step : ∀ i x v, vs[i]? = some v → A i x → ∀ l m' ready busy, X.m0.next ≤ l → Knows X.S X.m0 m' ((l, ready) :: H x) → Ce { X with m0 := m', S := l :: K, r := some l } (parE (ps.toList.zip v) e) ((l, ready) :: H x) assign (Asg { X with m0 := m', S := l :: K, r := some l } l ready busy body (Rnd { X with m0 := m', S := l :: K, r := some l } l busy H (A (i + 1)) R)))
  (qn : ∀ x, A vs.length x → Ne X e (H x) Q) (qr : ∀ x, R x → Re X e (H x) Q) : Ce X e h (.rangeFunc fo ps assign body) Q := fun ts m h1 h2 => by
 -- the two blocks of the loop
 let rd : AObj := .loop .ready none X.f X.n ts ps.toList assign body m.next
 let bz : AObj := .loop .busy none X.f X.n ts ps.toList assign body m.next
 let fin : AObj := .loop .done (some .ret) X.f X.n ts ps.toList assign body m.next
 let l := m.next + 1
 let m2 : AW := (m.new .deferred).new rd
 have hX2 : Knows X.S X.m0 m2 ((l, rd) :: (m.next, .deferred) :: h) := (h2.new .deferred).new rd
 have hsub : Knows X.S X.m0 m2 ((l, rd) :: H x0) := hX2.sub (.cons_cons _ (.cons _ hs))
 have hKR : Knows X.S X.m0 m2 h := hX2.sub (.cons _ (.cons _ (.refl _)))
 have hkeys : ((l, rd) :: H x0).map Prod.fst = l :: K := by simp [hK]
 have hk0 : Knows (l :: K) m2 m2 ((l, rd) :: H x0) := by
  have := hsub.self
  rw [hkeys] at this
  exact this
 have hDl : ∀ b, D b → b ∉ l :: K := fun b hb => by
  obtain ⟨e1, e2⟩ := (hit m h2).2 b hb
  intro h
  rcases List.mem_cons.1 h with rfl | h
  ·exact absurd e1 (by show ¬ (m.next + 1 < m.next); omega)
  exact e2 h
 have hiter := (hit m2 hKR).1 (α × Bool) l (l :: K) (fun i x => A i x.1 ∧ x.2 = true) (fun x => R x.1 ∧ x.2 = false) (fun x => (l, if x.2 then rd else fin) :: H x.1) (x0, true) (fun x => by simp [hK]) hDl ⟨h0, rfl⟩ (by simpa using hk0) ?_
 ·obtain ⟨k, v, m3, g1, x', g2, g3⟩ := hiter
  have hl3 := g2.has l (if x'.2 then rd else fin) List.mem_cons_self
  have hK3 : Knows X.S X.m0 m3 ((l, if x'.2 then rd else fin) :: H x'.1) := by
   have := Knows.step (r := []) (l := (l, rd) :: H x0) (l' := (l, if x'.2 then rd else fin) :: H x'.1) (by simpa using hsub) (by rw [hkeys]; exact g2)
   simpa using this
  have hst : ∀ out, endRF ⟨X.f, X.n, ts, X.r⟩ l m3 = some out → Q out → Ru X.P ⟨X.f, X.n, ts, X.r⟩ (.code (.rangeFunc fo ps assign body)) m Q := by
   intro out e1 e2
   refine Ru.step (k := k) ?_ e2
   show stRF X.P (irun X.P k) ⟨X.f, X.n, ts, X.r⟩ fo ps.toList assign body m = _
   unfold stRF
   simp only [evE_ev h1 hf, beginRF, hr]
   simp only [hr] at e1
   have : irun X.P k noFr (.fn g (first ++ [.func (.yield (m.next + 1)) ⟨[]⟩ ⟨[]⟩] ++ cap)) ((m.new .deferred).new (.loop .ready none X.f X.n ts ps.toList assign body m.next)) = some ⟨.ret, .lf, v, m3⟩ := g1
   simp only [this]
   exact e1
  rcases g3 with ⟨g3, g4⟩ | ⟨g3, g4⟩
  ·rw [g4] at hl3 hK3
   simp only [if_true] at hl3 hK3
   have e1 : endRF ⟨X.f, X.n, ts, X.r⟩ l m3 = some ⟨.normal, ts, undef, m3.set l (some (.loop .exhausted none X.f X.n ts ps.toList assign body m.next))⟩ := by
    unfold endRF
    simp only [hl3.1, rd]
   exact hst _ e1 (qn x'.1 g3 ts _ h1 ((hK3.set (o' := .loop .exhausted none X.f X.n ts ps.toList assign body m.next) .head).sub (.cons _ (.refl _))))
  rw [g4] at hl3 hK3
  simp only [Bool.false_eq_true, if_false] at hl3 hK3
  have e1 : endRF ⟨X.f, X.n, ts, X.r⟩ l m3 = some ⟨.ret, ts, undef, m3.set l (some (.loop .exhausted (some .ret) X.f X.n ts ps.toList assign body m.next))⟩ := by
   unfold endRF
   simp only [hl3.1, fin]
  exact hst _ e1 (qr x'.1 g3 ts _ h1 ((hK3.set (o' := .loop .exhausted (some .ret) X.f X.n ts ps.toList assign body m.next) .head).sub (.cons _ (.refl _))))
 rintro i ⟨x, b⟩ v hv ⟨hA, hb⟩ m' hm'
 simp only at hA hb hm'
 subst hb
 simp only [if_true] at hm'
 have hXm' : Knows X.S X.m0 m' ((l, rd) :: H x) := by
  have := Knows.step (r := []) (l := (l, rd) :: H x0) (l' := (l, rd) :: H x) (by simpa using hsub) (by rw [hkeys]; exact hm')
  simpa using this
 have hself : Knows (l :: K) m' m' ((l, rd) :: H x) := by
  have := hXm'.self
  rw [show ((l, rd) :: H x).map Prod.fst = l :: K by simp [hK]] at this
  exact this
 obtain ⟨hp1, hp2⟩ := hps v (List.mem_of_getElem? hv)
 have hln : X.m0.next ≤ l := Nat.le_succ_of_le h2.next
 obtain ⟨k1, ⟨ex, ts1, v1, m1⟩, a1, a2⟩ := step i x v hv hA l m' rd bz hln hXm' _ m' (h1.par hp2) hself
 cases ex with
 | normal =>
  obtain ⟨b1, k2, ⟨ex2, ts2, v2, m4⟩, c1, c2⟩ := a2
  have hy : ∀ (r : Value) (m5 : AW), endRound X.P X.f l (some ⟨ex2, ts2, v2, m4⟩) = some ⟨.ret, .lf, r, m5⟩ → irun X.P (k1 + k2 + 1) noFr (.yield l v) m' = some ⟨.ret, .lf, r, m5⟩ := by
   intro r m5 hend
   show stYield X.P (irun X.P (k1 + k2)) l v m' = _
   unfold stYield
   have hrd := (hm'.has l rd List.mem_cons_self).1
   simp only [hrd, rd]
   have hlen : Nat.beq v.length ps.toList.length = true := by rw [nbeq]; simp [hp1]
   rw [hlen]
   have e1 := irun_le (P := X.P) (Nat.le_add_right k1 k2) _ _ _ _ a1
   simp only [cond_true] at e1 ⊢
   rw [e1]
   simp only
   unfold stBody
   simp only [b1, rd]
   have e2 := irun_le (P := X.P) (Nat.le_add_left k2 k1) _ _ _ _ c1
   simp only [bz] at e2
   rw [e2]
   exact hend
  cases ex2 with
  | normal =>
   obtain ⟨x', d1, d2⟩ := c2
   have hb4 := (d2.has l bz List.mem_cons_self).1
   refine ⟨k1 + k2 + 1, .bool true, m4.set l (some rd), hy _ _ ?_, (x', true), ?_, .inl ⟨rfl, d1, rfl⟩⟩
   ·show outOf (.bool true) (setLoop m4 l .ready none) = _
    unfold setLoop
    simp only [hb4, bz]
    rfl
   simp only [if_true]
   exact d2.set .head
  | ret =>
   obtain ⟨x', d1, d2⟩ := c2
   have hb4 := (d2.has l bz List.mem_cons_self).1
   refine ⟨k1 + k2 + 1, .bool false, m4.set l (some fin), hy _ _ ?_, (x', false), ?_, .inr ⟨rfl, d1, rfl⟩⟩
   ·show outOf (.bool false) (setLoop m4 l .done (some .ret)) = _
    unfold setLoop
    simp only [hb4, bz]
    rfl
   simp only [Bool.false_eq_true, if_false]
   exact d2.set .head
  | _ => exact absurd c2 (by simp [Rnd])
 | _ => exact absurd a2 (by simp [Asg])
end
end Go.Ab
namespace Go.Ab
variable [Vals]
theorem nrm_lt (a b : Int) : (ltI a b = true) = (a < b) := by rw [ltI_eq, decide_eq_true_eq]
theorem nrm_nlt (a b : Int) : (ltI a b = false) = (b ≤ a) := by rw [ltI_eq, decide_eq_false_iff_not, Int.not_lt]
theorem nrm_eq (a b : Int) : (eqI a b = true) = (a = b) := by rw [eqI_eq, decide_eq_true_eq]
theorem nrm_neq (a b : Int) : (eqI a b = false) = (a ≠ b) := by rw [eqI_eq, decide_eq_false_iff_not]
theorem bytes_ext {a b : ByteArray} (h : a.data.toList = b.data.toList) : a = b := by
 cases a with | mk a => cases b with | mk b =>
  cases a with | mk a => cases b with | mk b => cases h; rfl
theorem nrm_seq (a b : ByteArray) : (eqBytes a.data.toList b.data.toList = true) = (a = b) := by
 rw [eqBytes_eq, decide_eq_true_eq]
 exact propext ⟨bytes_ext, fun h => by rw [h]⟩
theorem nrm_sneq (a b : ByteArray) : (eqBytes a.data.toList b.data.toList = false) = (a ≠ b) := by
 rw [eqBytes_eq, decide_eq_false_iff_not]
 exact propext ⟨fun h e => h (by rw [e]), fun h e => h (bytes_ext e)⟩
theorem nrm_sempty (a : ByteArray) : (eqBytes a.data.toList [] = true) = (a.size = 0) := by
 rw [eqBytes_eq, decide_eq_true_eq]
 cases a with | mk a => cases a with | mk a =>
  show (a = []) = (a.length = 0)
  rw [List.length_eq_zero_iff]
theorem nrm_snempty (a : ByteArray) : (eqBytes a.data.toList [] = false) = (a.size ≠ 0) := by
 rw [eqBytes_eq, decide_eq_false_iff_not]
 cases a with | mk a => cases a with | mk a =>
  show (¬ a = []) = (a.length ≠ 0)
  exact propext (not_congr List.length_eq_zero_iff.symm)
theorem nrm_ofNat (n : Nat) : Int.ofNat n = (n : Int) := rfl
section
variable {X : Cx} {e : Env} {h : Hp} {Q : Out → Prop} {a b : Code}
theorem Ne.as (u : Nat) (w' : Value) (hl : look e u = some w) (hw : w = w') (q : Ne X ((u, w') :: e) h Q) : Ne X e h Q := fun ts m h1 h2 => q ts m (has_as u hl hw h1) h2
def SubX : List Nat → Env → Env → Prop
 | _, [], _ => True
 | seen, (t, v) :: e', e => bif seen.any (Nat.beq t) then SubX seen e' e else (look e t = some v ∧ SubX (t :: seen) e' e)
theorem SubX.look {e : Env} : ∀ {e' : Env} {seen : List Nat}, SubX seen e' e → ∀ t v, seen.any (Nat.beq t) = false → look e' t = some v → look e t = some v
 | [], _, _, _, _, _, hl => by cases hl
 | (u, w) :: e', seen, hs, t, v, hn, hl => by
  unfold SubX at hs
  unfold Ab.look at hl
  cases hb : Nat.beq u t with
  | true =>
   rw [hb] at hl
   cases hl
   rw [nbeq, decide_eq_true_eq] at hb
   subst hb
   rw [hn] at hs
   exact hs.1
  | false =>
   rw [hb] at hl
   cases hx : seen.any (Nat.beq u) with
   | true =>
    rw [hx] at hs
    exact SubX.look hs t v hn hl
   | false =>
    rw [hx] at hs
    refine SubX.look hs.2 t v ?_ hl
    rw [List.any_cons, hn, Bool.or_false]
    rw [nbeq, decide_eq_false_iff_not] at hb ⊢
    exact fun e => hb e.symm
theorem Ce.as (u : Nat) (w' : Value) (hl : look e u = some w) (hw : w = w') (q : Ce X ((u, w') :: e) h c Q) : Ce X e h c Q := fun ts m h1 h2 => q ts m (has_as u hl hw h1) h2
variable {ops : Array Oper} {o : Oper} {rest : List Oper} {t : Tmp}
end
end Go.Ab
namespace Go.Ab
variable [Vals]
abbrev Kn := Nat → AObj → Prop
def Mem (m : AW) : Kn := fun b o => b < m.next ∧ m.heap.get b = some o
def InH (h : Hp) : Kn := fun b o => (b, o) ∈ h
theorem Mem.ext (h : Ext m m') : ∀ b o, Mem m b o → Mem m' b o := fun b _ ⟨h1, h2⟩ => ⟨Nat.lt_of_lt_of_le h1 h.next, (h.keep b h1).trans h2⟩
theorem Mem.kr (k : KR [] m m' h) : ∀ b o, Mem m b o → Mem m' b o := fun b _ ⟨h1, h2⟩ => ⟨Nat.lt_of_lt_of_le h1 k.next, (k.keep b h1 (by simp)).trans h2⟩
theorem InH.kr (k : KR S m m' h) (hs : ∀ p, p ∈ l → p ∈ h) : ∀ b o, InH l b o → Mem m' b o := fun b o hb => ⟨(k.has b o (hs _ hb)).2, (k.has b o (hs _ hb)).1⟩
theorem InH.sees (hs : ∀ p, p ∈ l → p ∈ h) : ∀ b o, InH l b o → Sees X h b o := fun b o hb _ k => (k.has b o (hs _ hb)).1
theorem Sees.app (s : Sees X h b o) : Sees X (l ++ h) b o := fun m k => s m (k.sub (List.sublist_append_right _ _))
theorem Mem.sees (hm : X.m0 = m) (hS : X.S = []) : ∀ b o, Mem m b o → Sees X h b o := fun _ _ ⟨h1, h2⟩ => Sees.base (by rw [hm]; exact h2) (by rw [hm]; exact h1) (by rw [hS]; simp)
def Off (S : List Nat) (m : AW) : Kn := fun b o => b < m.next ∧ b ∉ S ∧ m.heap.get b = some o
theorem Off.sees (hm : X.m0 = m) (hS : X.S = S) : ∀ b o, Off S m b o → Sees X h b o := fun _ _ ⟨h1, h2, h3⟩ => Sees.base (by rw [hm]; exact h3) (by rw [hm]; exact h1) (by rw [hS]; exact h2)
theorem Off.kr (k : KR S m m' h) : ∀ b o, Off S m b o → Off S m' b o := fun b _ ⟨h1, h2, h3⟩ => ⟨Nat.lt_of_lt_of_le h1 k.next, h2, (k.keep b h1 h2).trans h3⟩
def Sl {α : Type} (K : Kn) (sz : Nat) (R : α → List Value → Prop) (l : List α) (v : Value) : Prop :=
 ∃ a cap, v = .slice a l.length cap ∧ (l.length ≤ 9223372036854775807 ∧ l.length ≤ cap) ∧ (l = [] ∧ (a = none ∨ ∃ b off, a = some ⟨b, off, none⟩) ∨ ∃ b off cs el g md mate, a = some ⟨b, off, none⟩ ∧ K b (.cells cs el g md mate) ∧ off + l.length * sz ≤ cs.length ∧ ∀ i x, l[i]? = some x → R x ((cs.drop (off + i * sz)).take sz))
theorem Sl.mono (h : Sl K sz R l v) (k : ∀ b o, K b o → K' b o) (hR : ∀ x cs, R x cs → R' x cs) : Sl K' sz R' l v := by
 obtain ⟨a, cap, rfl, hn, hl⟩ := h
 refine ⟨a, cap, rfl, hn, ?_⟩
 rcases hl with hl | ⟨b, off, cs, el, g, md, mate, rfl, hb, hle, hc⟩
 ·exact .inl hl
 exact .inr ⟨b, off, cs, el, g, md, mate, rfl, k _ _ hb, hle, fun i x hx => hR _ _ (hc i x hx)⟩
def Flat {α : Type} (sz : Nat) (R : α → List Value → Prop) (l : List α) (vs : List Value) : Prop := vs.length = l.length * sz ∧ ∀ i x, l[i]? = some x → R x ((vs.drop (i * sz)).take sz)
theorem Flat.nil : Flat sz R [] [] := ⟨by simp, fun i x h => by simp at h⟩
theorem Flat.one (h : R x vs) (hl : vs.length = sz) : Flat sz R [x] vs := ⟨by simp [hl], fun i y hy => by
 cases i with
 | zero =>
  simp only [List.getElem?_cons_zero, Option.some.injEq] at hy
  subst hy
  rw [Nat.zero_mul, List.drop_zero, ← hl, List.take_length]
  exact h
 | succ i => simp at hy⟩
theorem Flat.append (h : Flat sz R l vs) (h' : Flat sz R l' vs') : Flat sz R (l ++ l') (vs ++ vs') := by
 refine ⟨by rw [List.length_append, List.length_append, h.1, h'.1, Nat.add_mul], fun i x hx => ?_⟩
 by_cases hi : i < l.length
 ·rw [List.getElem?_append_left hi] at hx
  have h1 := h.2 i x hx
  have h2 : (i + 1) * sz ≤ l.length * sz := Nat.mul_le_mul_right _ hi
  rw [Nat.add_mul, Nat.one_mul] at h2
  rw [List.drop_append_of_le_length (by rw [h.1]; omega), List.take_append_of_le_length (by rw [List.length_drop, h.1]; omega)]
  exact h1
 rw [List.getElem?_append_right (by omega)] at hx
 have h1 := h'.2 _ x hx
 have h2 : i * sz = vs.length + (i - l.length) * sz := by
  rw [h.1, ← Nat.add_mul]
  congr 1
  omega
 rw [h2, List.drop_append, List.drop_eq_nil_of_le (by omega), List.nil_append, show vs.length + (i - l.length) * sz - vs.length = (i - l.length) * sz by omega]
 exact h1
section
variable {α : Type} {X : Cx} {ops : Array Oper} {base : Nat} {rI : List Nat} {cl : Bool} {mk : List (Nat × Nat)} {e : Env} {h : Hp} {Q : Out → Prop} {o : Oper} {i : Info} {rest : List Oper} {drest : List (Oper × Info)} {t : Tmp}
end
end Go.Ab
namespace Go.Ab
variable [Vals]
theorem putCells_set {v : Value} : ∀ (cs : List Value) (i : Nat), i < cs.length → putCells cs i [v] = cs.set i v
 | [], _, h => absurd h (Nat.not_lt_zero _)
 | c :: cs, 0, _ => by
  unfold putCells
  simp
 | c :: cs, i + 1, h => by
  unfold putCells
  rw [putCells_set cs i (by simpa using h)]
  rfl
section
variable {α : Type} {X : Cx} {ops : Array Oper} {e : Env} {h : Hp} {Q : Out → Prop} {o : Oper} {rest : List Oper} {t : Tmp}
theorem Ie.storeAt (hF : ∀ x, cellsOfV (F x) = [F x] ∧ flat (F x) = true) {st : List α} (hi : i < st.length) (hp : Pick h [(b, .cells (st.map F) el g md none)] r) (hmd : md.writes = true) (hd : o.dst = none) (hg : wantE ops e o = some true) (ho : o.op = .store ty a y) (hsz : sizeT X.P ty = some 1) (ha : evE X.P e a = some (.pointer (some ⟨b, 0 + i * 1, none⟩))) (hx : evE X.P e y = some (F x)) (q : Ie X ops e ((b, .cells ((st.set i x).map F) el g md none) :: r) rest Q) : Ie X ops e h (o :: rest) Q := by
 refine Ie.val_ (v := undef) ((b, .cells ((st.set i x).map F) el g md none) :: r) hd hg (by rw [ho]; rfl) (fun ts m h1 h2 => ⟨0, m.set b (some (.cells ((st.set i x).map F) el g md none)), ?_, (h2.perm hp.perm).set .head⟩) q
 rw [ho, doOp_h rfl]
 have h3 : m.heap.get b = some (.cells (st.map F) el g md none) := ((h2.perm hp.perm).has b _ (by simp)).1
 have hoff : 0 + i * 1 = i := by omega
 have h4 : storeA m b (0 + i * 1) [F x] = some (m.set b (some (.cells ((st.set i x).map F) el g md none))) := by
  unfold storeA
  have hw : (md.writes && Nat.ble (0 + i * 1 + [F x].length) (st.map F).length && flats [F x]) = true := by
   rw [hmd, nble, decide_eq_true (by simp; omega)]
   simp [flats, (hF x).2]
  simp only [h3, hw, kill, cond_true]
  rw [hoff, putCells_set _ _ (by simpa using hi), List.map_set]
 have h5 : Nat.beq (cellsOfV (F x)).length 1 = true := by rw [(hF x).1]; rfl
 simp only [opH, evE_ev h1 ha, evE_ev h1 hx, storeV, hsz, h5, cond_true, (hF x).1, h4, valM]
 rfl
end
end Go.Ab
namespace Go.Ab
variable [Vals]
section
variable {α : Type} {X : Cx} {ops : Array Oper} {e : Env} {h : Hp} {Q : Out → Prop} {o : Oper} {rest : List Oper} {t : Tmp}
theorem Off.old (k : Knows [] m m2 (l ++ r)) : ∀ b o, Mem m b o → Off (l.map Prod.fst) m2 b o := fun b o ⟨e1, e2⟩ => by
 refine ⟨Nat.lt_of_lt_of_le e1 k.next, fun hb => ?_, (k.keep b e1 (by simp)).trans e2⟩
 obtain ⟨⟨c, o'⟩, g1, rfl⟩ := List.mem_map.1 hb
 rcases (k.has c o' (List.mem_append_left _ g1)).2.2 with h | h
 ·simp only at e1
  omega
 cases h
theorem Re.swap (p : h.Perm h') (q : Re X e h' Q) : Re X e h Q := fun ts m h1 h2 => q ts m h1 (h2.perm p)
theorem Ne.swap (p : h.Perm h') (q : Ne X e h' Q) : Ne X e h Q := fun ts m h1 h2 => q ts m h1 (h2.perm p)
theorem Ce.swap (p : h.Perm h') (q : Ce X e h' c Q) : Ce X e h c Q := fun ts m h1 h2 => q ts m h1 (h2.perm p)
theorem Ie.swap (p : h.Perm h') (q : Ie X ops e h' ops' Q) : Ie X ops e h ops' Q := fun ts m h1 h2 => q ts m h1 (h2.perm p)
end
end Go.Ab
namespace Go.Ab
variable [Vals]
structure ArgB where
 s : Spot
 t : TypeId
 cs : List Value
def ArgB.o (b : ArgB) : AObj := .cells b.cs b.t true .ro none
def argR (ρ : Ren) (L : List ArgB) : Ren := fun i => if i < laidEnd then ρ i else (L[i - laidEnd]?).map ArgB.s
def KA (L : List ArgB) : Kn := fun i o => ∃ j b, i = laidEnd + j ∧ L[j]? = some b ∧ o = b.o
theorem pre_get {L L' : List α} (h : L <+: L') {j : Nat} {b : α} (hb : L[j]? = some b) : L'[j]? = some b := by
 obtain ⟨M, rfl⟩ := h
 rw [List.getElem?_append_left (List.getElem?_eq_some_iff.1 hb).1]
 exact hb
theorem KA.mono (h : L <+: L') : ∀ b o, KA L b o → KA L' b o := fun _ _ ⟨j, b, h1, h2, h3⟩ => ⟨j, b, h1, pre_get h h2, h3⟩
theorem argR_le (h : L <+: L') : (argR ρ L).le (argR ρ L') := fun i s hi => by
 unfold argR at hi ⊢
 split
 ·rename_i hlt
  rw [if_pos hlt] at hi
  exact hi
 rename_i hlt
 rw [if_neg hlt] at hi
 cases hL : L[i - laidEnd]? with
 | none => rw [hL] at hi; cases hi
 | some b =>
  rw [hL] at hi
  rw [pre_get h hL]
  exact hi
def ArgB.Ok (W : World) (ρ : Ren) (b : ArgB) : Prop := ∃ c fr, W.heap[b.s.blk]? = some (.cells c b.t fr) ∧ b.s.off + b.cs.length ≤ c.size ∧ b.s.cap = 0 ∧ ∀ (i : Nat) v, b.cs[i]? = some v → ∃ v', c[b.s.off + i]? = some v' ∧ VRel ρ v v'
theorem ArgB.Ok.mono {b : ArgB} (h : b.Ok W ρ) (hρ : ρ.le ρ') : b.Ok W ρ' := by
 obtain ⟨c, fr, h1, h2, h3, h4⟩ := h
 exact ⟨c, fr, h1, h2, h3, fun i v hi => let ⟨v', a, b⟩ := h4 i v hi; ⟨v', a, b.mono hρ⟩⟩
def ArgOk (W : World) (ρ : Ren) (L : List ArgB) : Prop := ∀ (j : Nat) b, L[j]? = some b → b.Ok W (argR ρ L)
theorem ArgOk.nil : ArgOk W ρ [] := fun j b h => by cases h
theorem ArgOk.push (h : ArgOk W ρ L) (hb : b.Ok W (argR ρ L)) : ArgOk W ρ (L ++ [b]) := fun j x hx => by
 have hle : (argR ρ L).le (argR ρ (L ++ [b])) := argR_le (List.prefix_append _ _)
 by_cases hj : j < L.length
 ·rw [List.getElem?_append_left hj] at hx
  exact (h j x hx).mono hle
 rw [List.getElem?_append_right (by omega)] at hx
 cases e : j - L.length with
 | zero =>
  rw [e] at hx
  cases hx
  exact hb.mono hle
 | succ n =>
  rw [e] at hx
  simp at hx
structure ArgBase (P : Program) (W : World) (ρ : Ren) : Prop where
 glob : ∀ g, g < P.globals.size → ∃ c, ρ g = some ⟨g, 0, c⟩
 inb : ∀ b s, ρ b = some s → b < laidEnd ∧ s.blk < W.heap.size
theorem VsRel.len {ρ : Ren} : ∀ {a a' : List Value}, VsRel ρ a a' → a.length = a'.length
 | _, _, .nil => rfl
 | _, _, .cons _ hs => by simp [hs.len]
section
variable {H : Type} {enc : TypeId × Value → H} {P : Program} {W : World} {ρ : Ren} {held : Bool}
def Enters {α : Type} (enc : TypeId × Value → H) (P : Program) (W : World) (ρ : Ren) (held : Bool) (e : TypeId) (R : Kn → α → List Value → Prop) : Prop :=
 ∀ (fuel : Nat) (cs' : List Value) (x : DataW H × List MemPlace) (L : List ArgB), DataW.trod enc P W 0 (fun _ => true) held fuel e cs' = some x → ArgOk W ρ L → ∃ (L' : List ArgB) (a : α) (cs : List Value), L <+: L' ∧ ArgOk W ρ L' ∧ R (KA L') a cs ∧ VsRel (argR ρ L') cs cs'
def EntersL {α : Type} (enc : TypeId × Value → H) (P : Program) (W : World) (ρ : Ren) (held : Bool) (ts : List TypeId) (R : Kn → α → List Value → Prop) : Prop :=
 ∀ (cs' : List Value) (L : List ArgB), (∀ (i : Nat) t, ts[i]? = some t → ∃ (fuel : Nat) (y : DataW H × List MemPlace), DataW.trod enc P W 0 (fun _ => true) held fuel t ((cs'.drop i).take 1) = some y) → cs'.length = ts.length → ArgOk W ρ L → ∃ (L' : List ArgB) (a : α) (cs : List Value), L <+: L' ∧ ArgOk W ρ L' ∧ R (KA L') a cs ∧ VsRel (argR ρ L') cs cs'
theorem EntersL.nil : EntersL enc P W ρ held [] (fun _ (_ : Unit) cs => cs = []) := fun cs' L _ hl hL => by
 cases cs' with
 | nil => exact ⟨L, (), [], List.prefix_refl _, hL, rfl, .nil⟩
 | cons c r => simp at hl
theorem EntersL.cons {R1 : Kn → α → List Value → Prop} {R2 : Kn → β → List Value → Prop} (h1 : Enters enc P W ρ held t R1) (hm : ∀ K K' : Kn, (∀ b o, K b o → K' b o) → ∀ a cs, R1 K a cs → R1 K' a cs) (h2 : EntersL enc P W ρ held ts R2) : EntersL enc P W ρ held (t :: ts) (fun K (p : α × β) cs => ∃ a b, cs = a ++ b ∧ R1 K p.1 a ∧ R2 K p.2 b) := fun cs' L ht hl hL => by
 cases cs' with
 | nil => simp at hl
 | cons c r =>
  obtain ⟨fuel, y, e1⟩ := ht 0 t rfl
  obtain ⟨L1, a, ca, p1, ok1, hR1, hv1⟩ := h1 fuel [c] y L e1 hL
  obtain ⟨L2, b, cb, p2, ok2, hR2, hv2⟩ := h2 r L1 (fun i u hu => ht (i + 1) u hu) (by simpa using hl) ok1
  exact ⟨L2, (a, b), ca ++ cb, p1.trans p2, ok2, ⟨ca, cb, rfl, hm _ _ (KA.mono p2) _ _ hR1, hR2⟩, (hv1.mono (argR_le p2)).append hv2⟩
theorem Enters.map {R : Kn → α → List Value → Prop} {R' : Kn → β → List Value → Prop} (h : Enters enc P W ρ held t R) (g : α → β) (k : ∀ K a cs, R K a cs → R' K (g a) cs) : Enters enc P W ρ held t R' := fun fuel cs' x L e hL => by
 obtain ⟨L', a, cs, h1, h2, h3, h4⟩ := h fuel cs' x L e hL
 exact ⟨L', g a, cs, h1, h2, k _ _ _ h3, h4⟩
end
end Go.Ab
namespace Go.Ab
variable [Vals]
theorem Sl.take (h : Sl K sz R l (.slice a n cap)) (hk : kk ≤ l.length) : Sl K sz R (l.take kk) (.slice a kk cap) := by
 obtain ⟨a', cap', e, hn, hl⟩ := h
 cases e
 have hlen : (l.take kk).length = kk := by rw [List.length_take]; omega
 refine ⟨a, cap, by rw [hlen], by rw [hlen]; omega, ?_⟩
 rcases hl with ⟨rfl, ha⟩ | ⟨b, off, cs, el, g, md, mate, rfl, hb, hle, hc⟩
 ·exact .inl ⟨by simp, ha⟩
 refine .inr ⟨b, off, cs, el, g, md, mate, rfl, hb, ?_, fun i x hx => hc i x ?_⟩
 ·rw [hlen]
  have := Nat.mul_le_mul_right sz hk
  omega
 rw [List.getElem?_take] at hx
 split at hx
 ·exact hx
 cases hx
section
variable {α : Type} {X : Cx} {ops : Array Oper} {base : Nat} {rI : List Nat} {cl : Bool} {mk : List (Nat × Nat)} {e : Env} {h : Hp} {Q : Out → Prop} {o : Oper} {i : Info} {rest : List Oper} {drest : List (Oper × Info)} {t : Tmp}
def DeW (X : Cx) (ops : Array Oper) (base : Nat) (rI : List Nat) (W : List Nat) (as : List (Nat × Nat)) (e : Env) (h : Hp) (l : List (Oper × Info)) (Q : Out → Prop) : Prop :=
 ∀ ts m rs ws, Has X.n ts e → Knows X.S X.m0 m h → X.m0.next ≤ base ∧ base ≤ m.next → (∀ p ∈ rs, p.1 ∈ rI) → (∀ p ∈ ws, ∀ b ∈ p.2, b ∈ W) → Do X.P X.n ops base X.m0.lo l rs ws as ts m Q
theorem DeW.p (hi : i.cls = .p) (hd : o.dst = some t) (ht : Nat.blt t X.n = true) (hg : wantE ops e o = some true) (hv : opE X.P e o.op = some v) (q : DeW X ops base rI W mk ((t, v) :: e) h drest Q) : DeW X ops base rI W mk e h ((o, i) :: drest) Q := fun ts m rs ws h1 h2 h3 h4 h5 => by
 obtain ⟨k, out, g1, g2⟩ := q _ m rs ws (h1.put ht v) h2 h3 h4 h5
 obtain ⟨c1, _, c2⟩ := opE_spec h1 hv
 refine ⟨k, out, ?_, g2⟩
 unfold dops
 rw [wantE_spec h1 hg]
 simp only [cond_true, hi, doOp_p c1, doP, c2, hd]
 exact g1
theorem DeW.fieldAddr {j b off k : Nat} (hi : i.cls = .p) (hd : o.dst = some t) (ht : Nat.blt t X.n = true) (hg : wantE ops e o = some true) (ho : o.op = .fieldAddr s x j) (hx : evE X.P e x = some (.pointer (some ⟨b, off, none⟩))) (hf : ∀ b off, fieldAddrA X.P s (.pointer (some ⟨b, off, none⟩)) j = some (.pointer (some ⟨b, off + k, none⟩))) (q : DeW X ops base rI W mk ((t, .pointer (some ⟨b, off + k, none⟩)) :: e) h drest Q) : DeW X ops base rI W mk e h ((o, i) :: drest) Q :=
 DeW.p hi hd ht hg (by rw [ho]; simp only [opE, hx, hf]) q
theorem DeW.indexAddr {b off len cap sz j : Nat} (hi : i.cls = .p) (hd : o.dst = some t) (ht : Nat.blt t X.n = true) (hg : wantE ops e o = some true) (ho : o.op = .indexAddr ty x y) (hu : X.P.underlying ty = some (.slice el)) (hs : sizeT X.P el = some sz) (hx : evE X.P e x = some (.slice (some ⟨b, off, none⟩) len cap)) (hy : evE X.P e y = some (.int k (Int.ofNat j))) (hj : j < len) (q : DeW X ops base rI W mk ((t, .pointer (some ⟨b, off + j * sz, none⟩)) :: e) h drest Q) : DeW X ops base rI W mk e h ((o, i) :: drest) Q :=
 DeW.p hi hd ht hg (by
  rw [ho]
  simp only [opE, hx, hy]
  unfold indexAddrA
  simp only [asInt?, hu, hs]
  rw [nblt, decide_eq_true hj]
  rfl) q
theorem readOk_notIn {W : List Nat} (pre b : Nat) (hb : b ∉ W) : ∀ (ws : List (Nat × List Nat)), (∀ p ∈ ws, ∀ c ∈ p.2, c ∈ W) → readOk pre b ws = true
 | [], _ => rfl
 | (h, w) :: ws, hw => by
  have hn : notIn b w = true := by
   have h1 : ∀ c ∈ w, c ≠ b := fun c hc e => hb (e ▸ hw (h, w) List.mem_cons_self c hc)
   clear hw
   induction w with
   | nil => rfl
   | cons c w ih =>
    unfold notIn
    have h2 : Nat.beq b c = false := by rw [nbeq, decide_eq_false_iff_not]; exact fun e => h1 c List.mem_cons_self e.symm
    have h3 : Nat.beq c b = false := by rw [nbeq, decide_eq_false_iff_not]; exact h1 c List.mem_cons_self
    have h4 := ih fun c' hc => h1 c' (List.mem_cons_of_mem _ hc)
    simp [h2, h3, h4]
  unfold readOk
  rw [hn, Bool.or_true]
  exact readOk_notIn pre b hb ws fun p hp => hw p (List.mem_cons_of_mem _ hp)
theorem DeW.load {b off : Nat} (hi : i.cls = .l) (hd : o.dst = some t) (ht : Nat.blt t X.n = true) (hg : wantE ops e o = some true) (ho : o.op = .load ty a) (ha : evE X.P e a = some (.pointer (some ⟨b, off, none⟩))) (hty : aggT X.P ty = some false) (hs : Sees X h b (.cells cs el g md mate)) (hc : cs[off]? = some v) (hb : b < base) (hW : ∀ c, c ∈ W → ∃ oc, (c, oc) ∈ h ∧ oc ≠ .cells cs el g md mate) (q : DeW X ops base (i.i :: rI) W mk ((t, v) :: e) h drest Q) : DeW X ops base rI W mk e h ((o, i) :: drest) Q := fun ts m rs ws h1 h2 h3 h4 h5 => by
 have hbW : b ∉ W := fun h => by
  obtain ⟨oc, e1, e2⟩ := hW b h
  have := (h2.has b oc e1).1
  rw [hs m h2] at this
  exact e2 (Option.some.inj this).symm
 have hv : opL X.P ts o.op = some (.rd b fun o => match o with | .cells cs _ _ _ _ => cs[off]? | _ => none) := by
  rw [ho]
  simp only [opL, evE_ev h1 ha, Option.bind_some]
  exact loadA_false hty
 have hr : (m.heap.get b).bind (fun o => match o with | .cells cs _ _ _ _ => cs[off]? | _ => none) = some v := by rw [hs m h2]; exact hc
 cases hfull : (i.full && seenB i.pre b mk) with
 | true =>
  obtain ⟨k, out, g1, g2⟩ := q _ m rs ws (h1.put ht v) h2 h3 (fun p hp => List.mem_cons_of_mem _ (h4 p hp)) h5
  refine ⟨k, out, ?_, g2⟩
  unfold dops
  rw [wantE_spec h1 hg]
  simp only [cond_true, hi, hv, hd, hr, hfull]
  exact g1
 | false =>
  obtain ⟨k, out, g1, g2⟩ := q _ m ((i.i, b) :: rs) ws (h1.put ht v) h2 h3 (fun p hp => by
   rcases List.mem_cons.1 hp with rfl | hp
   ·exact List.mem_cons_self
   exact List.mem_cons_of_mem _ (h4 p hp)) h5
  refine ⟨k, out, ?_, g2⟩
  unfold dops
  rw [wantE_spec h1 hg]
  have : (Nat.blt b base && readOk i.pre b ws) = true := by
   rw [readOk_notIn _ _ hbW _ h5, nblt, decide_eq_true hb]
   rfl
  simp only [cond_true, hi, hv, hd, hr, hfull, cond_false, this]
  exact g1
theorem Upd.app {o o' : AObj} (u : Upd h b o o' h') : Upd (A ++ h) b o o' (A ++ h') := by
 induction A with
 | nil => exact u
 | cons p A ih => exact .tail ih
theorem Ie.drop (hs : h'.Sublist h) (q : Ie X ops e h' ops' Q) : Ie X ops e h ops' Q := fun ts m h1 h2 => q ts m h1 (h2.sub hs)
theorem De.drop (hs : h'.Sublist h) (q : De X ops base rI cl mk e h' l Q) : De X ops base rI cl mk e h l Q := fun ts m rs ws h1 h2 h3 h4 h5 => q ts m rs ws h1 (h2.sub hs) h3 h4 h5
end
end Go.Ab
namespace Go.Ab
variable [Vals]
section
variable {X : Cx} {ops : Array Oper} {e : Env} {h : Hp} {Q : Out → Prop} {o : Oper} {rest : List Oper} {t : Tmp} {v : Value}
theorem Ie.P (q : Ie X ops ((t, v) :: e) h rest Q) (hd : o.dst = some t := by exact rfl) (ht : Nat.blt t X.n = true := by exact rfl) (hg : wantE ops e o = some true := by exact rfl) (hv : opE X.P e o.op = some v := by exact rfl) : Ie X ops e h (o :: rest) Q := Ie.p hd ht hg hv q
theorem Ie.O (q : Ie X ops ((t, undef) :: e) h rest Q) (hd : o.dst = some t := by exact rfl) (ht : Nat.blt t X.n = true := by exact rfl) (hg : wantE ops e o = some false := by exact rfl) : Ie X ops e h (o :: rest) Q := Ie.off hd ht hg q
theorem Ie.F {i b off k : Nat} (hf : ∀ b off, fieldAddrA X.P s (.pointer (some ⟨b, off, none⟩)) i = some (.pointer (some ⟨b, off + k, none⟩))) (q : Ie X ops ((t, .pointer (some ⟨b, off + k, none⟩)) :: e) h rest Q) (hd : o.dst = some t := by exact rfl) (ht : Nat.blt t X.n = true := by exact rfl) (hg : wantE ops e o = some true := by exact rfl) (ho : o.op = .fieldAddr s x i := by exact rfl) (hx : evE X.P e x = some (.pointer (some ⟨b, off, none⟩)) := by exact rfl) : Ie X ops e h (o :: rest) Q := Ie.fieldAddr hd ht hg ho hx hf q
theorem Ie.L {b off : Nat} (hty : aggT X.P ty = some false) (q : Ie X ops ((t, v) :: e) h rest Q) (hd : o.dst = some t := by exact rfl) (ht : Nat.blt t X.n = true := by exact rfl) (hg : wantE ops e o = some true := by exact rfl) (ho : o.op = .load ty a := by exact rfl) (ha : evE X.P e a = some (.pointer (some ⟨b, off, none⟩)) := by exact rfl) (hs : Sees X h b (.cells cs el g md mate) := by repeat first | exact .head | exact .app .head | exact .base ‹_› ‹_› (by simp) | refine .tail ?_ | refine .app ?_) (hc : cs[off]? = some v := by exact rfl) : Ie X ops e h (o :: rest) Q := Ie.load hd ht hg ho ha hty hs hc q
theorem Ie.K {b off len cap sz j : Nat} (hu : X.P.underlying ty = some (.slice el)) (hs : sizeT X.P el = some sz) (q : Ie X ops ((t, .pointer (some ⟨b, off + j * sz, none⟩)) :: e) h rest Q) (hd : o.dst = some t := by exact rfl) (ht : Nat.blt t X.n = true := by exact rfl) (hg : wantE ops e o = some true := by exact rfl) (ho : o.op = .indexAddr ty x i := by exact rfl) (hx : evE X.P e x = some (.slice (some ⟨b, off, none⟩) len cap) := by exact rfl) (hi : evE X.P e i = some (.int k (Int.ofNat j)) := by exact rfl) (hj : j < len := by omega) : Ie X ops e h (o :: rest) Q := Ie.indexAddr hd ht hg ho hu hs hx hi hj q
end
end Go.Ab
namespace Go.Ab
variable [Vals]
structure PairT (P : Program) (t e : TypeId) (k : IntKind) : Prop where
 arr : P.underlying t = some (.array 2 e)
 num : P.underlying e = some (.int k)
 size : sizeT P e = some 1
 fst : ∀ a b, partA P e [.int k a, .int k b] 0 = some (.int k a)
 snd : ∀ a b, partA P e [.int k a, .int k b] 1 = some (.int k b)
section
variable {X : Cx} {ops : Array Oper} {e : Env} {h : Hp} {Q : Out → Prop} {o : Oper} {rest : List Oper} {t : Tmp}
end
section
variable {X : Cx} {ops : Array Oper} {base : Nat} {rI : List Nat} {cl : Bool} {mk : List (Nat × Nat)} {e : Env} {h : Hp} {Q : Out → Prop} {o : Oper} {i : Info} {rest : List (Oper × Info)} {t : Tmp} {v : Value}
end
end Go.Ab
namespace Go.Ab
variable [Vals]
theorem Flat.take (h : Flat sz R l vs) (hj : j ≤ l.length) : Flat sz R (l.take j) (vs.take (j * sz)) := by
 obtain ⟨h1, h2⟩ := h
 have hle : j * sz ≤ vs.length := by
  rw [h1]
  exact Nat.mul_le_mul_right _ hj
 refine ⟨by rw [List.length_take, List.length_take, Nat.min_eq_left hle, Nat.min_eq_left hj], fun i x hx => ?_⟩
 rw [List.getElem?_take] at hx
 split at hx
 ·rename_i hlt
  have := h2 i x hx
  have h3 : i * sz + sz ≤ j * sz := by
   have := Nat.mul_le_mul_right sz (show i + 1 ≤ j by omega)
   rw [Nat.add_mul, Nat.one_mul] at this
   exact this
  rw [List.drop_take, List.take_take, Nat.min_eq_left (by omega)]
  exact this
 cases hx
section
variable {α : Type} {X : Cx} {ops : Array Oper} {base : Nat} {rI : List Nat} {cl : Bool} {mk : List (Nat × Nat)} {e : Env} {h : Hp} {Q : Out → Prop} {o : Oper} {i : Info} {rest : List Oper} {drest : List (Oper × Info)} {t : Tmp}
theorem Flat.drop (h : Flat sz R l vs) : ∀ i x, (l.drop j)[i]? = some x → R x ((vs.drop (j * sz + i * sz)).take sz) := fun i x hx => by
 rw [List.getElem?_drop] at hx
 have := h.2 _ x hx
 rwa [Nat.add_mul] at this
end
end Go.Ab
namespace Go.Ab
variable [Vals]
def mkI : Nat → List (Nat × Nat) → List Info
 | _, [] => []
 | n, (c, p) :: l => ⟨n, match c / 4 with | 0 => .l | 1 => .h | 2 => .a | _ => .p, Nat.beq (c / 2 % 2) 1, Nat.beq (c % 2) 1, p⟩ :: mkI (n + 1) l
section
variable {X : Cx} {ops : Array Oper} {base : Nat} {rI : List Nat} {cl : Bool} {mk : List (Nat × Nat)} {e : Env} {h : Hp} {Q : Out → Prop} {o : Oper} {i : Info} {rest : List Oper} {drest : List (Oper × Info)} {t : Tmp} {v : Value}
theorem Ce.D {id : Nat} (l : List (Nat × Nat)) (hi : infos X.P ops.toList = mkI 0 l) (htm : tmpsOk (ops.toList.zip (mkI 0 l)) ops.toList = true) (q : ∀ base, X.m0.next ≤ base → (∀ b o, (b, o) ∈ h → b < base) → De X ops base [] true [] e h (ops.toList.zip (mkI 0 l)) Q) : Ce X e h (.region id ops true) Q := Ce.draw _ hi htm q
theorem Ie.S {b off n : Nat} (hsz : sizeT X.P ty = some (n + 1)) (q : Ie X ops e h' rest Q) (hd : o.dst = none := by exact rfl) (hg : wantE ops e o = some true := by exact rfl) (ho : o.op = .store ty a x := by exact rfl) (ha : evE X.P e a = some (.pointer (some ⟨b, off, none⟩)) := by exact rfl) (hx : evE X.P e x = some y := by exact rfl) (hl : (cellsOfV y).length = n + 1 := by exact rfl) (hu : Upd h b (.cells cs el g md none) (.cells (putCells cs off (cellsOfV y)) el g md none) h' := by first | exact .head | exact .tail .head | exact .tail (.tail .head) | exact .tail (.tail (.tail .head))) (hw : (md.writes && Nat.ble (off + (cellsOfV y).length) cs.length && flats (cellsOfV y)) = true := by exact rfl) : Ie X ops e h (o :: rest) Q := Ie.store hd hg ho ha hx hsz hl hu hw q
theorem Ie.A {b off n : Nat} (hty : aggT X.P ty = some true) (hsz : sizeT X.P ty = some n) (hs : Sees X h b (.cells cs el g md mate)) (hc : (cs.drop off).take n = vs) (q : Ie X ops ((t, .agg ⟨vs⟩) :: e) h rest Q) (hd : o.dst = some t := by exact rfl) (ht : Nat.blt t X.n = true := by exact rfl) (hg : wantE ops e o = some true := by exact rfl) (ho : o.op = .load ty a := by exact rfl) (ha : evE X.P e a = some (.pointer (some ⟨b, off, none⟩)) := by exact rfl) (hl : off + n ≤ cs.length := by omega) : Ie X ops e h (o :: rest) Q := Ie.loadAgg hd ht hg ho ha hty hsz hs hl hc q
theorem De.P (q : De X ops base rI cl mk ((t, v) :: e) h drest Q) (hi : i.cls = .p := by exact rfl) (hd : o.dst = some t := by exact rfl) (ht : Nat.blt t X.n = true := by exact rfl) (hg : wantE ops e o = some true := by exact rfl) (hv : opE X.P e o.op = some v := by exact rfl) : De X ops base rI cl mk e h ((o, i) :: drest) Q := De.p hi hd ht hg hv q
theorem De.O (q : De X ops base rI cl mk ((t, undef) :: e) h drest Q) (hd : o.dst = some t := by exact rfl) (ht : Nat.blt t X.n = true := by exact rfl) (hg : wantE ops e o = some false := by exact rfl) : De X ops base rI cl mk e h ((o, i) :: drest) Q := De.off hd ht hg q
theorem De.F {j b off k : Nat} (hf : ∀ b off, fieldAddrA X.P s (.pointer (some ⟨b, off, none⟩)) j = some (.pointer (some ⟨b, off + k, none⟩))) (q : De X ops base rI cl mk ((t, .pointer (some ⟨b, off + k, none⟩)) :: e) h drest Q) (hi : i.cls = .p := by exact rfl) (hd : o.dst = some t := by exact rfl) (ht : Nat.blt t X.n = true := by exact rfl) (hg : wantE ops e o = some true := by exact rfl) (ho : o.op = .fieldAddr s x j := by exact rfl) (hx : evE X.P e x = some (.pointer (some ⟨b, off, none⟩)) := by exact rfl) : De X ops base rI cl mk e h ((o, i) :: drest) Q := De.fieldAddr hi hd ht hg ho hx hf q
theorem De.K {b off len cap sz j : Nat} (hu : X.P.underlying ty = some (.slice el)) (hs : sizeT X.P el = some sz) (q : De X ops base rI cl mk ((t, .pointer (some ⟨b, off + j * sz, none⟩)) :: e) h drest Q) (hi : i.cls = .p := by exact rfl) (hd : o.dst = some t := by exact rfl) (ht : Nat.blt t X.n = true := by exact rfl) (hg : wantE ops e o = some true := by exact rfl) (ho : o.op = .indexAddr ty x y := by exact rfl) (hx : evE X.P e x = some (.slice (some ⟨b, off, none⟩) len cap) := by exact rfl) (hy : evE X.P e y = some (.int k (Int.ofNat j)) := by exact rfl) (hj : j < len := by omega) : De X ops base rI cl mk e h ((o, i) :: drest) Q := De.indexAddr hi hd ht hg ho hu hs hx hy hj q
theorem De.N {b off : Nat} (hty : aggT X.P ty = some false) (hs : Sees X h b (.cells cs el g md mate)) (hc : cs[off]? = some v) (hb : b < base) (q : De X ops base (i.i :: rI) true mk ((t, v) :: e) h drest Q) (hi : i.cls = .l := by exact rfl) (hd : o.dst = some t := by exact rfl) (ht : Nat.blt t X.n = true := by exact rfl) (hg : wantE ops e o = some true := by exact rfl) (ho : o.op = .load ty a := by exact rfl) (ha : evE X.P e a = some (.pointer (some ⟨b, off, none⟩)) := by exact rfl) : De X ops base rI true mk e h ((o, i) :: drest) Q := De.loadOld hi hd ht hg ho ha hty hs hc hb q
theorem De.R {h0 : Hp} {b off : Nat} (hty : aggT X.P ty = some false) (hB : ∀ b o, (b, o) ∈ h0 → b < base) (q : De X ops base (i.i :: rI) true mk ((t, v) :: e) h drest Q) (hi : i.cls = .l := by exact rfl) (hd : o.dst = some t := by exact rfl) (ht : Nat.blt t X.n = true := by exact rfl) (hg : wantE ops e o = some true := by exact rfl) (ho : o.op = .load ty a := by exact rfl) (ha : evE X.P e a = some (.pointer (some ⟨b, off, none⟩)) := by exact rfl) (hs : Sees X h b (.cells cs el g md mate) := by repeat first | exact .head | exact .app .head | exact .base ‹_› ‹_› (by simp) | refine .tail ?_ | refine .app ?_) (hc : cs[off]? = some v := by exact rfl) (hb : ∃ o, (b, o) ∈ h0 := by first | exact ⟨_, .head _⟩ | exact ⟨_, .tail _ (.head _)⟩ | exact ⟨_, .tail _ (.tail _ (.head _))⟩ | exact ⟨_, .tail _ (.tail _ (.tail _ (.head _)))⟩ | exact ⟨_, List.mem_append_right _ (.head _)⟩ | exact ⟨_, List.mem_append_right _ (.tail _ (.head _))⟩) : De X ops base rI true mk e h ((o, i) :: drest) Q := De.loadOld hi hd ht hg ho ha hty hs hc (hb.elim fun o ho => hB b o ho) q
theorem Ie.P2 (q : Ie X ops ((t2, v2) :: (t1, v1) :: e) h rest Q) (hd1 : o1.dst = some t1 := by exact rfl) (ht1 : Nat.blt t1 X.n = true := by exact rfl) (hg1 : wantE ops e o1 = some true := by exact rfl) (hv1 : opE X.P e o1.op = some v1 := by exact rfl) (hd2 : o2.dst = some t2 := by exact rfl) (ht2 : Nat.blt t2 X.n = true := by exact rfl) (hg2 : wantE ops ((t1, v1) :: e) o2 = some true := by exact rfl) (hv2 : opE X.P ((t1, v1) :: e) o2.op = some v2 := by exact rfl) : Ie X ops e h (o1 :: o2 :: rest) Q := Ie.p hd1 ht1 hg1 hv1 (Ie.p hd2 ht2 hg2 hv2 q)
theorem Ie.P3 (q : Ie X ops ((t3, v3) :: (t2, v2) :: (t1, v1) :: e) h rest Q) (hd1 : o1.dst = some t1 := by exact rfl) (ht1 : Nat.blt t1 X.n = true := by exact rfl) (hg1 : wantE ops e o1 = some true := by exact rfl) (hv1 : opE X.P e o1.op = some v1 := by exact rfl) (hd2 : o2.dst = some t2 := by exact rfl) (ht2 : Nat.blt t2 X.n = true := by exact rfl) (hg2 : wantE ops ((t1, v1) :: e) o2 = some true := by exact rfl) (hv2 : opE X.P ((t1, v1) :: e) o2.op = some v2 := by exact rfl) (hd3 : o3.dst = some t3 := by exact rfl) (ht3 : Nat.blt t3 X.n = true := by exact rfl) (hg3 : wantE ops ((t2, v2) :: (t1, v1) :: e) o3 = some true := by exact rfl) (hv3 : opE X.P ((t2, v2) :: (t1, v1) :: e) o3.op = some v3 := by exact rfl) : Ie X ops e h (o1 :: o2 :: o3 :: rest) Q := Ie.p hd1 ht1 hg1 hv1 (Ie.p hd2 ht2 hg2 hv2 (Ie.p hd3 ht3 hg3 hv3 q))
end
end Go.Ab